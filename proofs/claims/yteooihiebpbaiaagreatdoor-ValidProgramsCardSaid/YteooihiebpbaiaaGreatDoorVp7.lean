/-
  Part 7: AmAppRun · AmFreeze · AmBox · AmAppend · AmAppendOp.
-/
import Derived.Test.YteooihiebpbaiaaGreatDoorVp6
import Derived.Laws.Append
import Derived.Laws.CopyRow
import Derived.Laws.AppendOwn
set_option linter.unusedSimpArgs false
set_option linter.unusedVariables false
set_option linter.unusedSectionVars false
set_option linter.unnecessarySimpa false
section
namespace Go.Am
def isSS:TypeDesc->Bool
 |.slice _=>true
 |.string=>true
 |_=>false
variable{d:TypeDesc}
theorem oI(h:isSS d=true):(∃e,d=.slice e)\/d=.string:=by cases d<;>simp[isSS]at h|-
variable{e t tt u:TypeId}{i:TypeInfo}{ws:List Value}{x z:Value}
section
variable {P:Program} {w:World}
structure Src (P:Program) (w:World) (size:Nat) (x:Value) (n:Nat) (ws:List Value):Prop where
 len:∀w',(Builtin.lenOf x).run P w'=.ok n w'
 cells:∀w':World,w'.heap=w.heap->(Builtin.firstCells size n x).run P w'=.ok ws.toArray w'
 size:ws.length=n*size
theorem vR{size n c:Nat}{b o:Nat}(hl:ws.length=n*size)(h:W9 w b o ws):Src P w size (.slice (some ⟨b,o,none⟩) n c) n ws:=by refine⟨λ_=>rfl,λw' hw=>?_,hl⟩;refine run_firstCells_some w' size n _ n c ws hl (λj v hv=>?_);rw[eN];exact(dJ (by rw[hw])).trans (h j v hv)
theorem pD{size c:Nat}{a:Option Addr}:Src P w size (.slice a 0 c) 0 []:=by
 refine⟨λ_=>rfl,λw' _=>?_,by simp⟩;cases a with
 |none=>rfl
 |some a=>simp only[Builtin.firstCells,Nat.zero_mul];rfl
theorem Z2{l:a8}:Src P w 1 (.string ⟨l.toArray⟩) l.length (l.map λb=>.int .u8 b.toNat):=by
 have hs:(⟨l.toArray⟩:ByteArray).size=l.length:=by rfl
 refine⟨λw'=>?_,λw' _=>?_,by simp⟩
 all_goals grind [Builtin.lenOf,Sem.run_pure,Builtin.firstCells,ByteArray.data_extract]
theorem IH(g:P.underlying t=some (.slice e))(f:P.underlying u=some d)(hd:isSS d=true)(hi:P.info? e=some i)
  {a:Option Addr} {n c m:Nat} (hx:Src P w i.size x m ws) (b:n+m<=c) (hw:ws=[]\/a=none) :
  (Builtin.append_ #[t,u] tt #[.slice a n c,x]).run P w=.ok (.slice a (n+m) c) w:=by
 have h1:=hx.len w
 have h2:=hx.cells w rfl
 cases a with
 |none=>
  rcases oI hd with⟨e',rfl⟩|rfl
  all_goals simp[Builtin.append_,run_underlying g,run_underlying f,sizeOf,typeInfo,hi,h1,h2,b]
 |some a=>
  have:ws=[]:=by grind
  subst this;rcases oI hd with⟨e',rfl⟩|rfl
  all_goals simp[Builtin.append_,run_underlying g,run_underlying f,sizeOf,typeInfo,hi,h1,h2,b,storeCells]
theorem Sa(k:P.underlying t=some (.slice e))(j:P.underlying u=some d)(hd:isSS d=true)(hi:P.info? e=some i)
  {g n c m:Nat} {cur:Array Value} {ty':TypeId} (h:w.heap[g]? = some (.cells cur ty' (0,0))) (hx:Src P w i.size x m ws) (h1':∀v∈ws,v.oneCell'=true) (a:n+m<=c) (f:n*i.size+ws.length<=cur.size) :
  (Builtin.append_ #[t,u] tt #[.slice (some ⟨g,0,none⟩) n c,x]).run P w =
   .ok (.slice (some ⟨g,0,none⟩) (n+m) c) (w.setRow g (cur.toList.take (n*i.size)++ws++cur.toList.drop (n*i.size+ws.length)).toArray):=by
 have h1:=hx.len w
 have h2:=hx.cells w rfl
 have b:=run_storeCells_at P g (n*i.size) ty' ws 0 cur w h kQ1 h1'
 simp only[anK]at b;rcases oI hd with⟨e',rfl⟩|rfl
 all_goals simp[Builtin.append_,run_underlying k,run_underlying j,sizeOf,typeInfo,hi,h1,h2,a,Addr.add_lit,b]
theorem IG{b:List Value}(k:P.underlying t=some (.slice e))(j:P.underlying u=some d)(hd:isSS d=true)(hi:P.info? e=some i)
  (o:i.zero=some z) {a:Option Addr} {n c m:Nat} (hx:Src P w i.size x m ws) (h:Src P w i.size (.slice a n c) n b) (p:c<n+m) (l:((n+m:Nat):Int)<=9223372036854775807) (hb:(n+m)*i.bytes<=140737488355328) :
  (Builtin.append_ #[t,u] tt #[.slice a n c,x]).run P w =
   .ok (.slice (some ⟨w.heap.size,0,none⟩) (n+m) (grownCap w (n+m) c e))
    (w.drew.alloc (.cells ((b++ws).toArray++Builtin.zeroCells z.cells (grownCap w (n+m) c e - (n+m))) e)):=by
 have h1:=hx.len w
 have h2:=hx.cells w.drew rfl
 have h3:=h.cells w.drew rfl
 have hn:¬ (n+m<=c):=by omega
 have f:¬ (9223372036854775807 < ((n:Int)+(m:Int))):=by omega
 have g:¬ (281474976710656<Builtin.nextslicecap (n+m) c*i.bytes):=by simp_all[growslice_fits]
 rcases oI hd with⟨e',rfl⟩|rfl
 all_goals simp[Builtin.append_,run_underlying k,run_underlying j,sizeOf,typeInfo,zeroValue,hi,o,h1,h2,h3,hn,f,g,Question.forced,newRow,grownCap]
 all_goals grind
theorem JB{a b:Nat}:a<=grownCap w a b e:=by grind [grownCap,Question.cut]
end
def AV1.map(f:T->T):AV1->AV1
 |.c t=>.c (f t)
 |.agg ts=>.agg (ts.map f)
def AV.map(f:T->T):AV->AV
 |.one x=>.one (x.map f)
 |.tup xs=>.tup (xs.map (·.map f))
 |.any=>.any
def s4(f:AV->AV)(t:List (Nat×AV)):List (Nat×AV):=t.map λx=>(x.1,f x.2)
theorem q8{f:AV->AV}(hf:f .any=.any):∀(t:List (Nat×AV))(i:Nat),aW (s4 f t) i=f (aW t i)
 |[],i=>hf.symm
 |(k,v)::t,i=>by
  simp only[s4,List.map_cons,aW];split
  .rfl
  exact q8 hf t i
variable{H':FH}{m m':Mm}{w':World}{γ':Gam}
theorem ZL{w:World}{H:FH}{γ:Gam}{f:T->T}(hf:∀t y,TR w H γ m t (λ_=>0) y->TR w' H' γ' m' (f t) (λ_=>0) y) :
  ∀{ts:List T}{g:Fp}{vs:List Value},(∀b,g b=0)->Ts (TR w H γ m) ts g vs->Ts (TR w' H' γ' m') (ts.map f) g vs:=by
 intro ts g vs a h;unfold Ts;rw[akV];refine L1 (λ_ t k y hk c=>?_) h;have:k=λ_=>0:=by grind
 grind
theorem Pd{w:World}{H:FH}{γ:Gam}{f:T->T}(hf:∀t y,TR w H γ m t (λ_=>0) y->TR w' H' γ' m' (f t) (λ_=>0) y)
  {x:AV1} {y:Value} (h:AR1 w H γ m x y):AR1 w' H' γ' m' (x.map f) y:=by
 cases x with
 |c t=>exact hf t y h
 |agg ts=>obtain⟨cs,h1,h2,h3⟩:=h;exact⟨cs,h1,by grind,ZL hf (λ_=>rfl) h3⟩
theorem Pe{w:World}{H:FH}{γ:Gam}{f:T->T}(hf:∀t y,TR w H γ m t (λ_=>0) y->TR w' H' γ' m' (f t) (λ_=>0) y) :
  ∀{xs:List AV1}{a:List Value},ARs w H γ m xs a->ARs w' H' γ' m' (xs.map (·.map f)) a
 |[],[],_=>trivial
 |_::_,_::_,h=>⟨Pd hf h.1,Pe hf h.2⟩
 |[],_::_,h=>h.elim
 |_::_,[],h=>h.elim
theorem iG{w:World}{H:FH}{γ:Gam}{f:T->T}(hf:∀t y,TR w H γ m t (λ_=>0) y->TR w' H' γ' m' (f t) (λ_=>0) y)
  {x:AV} {y:Value} (h:AR w H γ m x y):AR w' H' γ' m' (x.map f) y:=by
 cases x with
 |one x=>exact Pd hf h
 |tup xs=>obtain⟨l,h1,h2⟩:=h;exact⟨l,h1,Pe hf h2⟩
 |any=>trivial
def T.frz(q:Pl)(l:List (List D)):T->T
 |.rf p=>match p with
  |⟨n,o,[]⟩=>if n=q.root/\o=q.off then .d (.li l)else(T.rf ⟨n,o,[]⟩).kill (thr q)
  |p=>(T.rf p).kill (thr q)
 |t=>t.kill (thr q)
def Jv(m:Mm)(q:Pl)(l:List (List D)):Mm:=bk (aM (thr q) (bk m q .any)) q (.d (.li l))
def Jw(s:S)(q:Pl):S:=
 match q.path,aU s.m q with
 |[],some (.ow _ l)=>⟨s4 (AV.map (T.frz q l)) s.t,Jv s.m q l⟩
 |_,_=>s
variable{n:Nm}{v:Value}
theorem L7{w:World}{H:FH}{γ:Gam}{F:Nm->Fp}(hm:Mem w H γ m F){off:Nat}(c:aU m ⟨n,off,[]⟩=some .any)(hv:aH w (γ n) off=some v){x:D}(hx:FDx H x v) :
  Mem w H γ (bk m ⟨n,off,[]⟩ (.d x)) F/\Keeps w γ m w γ (bk m ⟨n,off,[]⟩ (.d x)):=by
 unfold aU at c;cases hr:ah m n with
 |none=>grind
 |some r=>
  rw[hr]at c;dsimp only at c;have f:=bT c
  have e:bk m ⟨n,off,[]⟩ (.d x)=cz m n { r with cells:=r.cells.set off (.d x) }:=by grind [bk]
  have i:∀k,ah (bk m ⟨n,off,[]⟩ (.d x)) k=if n=k then some { r with cells:=r.cells.set off (.d x) }else ah m k:=λk=>by grind [fM]
  have o:Keeps w γ m w γ (bk m ⟨n,off,[]⟩ (.d x)):=by
   constructor
   .intro q hq;refine⟨?_,rfl⟩;rw[ay]at hq|-;rw[i];obtain⟨j,h1,h2⟩:=hq;by_cases hn:n=q.root
    .rw[if_pos hn];rw[<- hn,hr]at h1;obtain rfl:r=j:=by grind
     refine⟨_,rfl,?_⟩;obtain⟨A,B,C⟩:=q;dsimp only[aS]at h2|-
     grind
    grind
   intro q hq;refine⟨?_,rfl⟩;rw[bV]at hq|-;rw[i];obtain⟨j,h1,h2⟩:=hq;by_cases hn:n=q.root
   .rw[if_pos hn];rw[<- hn,hr]at h1;obtain rfl:r=j:=by grind
    refine⟨_,rfl,?_⟩;dsimp only[bz]at h2|-
    grind
   grind
  refine⟨⟨hm.agree,?_,?_,?_,?_,?_⟩,o⟩
  .intro y hy;rw[e]at hy;rcases qf hm.keys hy with⟨_,hy⟩|rfl
   .exact aZ o (λ_ _ _ h=>h) rfl (λ_ _=>rfl) (hm.roots y hy)
   have a:=hm.roots _ (aj hr)
   dsimp only at a|-;have a:=aZ o (λ_ _ _ h=>h) rfl (λ_ _=>rfl) a
   unfold bv at a|-;dsimp only;split at a
   .rename_i hb;rw[if_pos hb];obtain⟨b,cs,ty,fz,g,h1,h2,h3,h4,h5,h6⟩:=a;refine⟨b,cs,ty,fz,g,h1,h2,h3,by grind,?_,h6⟩;unfold Ts at h5|-;rw[amG];obtain⟨s0,t0,v0,z,fr,E,p,a3,a4,a5,u,_⟩:=cX _ _ _ _ off h5 f;rw[c]at p;obtain rfl:T.any=t0:=by grind
    have l:v0=v:=by grind [aH,World.cell?]
    subst l;have h0:∀b,z b=0:=a5
    have:=u (λ(_:Unit) t=>TR w H γ (bk m ⟨n,off,[]⟩ (.d x)) t) (.d x) v0 (λ_=>0) (λ_ _ _ _ _ h=>h) ⟨λ_=>rfl,hx⟩
    grind [qA,pv]
   rename_i hb;rw[if_neg hb];obtain⟨s,t,h1,h2,h3⟩:=a;rw[h2]at c f;have:off=0:=by grind
   subst this;obtain rfl:t=.any:=by grind
   rw[h1]at hv;simp only[aH,if_true,akO]at hv;subst hv;exact⟨s,.d x,h1,by grind,h3,hx⟩
  .grind [np,Mem.keys]
  .grind [dH,Mem.le1]
  .intro b hb;rw[e,dH]at hb;exact hm.lt b hb
  intro b hb;rw[e,dH]at hb;exact hm.nofz b hb
section
variable {P:Program} {g:G} {s:S} {a:Act} {w:World} {H:FH} {γ:Gam} {F:Nm->Fp}
theorem Ma(h:RX g s a w H γ F)(q:Pl):∃H' F',RX g (Jw s q) a w H' γ F':=by
 unfold Jw;obtain⟨n,off,path⟩:=q;cases path with
 |cons st u=>grind
 |nil=>
  dsimp only;cases D:aU s.m ⟨n,off,[]⟩with
  |none=>grind
  |some t=>
   cases t with
   |ow sub l=>
    dsimp only;have d:bU s.m ⟨n,off,[]⟩:=by
     unfold aU at D;rw[ay];cases hr:ah s.m n with
     |none=>grind
     |some r=>rw[hr]at D;exact⟨r,rfl,bT D⟩
    obtain⟨f,v,R,O,t3,t4,t5⟩:=zd h.mem d D
    let H':FH:=λb o=>if f b≠0 then(w.cell? ⟨b,o,none⟩).map HV.c else H b o
    have N:∀b o y,H b o=some y->H' b o=some y:=by
     intro b o y hy;simp only[H'];split
     .rename_i e;rw[h.mem.nofz b (by grind) o]at hy;cases hy
     omega
    have I:∀b o y,H' b o=some y->RdV w b o y:=by
     intro b o y hy;simp only[H']at hy;split at hy
     .obtain⟨z,S,rfl⟩:=ak5.1 hy;exact S
     exact h.mem.agree b o y hy
    have L:=t5 H' N I (λb hb o=>by
     have h1:=t4 b;have h2:=h.mem.le1 b
     simp only[H'];rw[if_neg kQ1];exact h.mem.nofz b kQ1 o)
    have hx:FDx H' (.li l) v:=by
     obtain⟨k,G⟩:=O
     grind [VS]
    have C:aU (aM (thr ⟨n,off,[]⟩) (bk s.m ⟨n,off,[]⟩ .any)) ⟨n,off,[]⟩=some .any:=by obtain⟨r,hr,A⟩:=ay.1 d;dsimp only[aS]at hr A;unfold aU;rw[kY,Aj (t:=T.any) hr];simp only[if_true,Option.map_some,akT];rw[alH A];rfl
    have hv:aH w (γ n) off=some v:=R
    obtain⟨E,M⟩:=L7 L C hv hx;have J:=px h.mem d
    refine⟨H',_,⟨E,?_,h.nt,h.df,λi=>?_⟩⟩
    .have B:∀b,tot (λk b=>F k b-if k=n then f b else 0) (Jv s.m ⟨n,off,[]⟩ l) b=tot (λk b=>F k b-if k=n then f b else 0) s.m b:=by grind [Jv,bk,dH,bg]
     refine⟨h.fr.size,h.fr.os,h.fr.tape,h.fr.output,h.fr.block,λb o y hy=>N _ _ _ (h.fr.hold b o y hy),λb o h1 h2=>?_,λb hb=>?_,h.fr.nz.1,λb o x l' c h1 h2=>?_⟩
     rotate_left 2
     .by_cases hb:f b=0
      .simp only[H']at h1;rw[if_neg kQ1]at h1;exact h.fr.nz.2 b o x l' c h1 h2
      obtain⟨k,G⟩:=O
      grind [P5]
     .by_cases hb:f b=0
      .simp only[H']at h1;rw[if_neg kQ1]at h1;exact h.fr.hnew b o h1 h2
      exact h.fr.tt b (by grind)
     have K:=B b
     have h4:=t4 b
     dsimp only at h4 K;have Q:tot (λk b=>F k b-if k=n then f b else 0) (Jv s.m ⟨n,off,[]⟩ l) b≠0:=hb
     refine h.fr.tt b ?_;omega
    show AR w H' γ _ (aW (s4 _ s.t) i) _
    rw[q8 rfl];refine iG (λt y j=>?_) (h.t i);have hk:=λ(t:T) (j:TR w H γ s.m t (λ_=>0) y)=>jk M (λ_ _ _ h=>h) (λ_ hb=>absurd rfl hb) (qR J N (λ_ hb=>absurd rfl hb) j)
    cases t with
    |rf p=>
     obtain⟨W,V,U⟩:=p;cases U with
     |nil=>
      simp only[T.frz];split
      .rename_i hc;obtain⟨rfl,rfl⟩:=hc;obtain⟨_,_,P⟩:=j;have:y=v:=by grind
       subst this;exact⟨λ_=>rfl,hx⟩
      exact hk _ j
     |cons st u=>exact hk _ j
    |_=>exact hk _ j
   |_=>grind
def Xu(s:S):T->S
 |.rf p=>Jw s p
 |_=>s
def Dw:S->List T->S
 |s,[]=>s
 |s,t::ts=>Dw (Xu s t) ts
def Jx(s:S):AV->S
 |.one (.c t)=>Xu s t
 |.one (.agg ts)=>Dw s ts
 |_=>s
def pc(s:S):List AV->S
 |[]=>s
 |v::vs=>pc (Jx s v) vs
theorem P6(h:RX g s a w H γ F)(t:T):∃H' F',RX g (Xu s t) a w H' γ F':=by
 cases t with
 |rf p=>exact Ma h p
 |_=>exact⟨H,F,h⟩
theorem Iq:∀(ts:List T)(s:S)(H:FH)(F:Nm->Fp),RX g s a w H γ F->∃H' F',RX g (Dw s ts) a w H' γ F'
 |[],s,H,F,h=>⟨H,F,h⟩
 |t::ts,s,H,F,h=>by obtain⟨H1,F1,h1⟩:=P6 h t;exact Iq ts _ H1 F1 h1
theorem Ex(h:RX g s a w H γ F)(v:AV):∃H' F',RX g (Jx s v) a w H' γ F':=by
 unfold Jx;split
 .exact P6 h _
 .exact Iq _ _ _ _ h
 grind
theorem tZ:∀(vs:List AV)(s:S)(H:FH)(F:Nm->Fp),RX g s a w H γ F->∃H' F',RX g (pc s vs) a w H' γ F'
 |[],s,H,F,h=>⟨H,F,h⟩
 |v::vs,s,H,F,h=>by obtain⟨H1,F1,h1⟩:=Ex h v;exact tZ vs _ H1 F1 h1
end
def S.fresh(s:S)(n:Nm):S:=match ah s.m n with
 |none=>s
 |some _=>s.drop n
def S.root(s:S)(n:Nm)(r:Root):S:=⟨s.t,(n,r)::s.m⟩
def zcells(P:Program)(t:TypeId):Option (List Value):=
 match P.info? t with
 |some it=>match it.zero with
  |some z=>if z.cells.all okT=true then some z.cells.toList else none
  |none=>none
 |none=>none
def T.fz:T->D
 |.d x=>x
 |.nil=>.li []
 |_=>.any
variable{α:Type}
def chunk(size:Nat):Nat->List α->List (List α)
 |0,_=>[]
 |n+1,l=>l.take size::chunk size n (l.drop size)
theorem oo{size:Nat}:∀{n:Nat}{l:List α},(chunk size n l).length=n
 |0,_=>rfl
 |n+1,l=>by simp only[chunk,akY,oo]
theorem sO{size:Nat}:∀{n:Nat}{l:List α},l.length=n*size->(chunk size n l).flatten=l
 |0,l,h=>by
  have:l=[]:=by grind
  subst this;rfl
 |n+1,l,h=>by rw[Nat.add_mul]at h;simp only[chunk,List.flatten_cons];rw[sO (by grind),amH]
theorem wc{size:Nat}:∀{n:Nat}{l:List α},l.length=n*size->∀x∈chunk size n l,x.length=size
 |0,l,h,x,hx=>by grind [chunk]
 |n+1,l,h,x,hx=>by
  rw[Nat.add_mul]at h;simp only[chunk,akX]at hx;rcases hx with rfl|hx
  .grind
  exact wc (by grind) x hx
theorem rv(hk:(m.map (·.1)).Nodup):n ∉ (bQ m n).map (·.1):=by induction m<;>grind [bQ]
variable{cs:Array Value}{k:S->Prop}{vs:Array (Nat×Value)}
section
variable {P:Program} {g:G} {s:S} {a:Act} {w:World} {H:FH} {γ:Gam} {F:Nm->Fp}
theorem cY(h:RX g s a w H γ F)(n:Nm):RX g (s.fresh n) a w H γ F:=by grind [S.fresh,tY]
theorem b9(h:RX g s a w H γ F)(n:Nm):ah (s.fresh n).m n=none:=by
 unfold S.fresh;split
 .omega
 show ah (aM (bm n) (bQ s.m n)) n=none
 rw[kY];have:ah (bQ s.m n) n=none:=wm.2 (rv h.mem.keys)
 grind
theorem kH{zs:List Value}(h:zcells P t=some zs):∃it z,P.info? t=some it/\it.zero=some z/\z.cells.toList=zs/\zs.all okT=true:=by grind [zcells]
theorem UB{it:TypeInfo}(hi:P.info? t=some it)(a:it.zero=some z) :
  (Instr.alloc t true (.tuple #[])).run P w=.ok (.pointer (some ⟨w.heap.size,0,none⟩)) (w.alloc (.cells z.cells t)):=by
 simp[Instr.alloc,zeroValue,typeInfo,hi,a,newVar,newRow]
theorem adP:(Instr.box t v).run P w=.ok (.pointer (some ⟨w.heap.size,0,none⟩)) (w.alloc (.cells v.cells t)):=by rfl
theorem V4(h:RX g s a w H γ F)(hno:n.isOut=false){ts:List T}(hl:cs.size=ts.length)(e:Ts (TR w H γ (s.fresh n).m) ts (λ_=>0) cs.toList)(ty:TypeId)(f:∀t,n.tyd=some t->ty=t){d:Option Tmp}(hd:okD g.nt d=true)(i:ts≠[]) :
  ∃γ' F',RX g (((s.fresh n).root n ⟨true,ts⟩).put d (.one (.c (.pl ⟨n,0,[]⟩)))) (a.put d (.pointer (some ⟨w.heap.size,0,none⟩))) (w.alloc (.cells cs ty)) H γ' F':=by
 obtain⟨γ',F',h1,h2⟩:=VV (cY h n) hno (b9 h n) hl e ty f;refine⟨γ',F',RX.put h1 hd ⟨λ_=>rfl,?_,⟨w.heap.size,0,none⟩,?_,rfl⟩⟩
 .rw[ay];refine⟨⟨true,ts⟩,by simp[ah],?_⟩;show 0<ts.length
  grind
 show(match γ' n with|.blk b=>some (⟨b,0,none⟩:Addr)|.gh _=>none)=_
 rw[h2]
def lJ(t:Nat)(d:Nat):Nm:=if t=999999 then .loc (999999*1000000+d)else .loc d
theorem Yg{t:Nat}{d:Nat}:(lJ t d).isOut=false:=by unfold lJ;split<;>rfl
theorem acY{t:Nat}{d:Nat}(hd:d < 1000000):∀u,(lJ t d).tyd=some u->t=u:=by grind [lJ,Nm.tyd]
def vS(P:Program)(s:S)(t:TypeId)(d:Tmp)(k:S->Prop):Prop:=
 match zcells P t with
 |some zs=>zs≠[]/\d < 1000000/\k (((s.fresh (lJ t d)).root (lJ t d) ⟨true,zs.map rQ⟩).put (some d) (.one (.c (.pl ⟨lJ t d,0,[]⟩))))
 |none=>False
theorem RS(h:RX g s a w H γ F){d:Tmp}(hd:okD g.nt (some d)=true)(b:vS P s t d k) :
  ∃s' y w' γ' F',(Instr.alloc t true (.tuple #[])).run P w=.ok y w'/\k s'/\RX g s' (a.put (some d) y) w' H γ' F':=by
 unfold vS at b;cases e:zcells P t with
 |none=>grind
 |some zs=>
  rw[e]at b;obtain⟨f,c,b⟩:=b;obtain⟨it,z,h1,h2,h3,h4⟩:=kH e;obtain⟨γ',F',i⟩:=V4 h (n:=lJ t d) Yg (ts:=zs.map rQ) (cs:=z.cells) (by grind) (by grind [zo]) t (acY c) hd (by simp_all)
  grind [UB]
def Sf(s:S)(x:Operand)(d:Tmp)(k:S->Prop):Prop:=
 match ff (ev (s.fresh (.loc d)) x)with
 |some ts=>ts≠[]/\ts.all T.sure=true/\d < 1000000/\k (((s.fresh (.loc d)).root (.loc d) ⟨true,ts⟩).put (some d) (.one (.c (.pl ⟨.loc d,0,[]⟩))))
 |none=>False
theorem aaJ(h:RX g s a w H γ F){x:Operand}{d:Tmp}(hd:okD g.nt (some d)=true)(hx:aI x=true)(b:Sf s x d k) :
  ∃s' y w' H' γ' F',(Instr.box t (a.eval x)).run P w=.ok y w'/\k s'/\RX g s' (a.put (some d) y) w' H' γ' F':=by
 unfold Sf at b;have h':=cY h (.loc d)
 have hv:=aL h' hx
 cases e:ff (ev (s.fresh (.loc d)) x)with
 |none=>grind
 |some ts=>
  rw[e]at b;obtain⟨c,hs,j,b⟩:=b;obtain⟨f,i⟩:=yE h'.mem hv e hs;obtain⟨γ',F',l⟩:=V4 h (n:=.loc d) rfl (ts:=ts) (cs:=(a.eval x).cells) f i t (λu m=>by grind [Nm.tyd]) hd c
  grind [adP]
theorem Sj(hm:Mem w H γ m F){a:List (Nat×AV)}{k:AV->Prop}(h:sJ P t a k)(hp:PR w H γ m a vs.toList) :
  ∃z d,(∀w:World,(Instr.build t vs).run P w=.ok z w)/\AR w H γ m d z/\k d:=by
 unfold sJ at h;cases b:zst P t with
 |none=>grind
 |some q=>
  obtain⟨zs,j⟩:=q;rw[b]at h;dsimp only at h;cases hf:jX (j[·]?) (zs.map rQ) a with
  |none=>grind
  |some ts=>
   rw[hf]at h;unfold zst at b;cases hi:P.info? t with
   |none=>grind
   |some it=>
    rw[hi]at b;cases v:P.underlying t with
    |none=>grind
    |some td=>
     rw[v]at b;cases td with
     |struct l=>
      dsimp only at b;cases n:it.zero with
      |none=>grind
      |some z=>
       cases u:l.toList.mapM (λf=>(P.info? f.type).map λi=>(f.offset,i.size))with
       |none=>grind
       |some pl=>
        rw[n,u]at b;dsimp only at b;split at b
        .rename_i o;simp only[akO,Prod.mk.injEq]at b;obtain⟨rfl,rfl⟩:=b;have c:z.cells.toList.all okT=true:=by grind
         obtain⟨g,x,p,s⟩:=yq hm a vs.toList (z.cells.toList.map rQ) z.cells ts hp (by simp) (zo c) hf;refine⟨.agg g,.one (.agg ts),λw=>run_build w t vs g ?_,⟨g,rfl,p,s⟩,h⟩
         simp_all[Program.built]
        grind
     |array N e=>
      dsimp only at b;cases n:it.zero with
      |none=>grind
      |some z=>
       cases r:P.info? e with
       |none=>grind
       |some y=>
        rw[n,r]at b;dsimp only at b;split at b
        .rename_i o;simp only[akO,Prod.mk.injEq]at b;obtain⟨rfl,rfl⟩:=b;have c:z.cells.toList.all okT=true:=by grind
         obtain⟨g,x,p,s⟩:=yq hm a vs.toList (z.cells.toList.map rQ) z.cells ts hp (by simp) (zo c) hf;refine⟨.agg g,.one (.agg ts),λw=>run_build w t vs g ?_,⟨g,rfl,p,s⟩,h⟩
         grind [Program.built,Do]
        grind
     |_=>grind
theorem jR{len:Nat}{cells:Array Value}{b:TypeInfo}
  (f:P.underlying t=some (.slice e)) (d:P.info? e=some b) (g:b.zero=some z) (a:¬ len*b.size > 2 ^ 24)
  (h:∀us:Array Value,us.size=len*b.size->∃cs,Instr.fill (λi=>some (i*b.size,b.size)) us vs.toList=some cs/\cs.size=len*b.size/\(cells=cs\/True)) :
  ∃us cs,us.size=len*b.size/\Instr.fill (λi=>some (i*b.size,b.size)) us vs.toList=some cs /\
  (Instr.buildSlice t len vs).run P w=.ok (.slice (some ⟨w.heap.size,0,none⟩) len len) (w.alloc (.cells cs e)):=by
 by_cases c:len*b.size=0
 .obtain⟨cs,h1,h2,_⟩:=h ((Array.range (len*b.size)).map ((#[]:Array Value)[· % (#[]:Array Value).size]!)) (by simp);refine⟨_,cs,by simp,h1,?_⟩;simp[Instr.buildSlice,run_underlying f,sizeOf,typeInfo,zeroValue,d,g,a,c,newRow]at h1|-;simp[h1]
 obtain⟨cs,h1,h2,_⟩:=h ((Array.range (len*b.size)).map (z.cells[· % z.cells.size]!)) (by simp);refine⟨_,cs,by simp,h1,?_⟩;simp[Instr.buildSlice,run_underlying f,sizeOf,typeInfo,zeroValue,d,g,a,c,newRow,h1]
theorem aeK{k:Nat}:∀{ts:List T}{f:Fp}{vs:List Value},(∀b,f b=0)->Ts (TR w H γ m) ts f vs ->
  Cs (OD w H k) (List.replicate ts.length .fr) (ts.map T.fz) f vs
 |[],_,_,hf,_=>hf
 |t::ts,f,vs,hf,h=>by
  obtain⟨v,r,f1,a,h1,h2,h3,h4⟩:=h;refine⟨v,r,f1,a,h1,h2,?_,aeK (λb=>by grind) h4⟩;rw[fV];refine⟨λb=>by grind,?_⟩;cases t with
  |d x=>exact h3.2
  |nil=>obtain⟨_,rfl⟩:=h3;exact lN
  |_=>exact⟨0,trivial⟩
def lg(s:S)(ps:Array (Nat×Operand)):List (Nat×AV):=ps.toList.map λx=>(x.1,ev s x.2)
theorem tX{m:Mm}{s:S}(h:RX g s a w H γ F):∀{ps:List (Nat×Operand)},(ps.all λx=>aI x.2)=true ->
  PR w H γ s.m (ps.map λx=>(x.1,ev s x.2)) (ps.map λx=>(x.1,a.eval x.2))
 |[],_=>trivial
 |x::ps,hp=>by simp only[ak2,akP]at hp;exact⟨rfl,aL h hp.1,tX (m:=m) h hp.2⟩
def gR(P:Program)(s0:S)(t:TypeId)(len:Nat)(ps:Array (Nat×Operand))(d:Tmp)(k:S->Prop):Prop:=
 match(ty P t).k with
 |.sl e=>(ty P e).ok=true/\(zcells P e).isSome=true/\len*(ty P e).size<=16777216/\len<=16777216 /\
  let s:=(pc s0 (ps.toList.map λx=>ev s0 x.2)).fresh (.gh d)
  match jX (λi=>some (i*(ty P e).size,(ty P e).size)) (List.replicate (len*(ty P e).size) .any) (lg s ps)with
  |some ts=>k ((s.root (.gh d) ⟨false,[.ow (List.replicate (ty P e).size .fr) (chunk (ty P e).size len (ts.map T.fz))]⟩).put (some d) (.one (.c (.rf ⟨.gh d,0,[]⟩))))
  |none=>False
 |_=>False
theorem ox:∀{b:List (Nat×AV)}{pl:Nat->Option (Nat×Nat)}{ts ts':List T},jX pl ts b=some ts'->ts'.length=ts.length
 |[],pl,ts,ts',h=>by grind [jX]
 |(i,x)::r,pl,ts,ts',h=>by
  simp only[jX]at h;cases hp:pl i with
  |none=>grind
  |some q=>
   obtain⟨off,size⟩:=q;rw[hp]at h;cases hc:ff x with
   |none=>grind
   |some cs=>
    rw[hc]at h;dsimp only at h;split at h
    .rename_i a;rw[ox h,wD a.2.1]
    grind
theorem Mj:∀{vs:List Value},Ts (TR w H γ m) (List.replicate vs.length .any) (λ_=>0) vs
 |[]=>λ_=>rfl
 |v::vs=>⟨v,vs,λ_=>0,λ_=>0,rfl,λ_=>rfl,λ_=>rfl,Mj⟩
theorem Ld(n size:Nat):(List.replicate n (List.replicate size Sh.fr)).flatten=List.replicate (n*size) Sh.fr:=by simp_all
theorem RD(h:RX g s a w H γ F)(hno:n.isOut=false)(hn:ah s.m n=none){ty':TypeId}{len cap size:Nat}{l:List (List D)}(hl:l.length=len)(f:len<=cap)(e:len<=BIG)
  (hx:∀x∈l,x.length=size) (A:cs.size=cap*size) (j:∀k,Cs (OD w H k) (List.replicate (len*size) Sh.fr) l.flatten (λ_=>0) cs.toList) :
  ∃γ' F',RX g (s.root n ⟨false,[.ow (List.replicate size .fr) l]⟩) a (w.alloc (.cells cs ty')) H γ' F'/\γ' n=.gh (.slice (some ⟨w.heap.size,0,none⟩) len cap):=by
 obtain⟨hm,hf,p,z⟩:=qM h.mem cs ty' false;simp only[akS,false_and,if_false]at hm hf p z;have q:RX g s a (w.alloc (.cells cs ty')) H γ F:=j4 h hm hf (λi=>dw p (λ_ _ _ h=>h) (h.t i)) (λ_=>rfl)
 have C:tot F s.m w.heap.size=0:=by
  rcases alO (tot F s.m w.heap.size)with h'|h'
  .exact h'
  have:=h.mem.lt w.heap.size kQ1;omega
 have B:∀o,H w.heap.size o=none:=by
  intro o;cases hc:H w.heap.size o with
  |none=>rfl
  |some y=>have:=(h.mem.agree _ _ _ hc).lt;omega
 have d:∀k,Cs (OD (w.alloc (.cells cs ty')) H k) (List.replicate len (List.replicate size Sh.fr)).flatten l.flatten (λ_=>0) cs.toList:=by intro k;rw[Ld];refine lM _ _ _ _ (λs x g v r c=>?_) (j k);exact cK (λ_ _ _ h=>h) k k _ _ _ _ (akR _) (λb hb=>absurd (Nat.le_zero.1 (r b)) hb) c
 subst hl;have c:TR (w.alloc (.cells cs ty')) H γ s.m (.ow (List.replicate size .fr) l) (λb=>0+if b=w.heap.size then 1 else 0) (.slice (some ⟨w.heap.size,0,none⟩) l.length cap):=⟨1,zg (bw) rfl (by grind) f e (by grind) (d 0)⟩
 exact dR q hno hn c (λb=>by
   grind [Mem.le1])
  (λb hb=>by simp_all)
  (λb hb=>by
   have u:b=w.heap.size:=by grind
   right;have:=h.fr.size;omega)
theorem g8{sub:List Sh}{l:List (List D)}(hn:ah m n=some ⟨false,[.ow sub l]⟩)(a:γ n=.gh v):AR w H γ m (.one (.c (.rf ⟨n,0,[]⟩))) v:=by
 refine⟨λ_=>rfl,?_,?_⟩
 .rw[bV];exact⟨_,hn,trivial⟩
 show aH w (γ n) 0=some v
 rw[a];rfl
theorem zC(h:RX g s a w H γ F){t:TypeId}{len:Nat}{ps:Array (Nat×Operand)}{d:Tmp}(hd:okD g.nt (some d)=true)(hp:(ps.toList.all λx=>aI x.2)=true)(c:gR P s t len ps d k) :
  ∃s' y w' H' γ' F',(Instr.buildSlice t len (ps.map λ(i,x)=>(i,a.eval x))).run P w=.ok y w'/\k s'/\RX g s' (a.put (some d) y) w' H' γ' F':=by
 unfold gR at c;cases hk:(ty P t).k with
 |sl e=>
  rw[hk]at c;obtain⟨D,B,f,O,c⟩:=c;obtain⟨_,td,hit,E,G,_⟩:=aT hk (by simp);have:=pg G
  subst this;obtain⟨b,U,p,_⟩:=jG D;have o:(ty P e).size=b.size:=by omega
  obtain⟨zs,u⟩:=Option.isSome_iff_exists.1 B;obtain⟨v,z,C,Q,_⟩:=kH u;rw[p]at C;obtain rfl:b=v:=by grind
  obtain⟨H1,F1,h1⟩:=tZ (ps.toList.map λx=>ev s x.2) s H F h;have h2:=cY h1 (.gh d)
  have hn:=b9 h1 (.gh d)
  dsimp only at c;generalize(pc s (ps.toList.map λx=>ev s x.2)).fresh (.gh d)=s2 at c h2 hn;cases hf:jX (λi=>some (i*(ty P e).size,(ty P e).size)) (List.replicate (len*(ty P e).size) .any) (lg s2 ps)with
  |none=>grind
  |some ts=>
   rw[hf]at c;dsimp only at c;rw[o]at hf c f;have r:PR w H1 γ s2.m (lg s2 ps) (ps.map λ(i,x)=>(i,a.eval x)).toList:=by rw[Array.toList_map];exact tX (m:=s2.m) h2 hp
   have j:∀us:Array Value,us.size=len*b.size->∃cs,Instr.fill (λi=>some (i*b.size,b.size)) us (ps.map λ(i,x)=>(i,a.eval x)).toList=some cs/\cs.size=ts.length/\Ts (TR w H1 γ s2.m) ts (λ_=>0) cs.toList:=by
    intro us hus;refine yq h2.mem _ _ _ us ts r (by grind) ?_ hf;have:=Mj (w:=w) (H:=H1) (γ:=γ) (m:=s2.m) (vs:=us.toList)
    grind
   have J:ts.length=len*b.size:=by rw[ox hf];simp
   obtain⟨us,cs,u1,N,M⟩:=jR (P:=P) (w:=w) (t:=t) (e:=e) (len:=len) (vs:=ps.map λ(i,x)=>(i,a.eval x)) (cells:=#[]) E p Q kQ1 (λus hus=>by grind)
   obtain⟨A,K,V,R⟩:=j us u1;rw[N]at K;obtain rfl:cs=A:=by grind
   have q:(ts.map T.fz).length=len*b.size:=by grind
   obtain⟨γ',F',L,I⟩:=RD h2 (n:=.gh d) rfl hn (cs:=cs) (ty':=e) (len:=len) (cap:=len) (size:=b.size) (l:=chunk b.size len (ts.map T.fz)) oo (akR _) (by
     show len<=2 ^ 62
     omega) (wc q) kQ1 (λk=>by grind [sO,aeK])
   refine⟨_,_,_,H1,γ',F',M,c,RX.put L hd (g8 (sub:=List.replicate b.size .fr) (l:=chunk b.size len (ts.map T.fz)) ?_ I)⟩;simp[S.root,ah]
 |_=>grind
end
def D.sure:D->Bool
 |.any=>false
 |_=>true
def Sh.isFr:Sh->Bool
 |.fr=>true
 |_=>false
def TK.isSS:TK->Bool
 |.sl _=>true
 |.str=>true
 |_=>false
def LD(s:S)(q:Pl):S:=⟨nu (thr q) s.t,aM (thr q) (bk s.m q .any)⟩
theorem UU{F:Nm->Fp}{p:Pl}{t:T}{b:Nat}:tot F (bk m p t) b=tot F m b:=by grind [bk,dH]
theorem tQ{w:World}{H:FH}(d:∀b o y,H b o=some y->H' b o=some y){k k':Nat}(hk:k<=k'){c:List Sh}{xs:List D}{f:Fp}{vs:List Value}
  (hw:∀b,f b≠0->w'.heap[b]? = w.heap[b]?) (h:Cs (OD w H k) c xs f vs):Cs (OD w' H' k') c xs f vs:=
 lM _ _ _ _ (λ_ _ _ _ e a=>cK d k k' _ _ _ _ hk (λb hb=>hw b (by grind)) a) h
variable{l:List (List D)}{sub:List Sh}
section
variable {P:Program} {g:G} {s:S} {a:Act} {w:World} {H:FH} {γ:Gam} {F:Nm->Fp}
theorem Is(h:RX g s a w H γ F){q:Pl}(c:bU s.m q)(e:aU s.m q=some (.ow sub l)) :
  ∃v f F',plV w γ q=some v/\(∃k,OD w H k (.ow sub) (.li l) f v)/\RX g (LD s q) a w H γ F'/\∀b,tot F' (LD s q).m b+f b=tot F s.m b:=by
 obtain⟨f,v,p,j,t3,t4,t5⟩:=zd h.mem c e;have hm:=t5 H (λ_ _ _ h=>h) h.mem.agree (λb hb o=>h.mem.nofz b (by grind) o)
 have d:∀b,tot (λn b=>F n b-if n=q.root then f b else 0) (LD s q).m b+f b=tot F s.m b:=by
  intro b;show tot _ (aM _ _) b+f b=_
  grind [bg,UU]
 refine⟨v,f,_,p,j,⟨hm,⟨h.fr.size,h.fr.os,h.fr.tape,h.fr.output,h.fr.block,h.fr.hold,h.fr.hnew,λb hb=>h.fr.tt b ?_,h.fr.nz⟩,h.nt,h.df,λi=>?_⟩,d⟩
 .grind
 show AR w H γ _ (aW (nu _ s.t) i) _
 rw[oE];exact tM (px h.mem c) (λ_ _ _ h=>h) (h.t i)
theorem pB(h:RX g s a w H γ F){w':World}(r:w.heap.size<=w'.heap.size)(n:w'.os=w.os)(f:w'.tape=w.tape)(j:w'.output=w.output)
  (hb:∀b,b<w.heap.size->w'.heap[b]? = w.heap[b]? \/ (tot F s.m b=0/\(∀o,H b o=none)/\(g.own0 b≠0\/g.w0.heap.size<=b)/\Thawed w' b)):RX g s a w' H γ F:=by
 have e:∀b,Thawed w b->Thawed w' b:=λb h0=>by grind [Thawed.lt,Thawed.of_block]
 have d:∀b,tot F s.m b≠0->w'.heap[b]? = w.heap[b]? := λb p=>by
  rcases hb b (h.mem.lt b p)with h1|h1
  all_goals omega
 have u:=fj (w':=w') h.mem d
 have q:∀x∈s.m,∀b,F x.1 b≠0->w'.heap[b]? = w.heap[b]? := λx hx b hb=>d b (by grind [bD])
 refine⟨⟨?_,λx hx=>aZ u (λ_ _ _ h=>h) rfl (q x hx) (h.mem.roots x hx),h.mem.keys,h.mem.le1,λb hb=>by have:=h.mem.lt b hb;omega,h.mem.nofz⟩,
  ⟨alC h.fr.size r,n.trans h.fr.os,f.trans h.fr.tape,j.trans h.fr.output,λk hk h0=>?_,h.fr.hold,h.fr.hnew,h.fr.tt,λb h0=>e b (h.fr.nz.1 b h0),λb o x l c h1 h2=>e b (h.fr.nz.2 b o x l c h1 h2)⟩,h.nt,h.df,λi=>dw u (λ_ _ _ h=>h) (h.t i)⟩
 .intro b o y hy;have hc:=h.mem.agree b o y hy
  grind [RdV.lt,RdV.frame]
 rcases hb k (by have:=h.fr.size;omega)with h1|h1
 .rw[h1];exact h.fr.block k hk h0
 omega
theorem Bq{tt:TypeId}{Z:TypeDesc}(Y:P.underlying t=some (.slice e))(E:P.underlying u=some Z)(A:isSS Z=true)(hi:P.info? e=some i)(hz:i.zero=some z)(T:z.cells.size=i.size)
  {k kx:Nat} {sub:List Sh} {l g:List (List D)} {f gx:Fp} {v x:Value} {ws:List Value} (p:sub.length=i.size)
  (K:OD w H k (.ow sub) (.li l) f v) (hx:Src P w i.size x g.length ws) (X:∀y∈g,y.length=sub.length) (N:Cs (OD w H kx) (List.replicate g.length sub).flatten g.flatten gx ws) (O:∀u∈ws,pi u=true)
  (hd:∀b,f b+gx b<=1) (S:∀b,f b≠0\/gx b≠0->b<w.heap.size) (ac:l.length+g.length<=4611686018427387904) (V:(l.length+g.length)*i.bytes<=140737488355328) :
  ∃y w' f',(Builtin.append_ #[t,u] tt #[v,x]).run P w=.ok y w'/\(∃k',OD w' H k' (.ow sub) (.li (l++g)) f' y)/\w.heap.size<=w'.heap.size/\w'.os=w.os/\w'.tape=w.tape/\w'.output=w.output /\
   (∀b,b<w.heap.size->w'.heap[b]? = w.heap[b]? \/ (f b≠0/\Thawed w' b))/\(∀b,f' b<=f b+gx b+if b=w.heap.size then 1 else 0)/\(∀b,f' b≠0->b<w'.heap.size):=by
 cases k with
 |zero=>simp[OD]at K
 |succ k=>
  obtain⟨ad,c,G,vs,rfl,hlc,af,Q,R,L,o⟩:=mU K;have q:∀y∈l++g,y.length=sub.length:=yc Q X
  have B:ws.length=g.length*sub.length:=by rw[hx.size,p]
  by_cases s:l.length+g.length<=c
  .rcases o with⟨rfl,rfl,rfl,hf0⟩|⟨b,cs,ty,fz,rfl,hb,hfz,hcsz,rfl,hf⟩
   .have F:g=[]:=by grind
    subst F;have U:ws=[]:=by simp_all
    subst U;refine⟨_,w,λ_=>0,IH Y E A hi (a:=none) (n:=0) (c:=0) (m:=0) hx (akR _) (.inl rfl),⟨1,?_⟩,akR _,rfl,rfl,rfl,λ_ _=>.inl rfl,λb=>alL _,λb hb=>absurd rfl hb⟩
    grind [fo]
   have I:fz=(0,0):=hfz
   subst I;have ae:G b=0:=by grind
   have ab:gx b=0:=by grind
   have C:l.length*i.size+ws.length<=cs.size:=by rw[B,hcsz,<- p,<- Nat.add_mul];exact alS _ s
   have M:=Sa (tt:=tt) Y E A hi hb hx (λu E=>O u E) s C
   refine⟨_,_,λd=>(G d+gx d)+if d=b then 1 else 0,M,⟨k+kx+1,?_⟩,by simp[World.setRow],rfl,rfl,rfl,λj hj=>?_,λj=>?_,λj hj=>?_⟩
   .have hnew:=setRow_heap w b cs (cs.toList.take (l.length*i.size)++ws++cs.toList.drop (l.length*i.size+ws.length)).toArray ty (0,0) hb
    rw[show l.length+g.length=(l++g).length from by simp];refine zg hnew rfl ?_ (by grind) (by show(l++g).length<=2 ^ 62;grind) q ?_
    .grind
    have h1:=tQ (w':=w.setRow b (cs.toList.take (l.length*i.size)++ws++cs.toList.drop (l.length*i.size+ws.length)).toArray) (λ_ _ _ h=>h) (Nat.le_add_right k kx) (λc hc=>setRow_other w b c _ (λe=>hc (by grind))) L
    have h2:=tQ (w':=w.setRow b (cs.toList.take (l.length*i.size)++ws++cs.toList.drop (l.length*i.size+ws.length)).toArray) (λ_ _ _ h=>h) (Nat.le_add_left kx k) (λc hc=>setRow_other w b c _ (λe=>hc (by grind))) N
    grind [Vl]
   .by_cases W:j=b
    .right;subst W;exact⟨by grind,_,_,setRow_heap w j cs _ ty (0,0) hb⟩
    grind [setRow_other]
   all_goals grind [World.setRow]
  have ho:Src P w i.size (.slice ad l.length c) l.length vs:=by
   rcases o with⟨rfl,rfl,rfl,_⟩|⟨b,cs,ty,fz,rfl,hb,hfz,hcsz,rfl,hf⟩
   .simp_all[pD]
   refine vR (by grind) (λj u hj=>?_)
   grind [World.cell?]
  have J:=IG (tt:=tt) Y E A hi hz hx ho kQ1 kQ1 V
  have r:l.length+g.length<=grownCap w (l.length+g.length) c e:=Am.JB
  have aa:∀b,G b<=f b:=by grind [Cs]
  have hno:∀b,G b≠0\/gx b≠0->b<w.heap.size:=λb hb=>S b (by grind)
  generalize hcapv:grownCap w (l.length+g.length) c e=cap at J r;have hnew:(w.drew.alloc (.cells ((vs++ws).toArray++Builtin.zeroCells z.cells (cap - (l.length+g.length))) e)).heap[w.heap.size]? = some (.cells ((vs++ws).toArray++Builtin.zeroCells z.cells (cap - (l.length+g.length))) e):=bw (w:=w.drew)
  have hold:∀b,b<w.heap.size->(w.drew.alloc (.cells ((vs++ws).toArray++Builtin.zeroCells z.cells (cap - (l.length+g.length))) e)).heap[b]? = w.heap[b]? := λb hb=>cW (w:=w.drew) hb
  refine⟨_,_,λd=>(G d+gx d)+if d=w.heap.size then 1 else 0,J,⟨k+kx+1,?_⟩,by grind,rfl,rfl,rfl,λj hj=>.inl (hold j hj),λj=>by grind,λj hj=>?_⟩
  .rw[show l.length+g.length=(l++g).length from by simp];rw[show l.length+g.length=(l++g).length from by simp]at hnew hold r;refine zg hnew rfl ?_ r (by show(l++g).length<=2 ^ 62;grind) q ?_
   .simp only[Array.size_append,List.size_toArray,ak1,size_zeroCells,R,B,T];rw[<- p,<- Nat.add_mul,<- Nat.add_mul]
    grind
   have h1:=tQ (w':=w.drew.alloc (.cells ((vs++ws).toArray++Builtin.zeroCells z.cells (cap - (l++g).length)) e)) (λ_ _ _ h=>h) (Nat.le_add_right k kx) (λc hc=>hold c (hno c (.inl hc))) L
   have h2:=tQ (w':=w.drew.alloc (.cells ((vs++ws).toArray++Builtin.zeroCells z.cells (cap - (l++g).length)) e)) (λ_ _ _ h=>h) (Nat.le_add_left kx k) (λc hc=>hold c (hno c (.inr hc))) N
   grind [Vl]
  grind
end
def ki(size:Nat):AV->Option (List (List D))
 |.one (.c .nil)=>some []
 |.one (.c (.d (.li l)))=>some l
 |.one (.c (.d (.str b)))=>if size=1 then some (b.map λc=>[.int .u8 c.toNat])else none
 |_=>none
def FP(size:Nat)(a:List (List D)):Prop:=∀y∈a,y.length=size/\∀x∈y,x.sure=true
def jo(s:S)(size:Nat):AV->Option (S×List Sh×List (List D))
 |.one (.c .nil)=>some (s,List.replicate size .fr,[])
 |.one (.c (.rf q))=>match aU s.m q with
  |some (.ow sub l)=>if sub.length=size then some (LD s q,sub,l)else none
  |_=>none
 |_=>none
def qU(P:Program)(a:S)(t u:TypeId)(x y:Operand)(d:Tmp)(k:S->Prop):Prop:=
 let s:=Jx a (ev a y)
 match(ty P t).k with
 |.sl e=>(ty P e).ok=true/\(ty P u).k.isSS=true/\((zcells P e).map (·.length))=some (ty P e).size /\
  match ki (ty P e).size (ev s y),jo s (ty P e).size (ev s x)with
  |some b,some (s1,sub,l)=>sub.all Sh.isFr=true/\FP (ty P e).size b/\l.length+b.length<=4611686018427387904/\(l.length+b.length)*(ty P e).bytes<=140737488355328 /\
   k (((s1.fresh (.gh d)).root (.gh d) ⟨false,[.ow sub (l++b)]⟩).put (some d) (.one (.c (.rf ⟨.gh d,0,[]⟩))))
  |_,_=>False
 |_=>False
theorem Vk{w:World}{H:FH}{k:Nat}:∀{xs:List D}{vs:List Value},vs.length=xs.length->(∀(j:Nat)(x:D),xs[j]? = some x->∃v,vs[j]? = some v/\FDx H x v) ->
  Cs (OD w H k) (List.replicate xs.length .fr) xs (λ_=>0) vs
 |[],[],_,_=>λ_=>rfl
 |[],_::_,hl,_=>by grind
 |_::_,[],hl,_=>by grind
 |x::xs,v::vs,hl,h=>by
  refine⟨v,vs,λ_=>0,λ_=>0,rfl,λ_=>rfl,?_,Vk (by grind) (λj x hj=>h (j+1) x (by grind))⟩;rw[fV];obtain⟨a,h1,h2⟩:=h 0 x rfl
  grind
theorem Pq{H:FH}{x:D}{y:Value}(hs:x.sure=true)(h:FDx H x y):pi y=true:=by
 obtain⟨m,h⟩:=h;cases x with
 |int k n=>have:=h;cases m<;>(obtain⟨rfl,_⟩:=this;rfl)
 |bool b=>cases m<;>(have:y=_:=h;subst this;rfl)
 |str l=>have:=h;cases m<;>(obtain⟨rfl,_⟩:=this;rfl)
 |mp l=>obtain⟨b,rfl⟩:=L4 ⟨m,h⟩;rfl
 |fn f l=>obtain⟨b,rfl⟩:=Vp ⟨m,h⟩;rfl
 |v z=>have:=h;cases m<;>(obtain⟨rfl,h1⟩:=this;exact h1)
 |any=>grind [D.sure]
 |li l=>
  cases m with
  |zero=>exact h.elim
  |succ m=>obtain⟨a,c,rfl,_⟩:=mR.1 h;rfl
theorem M0(b:a8):(b.map λc=>[D.int .u8 (c.toNat:Int)]).flatten=b.map λc=>D.int .u8 (c.toNat:Int):=by induction b<;>grind
section
variable {P:Program} {g:G} {s:S} {a:Act} {w:World} {H:FH} {γ:Gam} {F:Nm->Fp}
theorem aiD(h:sub.all Sh.isFr=true):sub=List.replicate sub.length .fr:=by induction sub<;>grind [Sh.isFr]
theorem ahZ(hm:Mem w H γ m F){size:Nat}{x:AV}{g:List (List D)}(hx:AR w H γ m x v)(hr:ki size x=some g)(s:FP size g) :
  ∃ws,Src P w size v g.length ws/\(∀k,Cs (OD w H k) (List.replicate (g.length*size) .fr) g.flatten (λ_=>0) ws)/\∀u∈ws,pi u=true:=by
 have f:∀y∈g,y.length=size:=λy hy=>(s y hy).1
 have A:=cQ size g f
 match x,hr with
 |.one (.c .nil),hr=>simp only[ki,akO]at hr;subst hr;obtain⟨_,rfl⟩:=hx;exact⟨[],pD,λk=>by simp[Cs],by simp⟩
 |.one (.c (.d (.str b))),hr=>
  simp only[ki]at hr;by_cases hs:size=1
  .subst hs;rw[if_pos rfl]at hr;obtain rfl:=Option.some.inj hr;obtain⟨rfl,hb⟩:=Eo hx;have:=Z2 (P:=P) (w:=w) (l:=b)
   refine⟨b.map λb=>.int .u8 b.toNat,by grind,λk=>?_,?_⟩
   .rw[<- A];refine Vk (by grind) (λj x hj=>?_);rw[M0,akT,ak5]at hj;obtain⟨c,hc,rfl⟩:=hj;refine⟨.int .u8 c.toNat,by grind,0,rfl,?_⟩;have:=c.toNat_lt
    simp only[Lit.wf,akP,decide_eq_true_eq];have h1:IntKind.u8.min=0:=rfl
    have h2:IntKind.u8.max=255:=rfl
    omega
   intro u t;simp only[ak8]at t;obtain⟨c,_,rfl⟩:=t;rfl
  grind
 |.one (.c (.d (.li l))),hr=>
  simp only[ki,akO]at hr;subst hr;obtain⟨ad,c,rfl,_,_,i⟩:=gC hx.2;rcases i with rfl|⟨b,o,e,k0,rfl,hel⟩
  .exact⟨[],pD,λk=>by simp[Cs],by simp⟩
  by_cases E:l.length=0
  .have:l=[]:=by grind
   subst this;exact⟨[],pD,λk=>by simp[Cs],by simp⟩
  have C:e=size:=by
   have h0:=(hel 0 kQ1).1
   grind
  subst C;have B:∀j,j<l.length*e->∃v,w.cell? ⟨b,o+j,none⟩=some v/\∀x,l.flatten[j]? = some x->FDx H x v:=by
   intro j hj;have q:0<e:=Nat.pos_of_ne_zero (λh=>by grind)
   have hi:j / e<l.length:=by simp_all[Nat.div_lt_iff_lt_mul]
   obtain⟨y,h1,h2⟩:=(hel (j / e) hi).2 (j % e) (anG _ q);have n:j / e*e+j % e=j:=by grind [Nat.div_add_mod]
   refine⟨y,?_,λx hx=>?_⟩
   .have:=hm.agree _ _ _ h1
    rw[Nat.add_assoc,n]at this;exact this
   rw[<- n,eA e l _ _ f hi (anG _ q)]at hx;rw[List.getD,hx]at h2;exact⟨k0,h2⟩
  obtain⟨ws,w1,w2⟩:=lV (p:=λj v=>w.cell? ⟨b,o+j,none⟩=some v/\∀x,l.flatten[j]? = some x->FDx H x v) (l.length*e) B;refine⟨ws,vR w1 (λj v hj=>(w2 j v hj).1),λk=>?_,λu t=>?_⟩
  .grind [Vk]
  obtain⟨j,hj,rfl⟩:=alD.1 t;have r:j<l.flatten.length:=by omega
  have h1:=(w2 j _ (akQ hj)).2 _ (akQ r)
  refine Pq ?_ h1;have a:l.flatten[j]∈l.flatten:=amK r
  rw[List.mem_flatten]at a;obtain⟨y,hy,z⟩:=a;exact(s y hy).2 _ z
theorem aaC(h:RX g s a w H γ F){size:Nat}{x:AV}{s1:S}(hx:AR w H γ s.m x v)(hb:jo s size x=some (s1,sub,l)) :
  ∃k f F1,OD w H k (.ow sub) (.li l) f v/\RX g s1 a w H γ F1/\sub.length=size/\(∀b,tot F1 s1.m b+f b<=1)/\(∀b,f b≠0->b<w.heap.size/\(∀o,H b o=none)/\(g.own0 b≠0\/g.w0.heap.size<=b)):=by
 match x,hb with
 |.one (.c .nil),hb=>
  simp only[jo,akO,Prod.mk.injEq]at hb;obtain⟨rfl,rfl,rfl⟩:=hb;obtain⟨_,rfl⟩:=hx;refine⟨1,λ_=>0,F,?_,h,by simp,λb=>by have:=h.mem.le1 b;omega,λb hb=>absurd rfl hb⟩
  grind [fo]
 |.one (.c (.rf q)),hb=>
  simp only[jo]at hb;cases j:aU s.m q with
  |none=>grind
  |some t=>
   rw[j]at hb;cases t with
   |ow n l'=>
    dsimp only at hb;split at hb
    .rename_i i;simp only[akO,Prod.mk.injEq]at hb;obtain⟨rfl,rfl,rfl⟩:=hb;obtain⟨_,e,hv⟩:=hx;obtain⟨r,f,F',y,⟨k,u⟩,z,p⟩:=Is h (fA e) j;rw[hv]at y;obtain rfl:v=r:=by grind
     exact⟨k,f,F',u,z,i,λb=>by rw[p];exact h.mem.le1 b,λb hb=>by
      have d:tot F s.m b≠0:=by grind
      exact⟨h.mem.lt b d,h.mem.nofz b d,h.fr.tt b d⟩⟩
    grind
   |_=>grind
theorem Mt(h:RX g s a w H γ F){t tt:TypeId}{x y:Operand}{d:Tmp}(hd:okD g.nt (some d)=true)(hx:aI x=true)(hy:aI y=true)(c:qU P s t u x y d k) :
  ∃s' z w' H' γ' F',(Builtin.append_ #[t,u] tt #[a.eval x,a.eval y]).run P w=.ok z w'/\k s'/\RX g s' (a.put (some d) z) w' H' γ' F':=by
 unfold qU at c;dsimp only at c;obtain⟨H1,F1,h1⟩:=Ex h (ev s y);generalize Jx s (ev s y)=s1 at c h1;cases hk:(ty P t).k with
 |sl e=>
  rw[hk]at c;obtain⟨R,N,r,c⟩:=c;obtain⟨_,td,hit,X,Z,_⟩:=aT hk (by simp);have:=pg Z
  subst this;obtain⟨J,de,D,_,_,j,p,_⟩:=jG R;rw[j,p]at c;rw[j]at r;obtain⟨zs,K,r⟩:=ak5.1 r;obtain⟨L,z,Q,hz,ac,_⟩:=kH K;rw[D]at Q;obtain rfl:J=L:=by grind
  have I:z.cells.size=J.size:=by grind
  obtain⟨A,huu,hudd⟩:∃A,P.underlying u=some A/\isSS A=true:=by
   have W:(ty P u).k≠.ot:=λe=>by grind [TK.isSS]
   obtain⟨_,A,_,h2,h3,_⟩:=aT rfl W;refine⟨A,h2,?_⟩;rw[<- h3]at N;cases A<;>first|rfl|grind [gn,TK.isSS]
  cases C:ki J.size (ev s1 y)with
  |none=>grind
  |some ys=>
   cases B:jo s1 J.size (ev s1 x)with
   |none=>grind
   |some q=>
    obtain⟨s2,sub,l⟩:=q;rw[C,B]at c;obtain⟨T,i,E,V,c⟩:=c;obtain⟨ws,r1,r2,r3⟩:=ahZ (P:=P) h1.mem (aL h1 hy) C i;obtain⟨kb,f,G,b1,b2,b3,b4,b5⟩:=aaC h1 (aL h1 hx) B;have aa:=aiD T
    obtain⟨z',w',f',c1,⟨k',c2⟩,c3,c4,c5,c6,c7,c8,c9⟩:=Bq (tt:=tt) X huu hudd D hz I (gx:=λ_=>0) (kx:=0) b3 b1 r1 (λy hy=>by rw[b3];exact(i y hy).1)
     (by grind [Ld]) r3 (λb=>by grind) (λb hb=>by grind) E V
    have hX:=pB b2 c3 c4 c5 c6 (λb hb=>by grind)
    have M:=cY hX (.gh d)
    have hn:=b9 hX (.gh d)
    have U:∀b,w.heap.size<=b->∀o,H1 b o=none:=by
     intro b hb o;cases hc:H1 b o with
     |none=>rfl
     |some y=>have:=(h1.mem.agree _ _ _ hc).lt;omega
    have ae:∀b,tot G (s2.fresh (.gh d)).m b<=tot G s2.m b:=by
     intro b;unfold S.fresh;split
     .omega
     show tot G (aM _ _) b<=_
     rw[bg];exact gp
    have ab:tot G s2.m w.heap.size=0:=by
     rcases alO (tot G s2.m w.heap.size)with h'|h'
     .exact h'
     have:=b2.mem.lt w.heap.size kQ1;omega
    obtain⟨γ',F',O,Y⟩:=dR M (n:=.gh d) rfl hn (v:=z') (t:=.ow sub (l++ys)) (f:=f') ⟨k',c2⟩ (λb=>by
      grind)
     (λb hb=>⟨c9 b hb,by grind⟩)
     (λb hb=>by
      have h5:=c8 b
      by_cases ad:b=w.heap.size
      .right;have:=b2.fr.size;omega
      grind)
    refine⟨_,z',w',H1,γ',F',c1,c,RX.put O hd (g8 (sub:=sub) (l:=l++ys) ?_ Y)⟩;simp[ah]
 |_=>grind
end
end Go.Am
end
