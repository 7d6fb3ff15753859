/-
  Part 7: AmAppRun · AmFreeze · AmBox · AmAppend · AmAppendOp.
-/
import Derived.Test.YthhkhcolidkemaaGreatDoorCt6
import Derived.Laws.Append
import Derived.Laws.CopyRow
import Derived.Laws.AppendOwn
set_option linter.unusedSimpArgs false
set_option linter.unusedVariables false
set_option linter.unusedSectionVars false
set_option linter.unnecessarySimpa false
section
namespace Go.Am
def isSS:TypeDesc->Bool
 |.slice _=>true
 |.string=>true
 |_=>false
variable{d:TypeDesc}
theorem oV(h:isSS d=true):(∃e,d=.slice e)\/d=.string:=by cases d<;>simp[isSS]at h|-
variable{e t tt u:TypeId}{i:TypeInfo}{ws:List Value}{x z:Value}
section
variable {P:Program} {w:World}
structure Src (P:Program) (w:World) (size:Nat) (x:Value) (n:Nat) (ws:List Value):Prop where
 len:∀w',(Builtin.lenOf x).run P w'=.ok n w'
 cells:∀w':World,w'.heap=w.heap->(Builtin.firstCells size n x).run P w'=.ok ws.toArray w'
 size:ws.length=n*size
theorem wc{size n c:Nat}{b o:Nat}(hl:ws.length=n*size)(h:XD w b o ws):Src P w size (.slice (some ⟨b,o,none⟩) n c) n ws:=by refine⟨λ_=>rfl,λw' hw=>?_,hl⟩;refine run_firstCells_some w' size n _ n c ws hl (λj v hv=>?_);rw[eF];exact(dW (by rw[hw])).trans (h j v hv)
theorem pS{size c:Nat}{a:Option Addr}:Src P w size (.slice a 0 c) 0 []:=by
 refine⟨λ_=>rfl,λw' _=>?_,by simp⟩;cases a with
 |none=>rfl
 |some a=>simp only[Builtin.firstCells,Nat.zero_mul];rfl
theorem aaV{l:List UInt8}:Src P w 1 (.string ⟨l.toArray⟩) l.length (l.map λb=>.int .u8 b.toNat):=by
 have hs:(⟨l.toArray⟩:ByteArray).size=l.length:=by rfl
 refine⟨λw'=>?_,λw' _=>?_,by simp⟩
 all_goals grind [Builtin.lenOf,Sem.run_pure,Builtin.firstCells,ByteArray.data_extract]
theorem It(f:P.underlying t=some (.slice e))(g:P.underlying u=some d)(hd:isSS d=true)(hi:P.info? e=some i)
  {a:Option Addr} {n c m:Nat} (hx:Src P w i.size x m ws) (b:n+m<=c) (hw:ws=[]\/a=none) :
  (Builtin.append_ #[t,u] tt #[.slice a n c,x]).run P w=.ok (.slice a (n+m) c) w:=by
 have h1:=hx.len w
 have h2:=hx.cells w rfl
 cases a with
 |none=>
  rcases oV hd with⟨e',rfl⟩|rfl
  all_goals simp[Builtin.append_,run_underlying f,run_underlying g,sizeOf,typeInfo,hi,h1,h2,b]
 |some a=>
  have:ws=[]:=by grind
  subst this;rcases oV hd with⟨e',rfl⟩|rfl
  all_goals simp[Builtin.append_,run_underlying f,run_underlying g,sizeOf,typeInfo,hi,h1,h2,b,storeCells]
theorem Sd(h:P.underlying t=some (.slice e))(j:P.underlying u=some d)(hd:isSS d=true)(hi:P.info? e=some i)
  {g n c m:Nat} {cur:Array Value} {ty':TypeId} (k:w.heap[g]? = some (.cells cur ty' (0,0))) (hx:Src P w i.size x m ws) (h1':∀v∈ws,v.oneCell'=true) (a:n+m<=c) (f:n*i.size+ws.length<=cur.size) :
  (Builtin.append_ #[t,u] tt #[.slice (some ⟨g,0,none⟩) n c,x]).run P w =
   .ok (.slice (some ⟨g,0,none⟩) (n+m) c) (w.setRow g (cur.toList.take (n*i.size)++ws++cur.toList.drop (n*i.size+ws.length)).toArray):=by
 have h1:=hx.len w
 have h2:=hx.cells w rfl
 have b:=run_storeCells_at P g (n*i.size) ty' ws 0 cur w k kQ1 h1'
 simp only[am0]at b;rcases oV hd with⟨e',rfl⟩|rfl
 all_goals simp[Builtin.append_,run_underlying h,run_underlying j,sizeOf,typeInfo,hi,h1,h2,a,Addr.add_lit,b]
theorem Is{b:List Value}(j:P.underlying t=some (.slice e))(k:P.underlying u=some d)(hd:isSS d=true)(hi:P.info? e=some i)
  (hz:i.zero=some z) {a:Option Addr} {n c m:Nat} (hx:Src P w i.size x m ws) (ho:Src P w i.size (.slice a n c) n b) (l:c<n+m) (h:((n+m:Nat):Int)<=9223372036854775807) (hb:(n+m)*i.bytes<=140737488355328) :
  (Builtin.append_ #[t,u] tt #[.slice a n c,x]).run P w =
   .ok (.slice (some ⟨w.heap.size,0,none⟩) (n+m) (grownCap w (n+m) c e))
    (w.drew.alloc (.cells ((b++ws).toArray++Builtin.zeroCells z.cells (grownCap w (n+m) c e - (n+m))) e)):=by
 have h1:=hx.len w
 have h2:=hx.cells w.drew rfl
 have h3:=ho.cells w.drew rfl
 have hn:¬ (n+m<=c):=by omega
 have f:¬ (9223372036854775807 < ((n:Int)+(m:Int))):=by omega
 have g:¬ (281474976710656<Builtin.nextslicecap (n+m) c*i.bytes):=by simp_all[growslice_fits]
 rcases oV hd with⟨e',rfl⟩|rfl
 all_goals simp[Builtin.append_,run_underlying j,run_underlying k,sizeOf,typeInfo,zeroValue,hi,hz,h1,h2,h3,hn,f,g,Question.forced,newRow,grownCap]
 all_goals grind
theorem Js{a b:Nat}:a<=grownCap w a b e:=by grind [grownCap,Question.cut]
end
def AV1.map(f:T->T):AV1->AV1
 |.c t=>.c (f t)
 |.agg ts=>.agg (ts.map f)
def AV.map(f:T->T):AV->AV
 |.one x=>.one (x.map f)
 |.tup xs=>.tup (xs.map (·.map f))
 |.any=>.any
def u7(f:AV->AV)(t:List (Nat×AV)):List (Nat×AV):=t.map λx=>(x.1,f x.2)
theorem rv{f:AV->AV}(hf:f .any=.any):∀(t:List (Nat×AV))(i:Nat),bB (u7 f t) i=f (bB t i)
 |[],i=>hf.symm
 |(k,v)::t,i=>by
  simp only[u7,akM,bB];split
  .rfl
  exact rv hf t i
variable{H':FH}{m m':Mm}{w':World}{γ':Gam}
theorem aaA{w:World}{H:FH}{γ:Gam}{f:T->T}(hf:∀t y,TR w H γ m t (λ_=>0) y->TR w' H' γ' m' (f t) (λ_=>0) y) :
  ∀{ts:List T}{g:Fp}{vs:List Value},(∀b,g b=0)->Ts (TR w H γ m) ts g vs->Ts (TR w' H' γ' m') (ts.map f) g vs:=by
 intro ts g vs c h;unfold Ts;rw[akT];refine LX (λ_ t k y hk a=>?_) h;have:k=λ_=>0:=by grind
 grind
theorem Pb{w:World}{H:FH}{γ:Gam}{f:T->T}(hf:∀t y,TR w H γ m t (λ_=>0) y->TR w' H' γ' m' (f t) (λ_=>0) y)
  {x:AV1} {y:Value} (h:AR1 w H γ m x y):AR1 w' H' γ' m' (x.map f) y:=by
 cases x with
 |c t=>exact hf t y h
 |agg ts=>obtain⟨cs,h1,h2,h3⟩:=h;exact⟨cs,h1,by grind,aaA hf (λ_=>rfl) h3⟩
theorem Pd{w:World}{H:FH}{γ:Gam}{f:T->T}(hf:∀t y,TR w H γ m t (λ_=>0) y->TR w' H' γ' m' (f t) (λ_=>0) y) :
  ∀{xs:List AV1}{ys:List Value},ARs w H γ m xs ys->ARs w' H' γ' m' (xs.map (·.map f)) ys
 |[],[],_=>trivial
 |_::_,_::_,h=>⟨Pb hf h.1,Pd hf h.2⟩
 |[],_::_,h=>h.elim
 |_::_,[],h=>h.elim
theorem iF{w:World}{H:FH}{γ:Gam}{f:T->T}(hf:∀t y,TR w H γ m t (λ_=>0) y->TR w' H' γ' m' (f t) (λ_=>0) y)
  {x:AV} {y:Value} (h:AR w H γ m x y):AR w' H' γ' m' (x.map f) y:=by
 cases x with
 |one x=>exact Pb hf h
 |tup xs=>obtain⟨l,h1,h2⟩:=h;exact⟨l,h1,Pd hf h2⟩
 |any=>trivial
def T.frz(q:Pl)(l:List (List D)):T->T
 |.rf p=>match p with
  |⟨n,o,[]⟩=>if n=q.root/\o=q.off then .d (.li l)else(T.rf ⟨n,o,[]⟩).kill (thr q)
  |p=>(T.rf p).kill (thr q)
 |t=>t.kill (thr q)
def Jj(m:Mm)(q:Pl)(l:List (List D)):Mm:=bF (aP (thr q) (bF m q .any)) q (.d (.li l))
def Jk(s:S)(q:Pl):S:=
 match q.path,bi s.m q with
 |[],some (.ow _ l)=>⟨u7 (AV.map (T.frz q l)) s.t,Jj s.m q l⟩
 |_,_=>s
variable{n:Nm}{v:Value}
theorem L8{w:World}{H:FH}{γ:Gam}{F:Nm->Fp}(hm:Mem w H γ m F){off:Nat}(f:bi m ⟨n,off,[]⟩=some .any)(hv:aI w (γ n) off=some v){x:D}(hx:FDx H x v) :
  Mem w H γ (bF m ⟨n,off,[]⟩ (.d x)) F/\Keeps w γ m w γ (bF m ⟨n,off,[]⟩ (.d x)):=by
 unfold bi at f;cases hr:ah m n with
 |none=>grind
 |some r=>
  rw[hr]at f;dsimp only at f;have i:=di f
  have e:bF m ⟨n,off,[]⟩ (.d x)=cY m n { r with cells:=r.cells.set off (.d x) }:=by grind [bF]
  have c:∀k,ah (bF m ⟨n,off,[]⟩ (.d x)) k=if n=k then some { r with cells:=r.cells.set off (.d x) }else ah m k:=λk=>by grind [gj]
  have j:Keeps w γ m w γ (bF m ⟨n,off,[]⟩ (.d x)):=by
   constructor
   .intro q hq;refine⟨?_,rfl⟩;rw[ay]at hq|-;rw[c];obtain⟨s,h1,h2⟩:=hq;by_cases hn:n=q.root
    .dsimp only[bf]at h2|-
     grind
    grind
   intro q hq;refine⟨?_,rfl⟩;rw[cr]at hq|-;rw[c];obtain⟨s,h1,h2⟩:=hq;by_cases hn:n=q.root
   .dsimp only[bO]at h2|-
    grind
   grind
  refine⟨⟨hm.agree,?_,?_,?_,?_,?_⟩,j⟩
  .intro y hy;rw[e]at hy;rcases qm hm.keys hy with⟨_,hy⟩|rfl
   .exact bm j (λ_ _ _ h=>h) rfl (λ_ _=>rfl) (hm.roots y hy)
   have a:=hm.roots _ (al hr)
   have a:=bm j (λ_ _ _ h=>h) rfl (λ_ _=>rfl) a
   unfold cz at a|-;split at a
   .obtain⟨b,cs,ty,fz,g,h1,h2,h3,h4,h5,h6⟩:=a;unfold Ts at h5|-;obtain⟨s0,t0,v0,p,fr,A,z,a3,a4,a5,u,_⟩:=dq _ _ _ _ off h5 i;obtain rfl:T.any=t0:=by grind
    have l:v0=v:=by grind [aI,World.cell?]
    subst l;have h0:∀b,p b=0:=a5
    have:=u (λ(_:Unit) t=>TR w H γ (bF m ⟨n,off,[]⟩ (.d x)) t) (.d x) v0 (λ_=>0) (λ_ _ _ _ _ h=>h) ⟨λ_=>rfl,hx⟩
    grind [qJ,pL]
   rename_i hb;rw[if_neg hb];obtain⟨o,t,h1,h2,h3⟩:=a;have:off=0:=by grind
   subst this;obtain rfl:t=.any:=by grind
   rw[h1]at hv;simp only[aI,if_true,akJ]at hv;subst hv;exact⟨o,.d x,h1,by grind,h3,hx⟩
  .grind [nE,Mem.keys]
  .grind [dT,Mem.le1]
  .intro b hb;rw[e,dT]at hb;exact hm.lt b hb
  intro b hb;rw[e,dT]at hb;exact hm.nofz b hb
section
variable {P:Program} {g:G} {s:S} {a:Act} {w:World} {H:FH} {γ:Gam} {F:Nm->Fp}
theorem Mb(h:RX g s a w H γ F)(q:Pl):∃H' F',RX g (Jk s q) a w H' γ F':=by
 unfold Jk;obtain⟨n,off,path⟩:=q;cases path with
 |cons st u=>grind
 |nil=>
  dsimp only;cases B:bi s.m ⟨n,off,[]⟩with
  |none=>grind
  |some t=>
   cases t with
   |ow sub l=>
    dsimp only;have d:cq s.m ⟨n,off,[]⟩:=by
     unfold bi at B;rw[ay];cases hr:ah s.m n with
     |none=>grind
     |some r=>rw[hr]at B;exact⟨r,rfl,di B⟩
    obtain⟨f,v,R,N,t3,t4,t5⟩:=zi h.mem d B
    let H':FH:=λb o=>if f b≠0 then(w.cell? ⟨b,o,none⟩).map HV.c else H b o
    have J:∀b o y,H b o=some y->H' b o=some y:=by
     intro b o y hy;simp only[H'];split
     .rw[h.mem.nofz b (by grind) o]at hy;cases hy
     omega
    have L:∀b o y,H' b o=some y->RdV w b o y:=by
     intro b o y hy;simp only[H']at hy;split at hy
     .obtain⟨z,hz,rfl⟩:=ak0.1 hy;exact hz
     exact h.mem.agree b o y hy
    have G:=t5 H' J L (λb hb o=>by
     have h1:=t4 b;have h2:=h.mem.le1 b
     simp only[H'];rw[if_neg kQ1];exact h.mem.nofz b kQ1 o)
    have hx:FDx H' (.li l) v:=by
     obtain⟨k,M⟩:=N
     grind [Wi]
    have A:bi (aP (thr ⟨n,off,[]⟩) (bF s.m ⟨n,off,[]⟩ .any)) ⟨n,off,[]⟩=some .any:=by obtain⟨r,hr,E⟩:=ay.1 d;unfold bi;rw[lr,Al (t:=T.any) hr];simp only[if_true,Option.map_some,akN];rw[ak7 E];rfl
    have hv:=R
    obtain⟨I,D⟩:=L8 G A hv hx;have K:=pO h.mem d
    refine⟨H',_,⟨I,?_,h.nt,h.df,λi=>?_⟩⟩
    .have j:∀b,tot (λk b=>F k b-if k=n then f b else 0) (Jj s.m ⟨n,off,[]⟩ l) b=tot (λk b=>F k b-if k=n then f b else 0) s.m b:=by grind [Jj,bF,dT,bC]
     refine⟨h.fr.size,h.fr.os,h.fr.tape,h.fr.output,h.fr.block,λb o y hy=>J _ _ _ (h.fr.hold b o y hy),λb o h1 h2=>?_,λb hb=>?_,h.fr.nz.1,λb o x l' c h1 h2=>?_⟩
     rotate_left 2
     .by_cases hb:f b=0
      .simp only[H']at h1;rw[if_neg kQ1]at h1;exact h.fr.nz.2 b o x l' c h1 h2
      obtain⟨k,M⟩:=N
      grind [P5]
     .by_cases hb:f b=0
      .simp only[H']at h1;rw[if_neg kQ1]at h1;exact h.fr.hnew b o h1 h2
      exact h.fr.tt b (by grind)
     have C:=j b
     have h4:=t4 b
     dsimp only at h4 C;have Q:tot (λk b=>F k b-if k=n then f b else 0) (Jj s.m ⟨n,off,[]⟩ l) b≠0:=hb
     refine h.fr.tt b ?_;omega
    rw[rv rfl];refine iF (λt y e=>?_) (h.t i);have hk:=λ(t:T) (e:TR w H γ s.m t (λ_=>0) y)=>jJ D (λ_ _ _ h=>h) (λ_ hb=>absurd rfl hb) (qZ K J (λ_ hb=>absurd rfl hb) e)
    cases t with
    |rf p=>
     obtain⟨U,S,P⟩:=p;cases P with
     |nil=>
      simp only[T.frz];split
      .obtain⟨_,_,O⟩:=e;have:y=v:=by grind
       subst this;exact⟨λ_=>rfl,hx⟩
      exact hk _ e
     |cons st u=>exact hk _ e
    |_=>exact hk _ e
   |_=>grind
def XV(s:S):T->S
 |.rf p=>Jk s p
 |_=>s
def Dn:S->List T->S
 |s,[]=>s
 |s,t::ts=>Dn (XV s t) ts
def Jm(s:S):AV->S
 |.one (.c t)=>XV s t
 |.one (.agg ts)=>Dn s ts
 |_=>s
def pE(s:S):List AV->S
 |[]=>s
 |v::vs=>pE (Jm s v) vs
theorem P7(h:RX g s a w H γ F)(t:T):∃H' F',RX g (XV s t) a w H' γ F':=by
 cases t with
 |rf p=>exact Mb h p
 |_=>exact⟨H,F,h⟩
theorem Ih:∀(ts:List T)(s:S)(H:FH)(F:Nm->Fp),RX g s a w H γ F->∃H' F',RX g (Dn s ts) a w H' γ F'
 |[],s,H,F,h=>⟨H,F,h⟩
 |t::ts,s,H,F,h=>by obtain⟨H1,F1,h1⟩:=P7 h t;exact Ih ts _ H1 F1 h1
theorem ED(h:RX g s a w H γ F)(v:AV):∃H' F',RX g (Jm s v) a w H' γ F':=by
 unfold Jm;split
 .exact P7 h _
 .exact Ih _ _ _ _ h
 grind
theorem uo:∀(vs:List AV)(s:S)(H:FH)(F:Nm->Fp),RX g s a w H γ F->∃H' F',RX g (pE s vs) a w H' γ F'
 |[],s,H,F,h=>⟨H,F,h⟩
 |v::vs,s,H,F,h=>by obtain⟨H1,F1,h1⟩:=ED h v;exact uo vs _ H1 F1 h1
end
def S.fresh(s:S)(n:Nm):S:=match ah s.m n with
 |none=>s
 |some _=>s.drop n
def S.root(s:S)(n:Nm)(r:Root):S:=⟨s.t,(n,r)::s.m⟩
def zcells(P:Program)(t:TypeId):Option (List Value):=
 match P.info? t with
 |some it=>match it.zero with
  |some z=>if z.cells.all okT=true then some z.cells.toList else none
  |none=>none
 |none=>none
def T.fz:T->D
 |.d x=>x
 |.nil=>.li []
 |_=>.any
variable{α:Type}
def chunk(size:Nat):Nat->List α->List (List α)
 |0,_=>[]
 |n+1,l=>l.take size::chunk size n (l.drop size)
theorem oG{size:Nat}:∀{n:Nat}{l:List α},(chunk size n l).length=n
 |0,_=>rfl
 |n+1,l=>by simp only[chunk,ak3,oG]
theorem s6{size:Nat}:∀{n:Nat}{l:List α},l.length=n*size->(chunk size n l).flatten=l
 |0,l,h=>by
  have:l=[]:=by grind
  subst this;rfl
 |n+1,l,h=>by simp only[chunk,List.flatten_cons];rw[s6 (by grind),amI]
theorem wv{size:Nat}:∀{n:Nat}{l:List α},l.length=n*size->∀x∈chunk size n l,x.length=size
 |0,l,h,x,hx=>by grind [chunk]
 |n+1,l,h,x,hx=>by
  simp only[chunk,akU]at hx;rcases hx with rfl|hx
  .grind
  exact wv (by grind) x hx
theorem rP(hk:(m.map (·.1)).Nodup):n ∉ (ci m n).map (·.1):=by induction m<;>grind [ci]
variable{cs:Array Value}{k:S->Prop}{vs:Array (Nat×Value)}
section
variable {P:Program} {g:G} {s:S} {a:Act} {w:World} {H:FH} {γ:Gam} {F:Nm->Fp}
theorem dv(h:RX g s a w H γ F)(n:Nm):RX g (s.fresh n) a w H γ F:=by grind [S.fresh,um]
theorem cE(h:RX g s a w H γ F)(n:Nm):ah (s.fresh n).m n=none:=by
 unfold S.fresh;split
 .omega
 show ah (aP (bJ n) (ci s.m n)) n=none
 rw[lr];have:ah (ci s.m n) n=none:=wD.2 (rP h.mem.keys)
 grind
theorem kZ{zs:List Value}(h:zcells P t=some zs):∃it z,P.info? t=some it/\it.zero=some z/\z.cells.toList=zs/\zs.all okT=true:=by grind [zcells]
theorem UJ{it:TypeInfo}(hi:P.info? t=some it)(hz:it.zero=some z) :
  (Instr.alloc t true (.tuple #[])).run P w=.ok (.pointer (some ⟨w.heap.size,0,none⟩)) (w.alloc (.cells z.cells t)):=by
 simp[Instr.alloc,zeroValue,typeInfo,hi,hz,newVar,newRow]
theorem ad6:(Instr.box t v).run P w=.ok (.pointer (some ⟨w.heap.size,0,none⟩)) (w.alloc (.cells v.cells t)):=by rfl
theorem Wt(h:RX g s a w H γ F)(hno:n.isOut=false){ts:List T}(hl:cs.size=ts.length)(e:Ts (TR w H γ (s.fresh n).m) ts (λ_=>0) cs.toList)(ty:TypeId)(f:∀t,n.tyd=some t->ty=t){d:Option Tmp}(hd:okD g.nt d=true)(i:ts≠[]) :
  ∃γ' F',RX g (((s.fresh n).root n ⟨true,ts⟩).put d (.one (.c (.pl ⟨n,0,[]⟩)))) (a.put d (.pointer (some ⟨w.heap.size,0,none⟩))) (w.alloc (.cells cs ty)) H γ' F':=by
 obtain⟨γ',F',h1,h2⟩:=Wl (dv h n) hno (cE h n) hl e ty f;refine⟨γ',F',RX.put h1 hd ⟨λ_=>rfl,?_,⟨w.heap.size,0,none⟩,?_,rfl⟩⟩
 .rw[ay];refine⟨⟨true,ts⟩,by simp[ah],?_⟩;show 0<ts.length
  grind
 show(match γ' n with|.blk b=>some (⟨b,0,none⟩:Addr)|.gh _=>none)=_
 rw[h2]
def o6(t:Nat)(d:Nat):Nm:=if t=999999 then .loc (999999*1000000+d)else .loc d
theorem YS{t:Nat}{d:Nat}:(o6 t d).isOut=false:=by unfold o6;split<;>rfl
theorem adG{t:Nat}{d:Nat}(hd:d < 1000000):∀u,(o6 t d).tyd=some u->t=u:=by grind [o6,Nm.tyd]
def wd(P:Program)(s:S)(t:TypeId)(d:Tmp)(k:S->Prop):Prop:=
 match zcells P t with
 |some zs=>zs≠[]/\d < 1000000/\k (((s.fresh (o6 t d)).root (o6 t d) ⟨true,zs.map sr⟩).put (some d) (.one (.c (.pl ⟨o6 t d,0,[]⟩))))
 |none=>False
theorem RZ(h:RX g s a w H γ F){d:Tmp}(hd:okD g.nt (some d)=true)(b:wd P s t d k) :
  ∃s' y w' γ' F',(Instr.alloc t true (.tuple #[])).run P w=.ok y w'/\k s'/\RX g s' (a.put (some d) y) w' H γ' F':=by
 unfold wd at b;cases hz:zcells P t with
 |none=>grind
 |some zs=>
  rw[hz]at b;obtain⟨e,c,b⟩:=b;obtain⟨it,z,h1,h2,h3,h4⟩:=kZ hz;obtain⟨γ',F',f⟩:=Wt h (n:=o6 t d) YS (ts:=zs.map sr) (cs:=z.cells) (by grind) (by grind [zu]) t (adG c) hd (by simp_all)
  grind [UJ]
def Sk(s:S)(x:Operand)(d:Tmp)(k:S->Prop):Prop:=
 match fH (ev (s.fresh (.loc d)) x)with
 |some ts=>ts≠[]/\ts.all T.sure=true/\d < 1000000/\k (((s.fresh (.loc d)).root (.loc d) ⟨true,ts⟩).put (some d) (.one (.c (.pl ⟨.loc d,0,[]⟩))))
 |none=>False
theorem aa7(h:RX g s a w H γ F){x:Operand}{d:Tmp}(hd:okD g.nt (some d)=true)(hx:aH x=true)(b:Sk s x d k) :
  ∃s' y w' H' γ' F',(Instr.box t (a.eval x)).run P w=.ok y w'/\k s'/\RX g s' (a.put (some d) y) w' H' γ' F':=by
 unfold Sk at b;have h':=dv h (.loc d)
 have hv:=aJ h' hx
 cases hz:fH (ev (s.fresh (.loc d)) x)with
 |none=>grind
 |some ts=>
  rw[hz]at b;obtain⟨c,hs,i,b⟩:=b;obtain⟨f,e⟩:=yP h'.mem hv hz hs;obtain⟨γ',F',l⟩:=Wt h (n:=.loc d) rfl (ts:=ts) (cs:=(a.eval x).cells) f e t (λu j=>by grind [Nm.tyd]) hd c
  grind [ad6]
theorem Sm(hm:Mem w H γ m F){a:List (Nat×AV)}{k:AV->Prop}(h:sX P t a k)(hp:PR w H γ m a vs.toList) :
  ∃z d,(∀w:World,(Instr.build t vs).run P w=.ok z w)/\AR w H γ m d z/\k d:=by
 unfold sX at h;cases hz:zst P t with
 |none=>grind
 |some q=>
  obtain⟨zs,j⟩:=q;rw[hz]at h;dsimp only at h;cases hf:ki (j[·]?) (zs.map sr) a with
  |none=>grind
  |some ts=>
   rw[hf]at h;unfold zst at hz;cases hi:P.info? t with
   |none=>grind
   |some it=>
    rw[hi]at hz;cases u:P.underlying t with
    |none=>grind
    |some td=>
     rw[u]at hz;cases td with
     |struct g=>
      dsimp only at hz;cases l:it.zero with
      |none=>grind
      |some z=>
       cases n:g.toList.mapM (λf=>(P.info? f.type).map λi=>(f.offset,i.size))with
       |none=>grind
       |some pl=>
        rw[l,n]at hz;dsimp only at hz;split at hz
        .obtain⟨rfl,rfl⟩:=hz;have b:z.cells.toList.all okT=true:=by grind
         obtain⟨c,s,r,p⟩:=yy hm a vs.toList (z.cells.toList.map sr) z.cells ts hp (by simp) (zu b) hf;refine⟨.agg c,.one (.agg ts),λw=>run_build w t vs c ?_,⟨c,rfl,r,p⟩,h⟩
         simp_all[Program.built]
        grind
     |array N e=>
      dsimp only at hz;cases l:it.zero with
      |none=>grind
      |some z=>
       cases o:P.info? e with
       |none=>grind
       |some v=>
        rw[l,o]at hz;dsimp only at hz;split at hz
        .obtain⟨rfl,rfl⟩:=hz;have b:z.cells.toList.all okT=true:=by grind
         obtain⟨c,s,r,p⟩:=yy hm a vs.toList (z.cells.toList.map sr) z.cells ts hp (by simp) (zu b) hf;refine⟨.agg c,.one (.agg ts),λw=>run_build w t vs c ?_,⟨c,rfl,r,p⟩,h⟩
         grind [Program.built,Dg]
        grind
     |_=>grind
theorem kf{len:Nat}{cells:Array Value}{a:TypeInfo}
  (f:P.underlying t=some (.slice e)) (d:P.info? e=some a) (hz:a.zero=some z) (b:¬ len*a.size > 2 ^ 24)
  (h:∀us:Array Value,us.size=len*a.size->∃cs,Instr.fill (λi=>some (i*a.size,a.size)) us vs.toList=some cs/\cs.size=len*a.size/\(cells=cs\/True)) :
  ∃us cs,us.size=len*a.size/\Instr.fill (λi=>some (i*a.size,a.size)) us vs.toList=some cs /\
  (Instr.buildSlice t len vs).run P w=.ok (.slice (some ⟨w.heap.size,0,none⟩) len len) (w.alloc (.cells cs e)):=by
 by_cases c:len*a.size=0
 .obtain⟨cs,h1,h2,_⟩:=h ((Array.range (len*a.size)).map ((#[]:Array Value)[· % (#[]:Array Value).size]!)) (by simp);refine⟨_,cs,by simp,h1,?_⟩;simp[Instr.buildSlice,run_underlying f,sizeOf,typeInfo,d,c,newRow]at h1|-;simp[h1]
 obtain⟨cs,h1,h2,_⟩:=h ((Array.range (len*a.size)).map (z.cells[· % z.cells.size]!)) (by simp);refine⟨_,cs,by simp,h1,?_⟩;simp[Instr.buildSlice,run_underlying f,sizeOf,typeInfo,zeroValue,d,hz,b,c,newRow,h1]
theorem aeU{k:Nat}:∀{ts:List T}{f:Fp}{vs:List Value},(∀b,f b=0)->Ts (TR w H γ m) ts f vs ->
  Cs (OD w H k) (List.replicate ts.length .fr) (ts.map T.fz) f vs
 |[],_,_,hf,_=>hf
 |t::ts,f,vs,hf,h=>by
  obtain⟨v,r,f1,a,h1,h2,h3,h4⟩:=h;refine⟨v,r,f1,a,h1,h2,?_,aeU (λb=>by grind) h4⟩;rw[gr];refine⟨λb=>by grind,?_⟩;cases t with
  |d x=>exact h3.2
  |nil=>obtain⟨_,rfl⟩:=h3;exact oq
  |_=>exact⟨0,trivial⟩
def lC(s:S)(ps:Array (Nat×Operand)):List (Nat×AV):=ps.toList.map λx=>(x.1,ev s x.2)
theorem ul{m:Mm}{s:S}(h:RX g s a w H γ F):∀{ps:List (Nat×Operand)},(ps.all λx=>aH x.2)=true ->
  PR w H γ s.m (ps.map λx=>(x.1,ev s x.2)) (ps.map λx=>(x.1,a.eval x.2))
 |[],_=>trivial
 |x::ps,hp=>by simp only[akW,akI]at hp;exact⟨rfl,aJ h hp.1,ul (m:=m) h hp.2⟩
def iq(P:Program)(s0:S)(t:TypeId)(len:Nat)(ps:Array (Nat×Operand))(d:Tmp)(k:S->Prop):Prop:=
 match(ty P t).k with
 |.sl e=>(ty P e).ok=true/\(zcells P e).isSome=true/\len*(ty P e).size<=16777216/\len<=16777216 /\
  let s:=(pE s0 (ps.toList.map λx=>ev s0 x.2)).fresh (.gh d)
  match ki (λi=>some (i*(ty P e).size,(ty P e).size)) (List.replicate (len*(ty P e).size) .any) (lC s ps)with
  |some ts=>k ((s.root (.gh d) ⟨false,[.ow (List.replicate (ty P e).size .fr) (chunk (ty P e).size len (ts.map T.fz))]⟩).put (some d) (.one (.c (.rf ⟨.gh d,0,[]⟩))))
  |none=>False
 |_=>False
theorem oI:∀{b:List (Nat×AV)}{pl:Nat->Option (Nat×Nat)}{ts ts':List T},ki pl ts b=some ts'->ts'.length=ts.length
 |[],pl,ts,ts',h=>by grind [ki]
 |(i,x)::r,pl,ts,ts',h=>by
  simp only[ki]at h;cases hp:pl i with
  |none=>grind
  |some q=>
   rw[hp]at h;cases hc:fH x with
   |none=>grind
   |some cs=>
    rw[hc]at h;dsimp only at h;split at h
    .rename_i a;rw[oI h,wR a.2.1]
    grind
theorem Mf:∀{vs:List Value},Ts (TR w H γ m) (List.replicate vs.length .any) (λ_=>0) vs
 |[]=>λ_=>rfl
 |v::vs=>⟨v,vs,λ_=>0,λ_=>0,rfl,λ_=>rfl,λ_=>rfl,Mf⟩
theorem K9(n size:Nat):(List.replicate n (List.replicate size Sh.fr)).flatten=List.replicate (n*size) Sh.fr:=by simp_all
theorem RO(h:RX g s a w H γ F)(hno:n.isOut=false)(hn:ah s.m n=none){ty':TypeId}{len cap size:Nat}{l:List (List D)}(hl:l.length=len)(f:len<=cap)(e:len<=BIG)
  (hx:∀x∈l,x.length=size) (q:cs.size=cap*size) (j:∀k,Cs (OD w H k) (List.replicate (len*size) Sh.fr) l.flatten (λ_=>0) cs.toList) :
  ∃γ' F',RX g (s.root n ⟨false,[.ow (List.replicate size .fr) l]⟩) a (w.alloc (.cells cs ty')) H γ' F'/\γ' n=.gh (.slice (some ⟨w.heap.size,0,none⟩) len cap):=by
 obtain⟨hm,hf,r,B⟩:=qV h.mem cs ty' false;have u:=kl h hm hf (λi=>dK r (λ_ _ _ h=>h) (h.t i)) (λ_=>rfl)
 have hz:tot F s.m w.heap.size=0:=by
  rcases alI (tot F s.m w.heap.size)with h'|h'
  .exact h'
  have:=h.mem.lt w.heap.size kQ1;omega
 have A:∀o,H w.heap.size o=none:=by
  intro o;cases hc:H w.heap.size o with
  |none=>rfl
  |some y=>have:=(h.mem.agree _ _ _ hc).lt;omega
 have d:∀k,Cs (OD (w.alloc (.cells cs ty')) H k) (List.replicate len (List.replicate size Sh.fr)).flatten l.flatten (λ_=>0) cs.toList:=by intro k;rw[K9];refine lY _ _ _ _ (λs x g v z c=>?_) (j k);exact cZ (λ_ _ _ h=>h) k k _ _ _ _ (akK _) (λb hb=>absurd (Nat.le_zero.1 (z b)) hb) c
 subst hl;have c:TR (w.alloc (.cells cs ty')) H γ s.m (.ow (List.replicate size .fr) l) (λb=>0+if b=w.heap.size then 1 else 0) (.slice (some ⟨w.heap.size,0,none⟩) l.length cap):=⟨1,zk (bL) rfl (by grind) f e (by grind) (d 0)⟩
 exact eE u hno hn c (λb=>by
   grind [Mem.le1])
  (λb hb=>by simp_all)
  (λb hb=>by
   have p:b=w.heap.size:=by grind
   have:=h.fr.size;omega)
theorem iE{sub:List Sh}{l:List (List D)}(hn:ah m n=some ⟨false,[.ow sub l]⟩)(a:γ n=.gh v):AR w H γ m (.one (.c (.rf ⟨n,0,[]⟩))) v:=by
 refine⟨λ_=>rfl,?_,?_⟩
 .rw[cr];exact⟨_,hn,trivial⟩
 show aI w (γ n) 0=some v
 rw[a];rfl
theorem zB(h:RX g s a w H γ F){t:TypeId}{len:Nat}{ps:Array (Nat×Operand)}{d:Tmp}(hd:okD g.nt (some d)=true)(hp:(ps.toList.all λx=>aH x.2)=true)(f:iq P s t len ps d k) :
  ∃s' y w' H' γ' F',(Instr.buildSlice t len (ps.map λ(i,x)=>(i,a.eval x))).run P w=.ok y w'/\k s'/\RX g s' (a.put (some d) y) w' H' γ' F':=by
 unfold iq at f;cases hk:(ty P t).k with
 |sl e=>
  rw[hk]at f;obtain⟨v,D,c,L,f⟩:=f;obtain⟨_,td,hit,G,r,_⟩:=bh hk (by simp);have:=pJ r
  subst this;obtain⟨b,N,u,_⟩:=jY v;have o:(ty P e).size=b.size:=by omega
  obtain⟨zs,A⟩:=Option.isSome_iff_exists.1 D;obtain⟨B,z,M,hz,_⟩:=kZ A;obtain rfl:b=B:=by grind
  obtain⟨H1,F1,h1⟩:=uo (ps.toList.map λx=>ev s x.2) s H F h;have h2:=dv h1 (.gh d)
  have hn:=cE h1 (.gh d)
  dsimp only at f;generalize(pE s (ps.toList.map λx=>ev s x.2)).fresh (.gh d)=s2 at f h2 hn;cases hf:ki (λi=>some (i*(ty P e).size,(ty P e).size)) (List.replicate (len*(ty P e).size) .any) (lC s2 ps)with
  |none=>grind
  |some ts=>
   rw[hf]at f;rw[o]at hf f c;have E:PR w H1 γ s2.m (lC s2 ps) (ps.map λ(i,x)=>(i,a.eval x)).toList:=by rw[Array.toList_map];exact ul (m:=s2.m) h2 hp
   have j:∀us:Array Value,us.size=len*b.size->∃cs,Instr.fill (λi=>some (i*b.size,b.size)) us (ps.map λ(i,x)=>(i,a.eval x)).toList=some cs/\cs.size=ts.length/\Ts (TR w H1 γ s2.m) ts (λ_=>0) cs.toList:=by
    intro us hus;refine yy h2.mem _ _ _ us ts E (by grind) ?_ hf;have:=Mf (w:=w) (H:=H1) (γ:=γ) (m:=s2.m) (vs:=us.toList)
    grind
   have I:ts.length=len*b.size:=by rw[oI hf];simp
   obtain⟨us,cs,u1,O,J⟩:=kf (P:=P) (w:=w) (t:=t) (e:=e) (len:=len) (vs:=ps.map λ(i,x)=>(i,a.eval x)) (cells:=#[]) G u hz kQ1 (λus hus=>by grind)
   obtain⟨C,Q,R,c3⟩:=j us u1;obtain rfl:cs=C:=by grind
   have p:(ts.map T.fz).length=len*b.size:=by grind
   obtain⟨γ',F',K,q⟩:=RO h2 (n:=.gh d) rfl hn (cs:=cs) (ty':=e) (len:=len) (cap:=len) (size:=b.size) (l:=chunk b.size len (ts.map T.fz)) oG (akK _) (by
     show len<=2 ^ 62
     omega) (wv p) kQ1 (λk=>by grind [s6,aeU])
   refine⟨_,_,_,H1,γ',F',J,f,RX.put K hd (iE (sub:=List.replicate b.size .fr) (l:=chunk b.size len (ts.map T.fz)) ?_ q)⟩;simp[S.root,ah]
 |_=>grind
end
def D.sure:D->Bool
 |.any=>false
 |_=>true
def Sh.isFr:Sh->Bool
 |.fr=>true
 |_=>false
def TK.isSS:TK->Bool
 |.sl _=>true
 |.str=>true
 |_=>false
def Lx(s:S)(q:Pl):S:=⟨nH (thr q) s.t,aP (thr q) (bF s.m q .any)⟩
theorem U3{F:Nm->Fp}{p:Pl}{t:T}{b:Nat}:tot F (bF m p t) b=tot F m b:=by grind [bF,dT]
theorem uf{w:World}{H:FH}(d:∀b o y,H b o=some y->H' b o=some y){k k':Nat}(hk:k<=k'){c:List Sh}{xs:List D}{f:Fp}{vs:List Value}
  (hw:∀b,f b≠0->w'.heap[b]? = w.heap[b]?) (h:Cs (OD w H k) c xs f vs):Cs (OD w' H' k') c xs f vs:=
 lY _ _ _ _ (λ_ _ _ _ e a=>cZ d k k' _ _ _ _ hk (λb hb=>hw b (by grind)) a) h
variable{l:List (List D)}{sub:List Sh}
section
variable {P:Program} {g:G} {s:S} {a:Act} {w:World} {H:FH} {γ:Gam} {F:Nm->Fp}
theorem Ij(h:RX g s a w H γ F){q:Pl}(d:cq s.m q)(p:bi s.m q=some (.ow sub l)) :
  ∃v f F',plV w γ q=some v/\(∃k,OD w H k (.ow sub) (.li l) f v)/\RX g (Lx s q) a w H γ F'/\∀b,tot F' (Lx s q).m b+f b=tot F s.m b:=by
 obtain⟨f,v,j,e,t3,t4,t5⟩:=zi h.mem d p;have hm:=t5 H (λ_ _ _ h=>h) h.mem.agree (λb hb o=>h.mem.nofz b (by grind) o)
 have c:∀b,tot (λn b=>F n b-if n=q.root then f b else 0) (Lx s q).m b+f b=tot F s.m b:=by
  intro b;show tot _ (aP _ _) b+f b=_
  grind [bC,U3]
 refine⟨v,f,_,j,e,⟨hm,⟨h.fr.size,h.fr.os,h.fr.tape,h.fr.output,h.fr.block,h.fr.hold,h.fr.hnew,λb hb=>h.fr.tt b ?_,h.fr.nz⟩,h.nt,h.df,λi=>?_⟩,c⟩
 .grind
 show AR w H γ _ (bB (nH _ s.t) i) _
 rw[oQ];exact ua (pO h.mem d) (λ_ _ _ h=>h) (h.t i)
theorem pQ(h:RX g s a w H γ F){w':World}(n:w.heap.size<=w'.heap.size)(p:w'.os=w.os)(q:w'.tape=w.tape)(f:w'.output=w.output)
  (hb:∀b,b<w.heap.size->w'.heap[b]? = w.heap[b]? \/ (tot F s.m b=0/\(∀o,H b o=none)/\(g.own0 b≠0\/g.w0.heap.size<=b)/\Thawed w' b)):RX g s a w' H γ F:=by
 have e:∀b,Thawed w b->Thawed w' b:=λb h0=>by grind [Thawed.lt,Thawed.of_block]
 have d:∀b,tot F s.m b≠0->w'.heap[b]? = w.heap[b]? := λb j=>by
  rcases hb b (h.mem.lt b j)with h1|h1
  all_goals omega
 have u:=fK (w':=w') h.mem d
 have r:∀x∈s.m,∀b,F x.1 b≠0->w'.heap[b]? = w.heap[b]? := λx hx b hb=>d b (by grind [bV])
 refine⟨⟨?_,λx hx=>bm u (λ_ _ _ h=>h) rfl (r x hx) (h.mem.roots x hx),h.mem.keys,h.mem.le1,λb hb=>by have:=h.mem.lt b hb;omega,h.mem.nofz⟩,
  ⟨alV h.fr.size n,p.trans h.fr.os,q.trans h.fr.tape,f.trans h.fr.output,λk hk h0=>?_,h.fr.hold,h.fr.hnew,h.fr.tt,λb h0=>e b (h.fr.nz.1 b h0),λb o x l c h1 h2=>e b (h.fr.nz.2 b o x l c h1 h2)⟩,h.nt,h.df,λi=>dK u (λ_ _ _ h=>h) (h.t i)⟩
 .intro b o y hy;have hc:=h.mem.agree b o y hy
  grind [RdV.lt,RdV.frame]
 rcases hb k (by have:=h.fr.size;omega)with h1|h1
 .rw[h1];exact h.fr.block k hk h0
 omega
theorem Bp{tt:TypeId}{Y:TypeDesc}(S:P.underlying t=some (.slice e))(M:P.underlying u=some Y)(s:isSS Y=true)(hi:P.info? e=some i)(hz:i.zero=some z)(V:z.cells.size=i.size)
  {k kx:Nat} {sub:List Sh} {l ys:List (List D)} {f gx:Fp} {v x:Value} {ws:List Value} (o:sub.length=i.size)
  (O:OD w H k (.ow sub) (.li l) f v) (hx:Src P w i.size x ys.length ws) (W:∀y∈ys,y.length=sub.length) (B:Cs (OD w H kx) (List.replicate ys.length sub).flatten ys.flatten gx ws) (E:∀u∈ws,pK u=true)
  (hd:∀b,f b+gx b<=1) (R:∀b,f b≠0\/gx b≠0->b<w.heap.size) (ab:l.length+ys.length<=4611686018427387904) (X:(l.length+ys.length)*i.bytes<=140737488355328) :
  ∃y w' f',(Builtin.append_ #[t,u] tt #[v,x]).run P w=.ok y w'/\(∃k',OD w' H k' (.ow sub) (.li (l++ys)) f' y)/\w.heap.size<=w'.heap.size/\w'.os=w.os/\w'.tape=w.tape/\w'.output=w.output /\
   (∀b,b<w.heap.size->w'.heap[b]? = w.heap[b]? \/ (f b≠0/\Thawed w' b))/\(∀b,f' b<=f b+gx b+if b=w.heap.size then 1 else 0)/\(∀b,f' b≠0->b<w'.heap.size):=by
 cases k with
 |zero=>simp[OD]at O
 |succ k=>
  obtain⟨ad,c,J,vs,rfl,ac,ae,I,U,N,g⟩:=mY O;have p:∀y∈l++ys,y.length=sub.length:=yh I W
  have L:ws.length=ys.length*sub.length:=by rw[hx.size,o]
  by_cases q:l.length+ys.length<=c
  .rcases g with⟨rfl,rfl,rfl,hf0⟩|⟨b,cs,ty,fz,rfl,hb,hfz,hcsz,rfl,hf⟩
   .have F:ys=[]:=by grind
    subst F;have T:ws=[]:=by simp_all
    subst T;refine⟨_,w,λ_=>0,It S M s hi (a:=none) (n:=0) (c:=0) (m:=0) hx (akK _) (.inl rfl),⟨1,?_⟩,akK _,rfl,rfl,rfl,λ_ _=>.inl rfl,λb=>alJ _,λb hb=>absurd rfl hb⟩
    grind [im]
   have K:fz=(0,0):=hfz
   subst K;have af:J b=0:=by grind
   have aa:gx b=0:=by grind
   have G:l.length*i.size+ws.length<=cs.size:=by rw[L,hcsz,<- o,<- Nat.add_mul];exact alS _ q
   have C:=Sd (tt:=tt) S M s hi hb hx (λu M=>E u M) q G
   refine⟨_,_,λd=>(J d+gx d)+if d=b then 1 else 0,C,⟨k+kx+1,?_⟩,by simp[World.setRow],rfl,rfl,rfl,λj hj=>?_,λj=>?_,λj hj=>?_⟩
   .have hnew:=setRow_heap w b cs (cs.toList.take (l.length*i.size)++ws++cs.toList.drop (l.length*i.size+ws.length)).toArray ty (0,0) hb
    rw[show l.length+ys.length=(l++ys).length from by simp];refine zk hnew rfl ?_ (by grind) (by show(l++ys).length<=2 ^ 62;grind) p ?_
    .grind
    have h1:=uf (w':=w.setRow b (cs.toList.take (l.length*i.size)++ws++cs.toList.drop (l.length*i.size+ws.length)).toArray) (λ_ _ _ h=>h) (Nat.le_add_right k kx) (λc hc=>setRow_other w b c _ (λe=>hc (by grind))) N
    have h2:=uf (w':=w.setRow b (cs.toList.take (l.length*i.size)++ws++cs.toList.drop (l.length*i.size+ws.length)).toArray) (λ_ _ _ h=>h) (Nat.le_add_left kx k) (λc hc=>setRow_other w b c _ (λe=>hc (by grind))) B
    grind [Vy]
   .by_cases Q:j=b
    .right;subst Q;exact⟨by grind,_,_,setRow_heap w j cs _ ty (0,0) hb⟩
    grind [setRow_other]
   all_goals grind [World.setRow]
  have ho:Src P w i.size (.slice ad l.length c) l.length vs:=by
   rcases g with⟨rfl,rfl,rfl,_⟩|⟨b,cs,ty,fz,rfl,hb,hfz,hcsz,rfl,hf⟩
   .simp_all[pS]
   refine wc (by grind) (λj u hj=>?_)
   grind [World.cell?]
  have A:=Is (tt:=tt) S M s hi hz hx ho kQ1 kQ1 X
  have r:l.length+ys.length<=grownCap w (l.length+ys.length) c e:=Am.Js
  have Z:∀b,J b<=f b:=by grind [Cs]
  have hno:∀b,J b≠0\/gx b≠0->b<w.heap.size:=λb hb=>R b (by grind)
  generalize hcapv:grownCap w (l.length+ys.length) c e=cap at A r;have hnew:(w.drew.alloc (.cells ((vs++ws).toArray++Builtin.zeroCells z.cells (cap - (l.length+ys.length))) e)).heap[w.heap.size]? = some (.cells ((vs++ws).toArray++Builtin.zeroCells z.cells (cap - (l.length+ys.length))) e):=bL (w:=w.drew)
  have hold:∀b,b<w.heap.size->(w.drew.alloc (.cells ((vs++ws).toArray++Builtin.zeroCells z.cells (cap - (l.length+ys.length))) e)).heap[b]? = w.heap[b]? := λb hb=>dl (w:=w.drew) hb
  refine⟨_,_,λd=>(J d+gx d)+if d=w.heap.size then 1 else 0,A,⟨k+kx+1,?_⟩,by grind,rfl,rfl,rfl,λj hj=>.inl (hold j hj),λj=>by grind,λj hj=>?_⟩
  .rw[show l.length+ys.length=(l++ys).length from by simp];rw[show l.length+ys.length=(l++ys).length from by simp]at hnew hold r;refine zk hnew rfl ?_ r (by show(l++ys).length<=2 ^ 62;grind) p ?_
   .simp only[Array.size_append,List.size_toArray,ak6,size_zeroCells,U,L,V];rw[<- o,<- Nat.add_mul,<- Nat.add_mul]
    grind
   have h1:=uf (w':=w.drew.alloc (.cells ((vs++ws).toArray++Builtin.zeroCells z.cells (cap - (l++ys).length)) e)) (λ_ _ _ h=>h) (Nat.le_add_right k kx) (λc hc=>hold c (hno c (.inl hc))) N
   have h2:=uf (w':=w.drew.alloc (.cells ((vs++ws).toArray++Builtin.zeroCells z.cells (cap - (l++ys).length)) e)) (λ_ _ _ h=>h) (Nat.le_add_left kx k) (λc hc=>hold c (hno c (.inr hc))) B
   grind [Vy]
  grind
end
def kD(size:Nat):AV->Option (List (List D))
 |.one (.c .nil)=>some []
 |.one (.c (.d (.li l)))=>some l
 |.one (.c (.d (.str b)))=>if size=1 then some (b.map λc=>[.int .u8 c.toNat])else none
 |_=>none
def FL(size:Nat)(ys:List (List D)):Prop:=∀y∈ys,y.length=size/\∀x∈y,x.sure=true
def kg(s:S)(size:Nat):AV->Option (S×List Sh×List (List D))
 |.one (.c .nil)=>some (s,List.replicate size .fr,[])
 |.one (.c (.rf q))=>match bi s.m q with
  |some (.ow sub l)=>if sub.length=size then some (Lx s q,sub,l)else none
  |_=>none
 |_=>none
def q7(P:Program)(a:S)(t u:TypeId)(x y:Operand)(d:Tmp)(k:S->Prop):Prop:=
 let s:=Jm a (ev a y)
 match(ty P t).k with
 |.sl e=>(ty P e).ok=true/\(ty P u).k.isSS=true/\((zcells P e).map (·.length))=some (ty P e).size /\
  match kD (ty P e).size (ev s y),kg s (ty P e).size (ev s x)with
  |some ys,some (s1,sub,l)=>sub.all Sh.isFr=true/\FL (ty P e).size ys/\l.length+ys.length<=4611686018427387904/\(l.length+ys.length)*(ty P e).bytes<=140737488355328 /\
   k (((s1.fresh (.gh d)).root (.gh d) ⟨false,[.ow sub (l++ys)]⟩).put (some d) (.one (.c (.rf ⟨.gh d,0,[]⟩))))
  |_,_=>False
 |_=>False
theorem Vx{w:World}{H:FH}{k:Nat}:∀{xs:List D}{vs:List Value},vs.length=xs.length->(∀(j:Nat)(x:D),xs[j]? = some x->∃v,vs[j]? = some v/\FDx H x v) ->
  Cs (OD w H k) (List.replicate xs.length .fr) xs (λ_=>0) vs
 |[],[],_,_=>λ_=>rfl
 |[],_::_,hl,_=>by grind
 |_::_,[],hl,_=>by grind
 |x::xs,v::vs,hl,h=>by
  refine⟨v,vs,λ_=>0,λ_=>0,rfl,λ_=>rfl,?_,Vx (by grind) (λj x hj=>h (j+1) x (by grind))⟩;rw[gr];obtain⟨a,h1,h2⟩:=h 0 x rfl
  grind
theorem Pk{H:FH}{x:D}{y:Value}(hs:x.sure=true)(h:FDx H x y):pK y=true:=by
 obtain⟨m,h⟩:=h;cases x with
 |bool b=>cases m<;>(have:=h;subst this;rfl)
 |mp l=>obtain⟨b,rfl⟩:=L0 ⟨m,h⟩;rfl
 |fn f l=>obtain⟨b,rfl⟩:=VC ⟨m,h⟩;rfl
 |v z=>have:=h;cases m<;>(obtain⟨rfl,h1⟩:=this;exact h1)
 |any=>grind [D.sure]
 |li l=>
  cases m with
  |zero=>exact h.elim
  |succ m=>obtain⟨a,c,rfl,_⟩:=pC.1 h;rfl
 |_=>have:=h;cases m<;>(obtain⟨rfl,_⟩:=this;rfl)
theorem MS(b:List UInt8):(b.map λc=>[D.int .u8 (c.toNat:Int)]).flatten=b.map λc=>D.int .u8 (c.toNat:Int):=by induction b<;>grind
section
variable {P:Program} {g:G} {s:S} {a:Act} {w:World} {H:FH} {γ:Gam} {F:Nm->Fp}
theorem aiQ(h:sub.all Sh.isFr=true):sub=List.replicate sub.length .fr:=by induction sub<;>grind [Sh.isFr]
theorem ah9(hm:Mem w H γ m F){size:Nat}{x:AV}{ys:List (List D)}(hx:AR w H γ m x v)(hr:kD size x=some ys)(s:FL size ys) :
  ∃ws,Src P w size v ys.length ws/\(∀k,Cs (OD w H k) (List.replicate (ys.length*size) .fr) ys.flatten (λ_=>0) ws)/\∀u∈ws,pK u=true:=by
 have a:∀y∈ys,y.length=size:=λy hy=>(s y hy).1
 have z:=db size ys a
 match x,hr with
 |.one (.c .nil),hr=>simp only[kD,akJ]at hr;subst hr;obtain⟨_,rfl⟩:=hx;exact⟨[],pS,λk=>by simp[Cs],by simp⟩
 |.one (.c (.d (.str b))),hr=>
  simp only[kD]at hr;by_cases hs:size=1
  .subst hs;obtain rfl:=Option.some.inj hr;obtain⟨rfl,hb⟩:=Et hx;have:=aaV (P:=P) (w:=w) (l:=b)
   refine⟨b.map λb=>.int .u8 b.toNat,by grind,λk=>?_,?_⟩
   .rw[<- z];refine Vx (by grind) (λj x hj=>?_);rw[MS,akN,ak0]at hj;obtain⟨c,hc,rfl⟩:=hj;refine⟨.int .u8 c.toNat,by grind,0,rfl,?_⟩;have:=c.toNat_lt
    simp only[Lit.wf,akI,decide_eq_true_eq];have h1:IntKind.u8.min=0:=rfl
    have h2:IntKind.u8.max=255:=rfl
    omega
   intro u t;simp only[ak5]at t;obtain⟨c,_,rfl⟩:=t;rfl
  grind
 |.one (.c (.d (.li l))),hr=>
  simp only[kD,akJ]at hr;subst hr;obtain⟨ad,c,rfl,_,_,g⟩:=gS hx.2;rcases g with rfl|⟨b,o,e,k0,rfl,q⟩
  .exact⟨[],pS,λk=>by simp[Cs],by simp⟩
  by_cases C:l.length=0
  .have:l=[]:=by grind
   subst this;exact⟨[],pS,λk=>by simp[Cs],by simp⟩
  have E:e=size:=by
   have h0:=(q 0 kQ1).1
   grind
  subst E;have B:∀j,j<l.length*e->∃v,w.cell? ⟨b,o+j,none⟩=some v/\∀x,l.flatten[j]? = some x->FDx H x v:=by
   intro j hj;have i:0<e:=Nat.pos_of_ne_zero (λh=>by grind)
   have hi:j / e<l.length:=by simp_all[Nat.div_lt_iff_lt_mul]
   obtain⟨y,h1,h2⟩:=(q (j / e) hi).2 (j % e) (amU _ i);have r:j / e*e+j % e=j:=by grind [Nat.div_add_mod]
   refine⟨y,?_,λx hx=>?_⟩
   .have:=hm.agree _ _ _ h1
    rw[Nat.add_assoc,r]at this;exact this
   rw[<- r,eY e l _ _ a hi (amU _ i)]at hx;rw[List.getD,hx]at h2;exact⟨k0,h2⟩
  obtain⟨ws,w1,w2⟩:=l9 (p:=λj v=>w.cell? ⟨b,o+j,none⟩=some v/\∀x,l.flatten[j]? = some x->FDx H x v) (l.length*e) B;refine⟨ws,wc w1 (λj v hj=>(w2 j v hj).1),λk=>?_,λu t=>?_⟩
  .grind [Vx]
  obtain⟨j,hj,rfl⟩:=alA.1 t;have n:j<l.flatten.length:=by omega
  have h1:=(w2 j _ (akL hj)).2 _ (akL n)
  refine Pk ?_ h1;have f:=amF n
  rw[List.mem_flatten]at f;obtain⟨y,hy,A⟩:=f;exact(s y hy).2 _ A
theorem aa2(h:RX g s a w H γ F){size:Nat}{x:AV}{s1:S}(hx:AR w H γ s.m x v)(hb:kg s size x=some (s1,sub,l)) :
  ∃k f F1,OD w H k (.ow sub) (.li l) f v/\RX g s1 a w H γ F1/\sub.length=size/\(∀b,tot F1 s1.m b+f b<=1)/\(∀b,f b≠0->b<w.heap.size/\(∀o,H b o=none)/\(g.own0 b≠0\/g.w0.heap.size<=b)):=by
 match x,hb with
 |.one (.c .nil),hb=>
  obtain⟨rfl,rfl,rfl⟩:=hb;obtain⟨_,rfl⟩:=hx;refine⟨1,λ_=>0,F,?_,h,by simp,λb=>by have:=h.mem.le1 b;omega,λb hb=>absurd rfl hb⟩
  grind [im]
 |.one (.c (.rf q)),hb=>
  simp only[kg]at hb;cases n:bi s.m q with
  |none=>grind
  |some t=>
   rw[n]at hb;cases t with
   |ow j l'=>
    dsimp only at hb;split at hb
    .rename_i e;obtain⟨rfl,rfl,rfl⟩:=hb;obtain⟨_,i,hv⟩:=hx;obtain⟨r,f,F',z,⟨k,y⟩,u,p⟩:=Ij h (fP i) n;obtain rfl:v=r:=by grind
     exact⟨k,f,F',y,u,e,λb=>by rw[p];exact h.mem.le1 b,λb hb=>by
      have d:tot F s.m b≠0:=by grind
      exact⟨h.mem.lt b d,h.mem.nofz b d,h.fr.tt b d⟩⟩
    grind
   |_=>grind
theorem Mk(h:RX g s a w H γ F){t tt:TypeId}{x y:Operand}{d:Tmp}(hd:okD g.nt (some d)=true)(hx:aH x=true)(hy:aH y=true)(j:q7 P s t u x y d k) :
  ∃s' z w' H' γ' F',(Builtin.append_ #[t,u] tt #[a.eval x,a.eval y]).run P w=.ok z w'/\k s'/\RX g s' (a.put (some d) z) w' H' γ' F':=by
 unfold q7 at j;dsimp only at j;obtain⟨H1,F1,h1⟩:=ED h (ev s y);generalize Jm s (ev s y)=s1 at j h1;cases hk:(ty P t).k with
 |sl e=>
  rw[hk]at j;obtain⟨O,T,r,j⟩:=j;obtain⟨_,td,hit,Z,L,_⟩:=bh hk (by simp);have:=pJ L
  subst this;obtain⟨J,de,G,_,_,i,p,_⟩:=jY O;rw[i,p]at j;rw[i]at r;obtain⟨zs,R,r⟩:=ak0.1 r;obtain⟨U,z,V,hz,ac,_⟩:=kZ R;rw[G]at V;obtain rfl:J=U:=by grind
  have D:z.cells.size=J.size:=by grind
  obtain⟨A,huu,hudd⟩:∃A,P.underlying u=some A/\isSS A=true:=by
   have W:(ty P u).k≠.ot:=λe=>by grind [TK.isSS]
   obtain⟨_,A,_,h2,h3,_⟩:=bh rfl W;refine⟨A,h2,?_⟩;rw[<- h3]at T;cases A<;>first|rfl|grind [gJ,TK.isSS]
  cases B:kD J.size (ev s1 y)with
  |none=>grind
  |some ys=>
   cases E:kg s1 J.size (ev s1 x)with
   |none=>grind
   |some q=>
    obtain⟨s2,sub,l⟩:=q;rw[B,E]at j;obtain⟨Q,c,C,X,j⟩:=j;obtain⟨ws,r1,r2,r3⟩:=ah9 (P:=P) h1.mem (aJ h1 hy) B c;obtain⟨kb,f,I,b1,b2,b3,b4,b5⟩:=aa2 h1 (aJ h1 hx) E;have aa:=aiQ Q
    obtain⟨z',w',f',c1,⟨k',c2⟩,c3,c4,c5,c6,c7,c8,c9⟩:=Bp (tt:=tt) Z huu hudd G hz D (gx:=λ_=>0) (kx:=0) b3 b1 r1 (λy hy=>by rw[b3];exact(c y hy).1)
     (by grind [K9]) r3 (λb=>by grind) (λb hb=>by grind) C X
    have hX:=pQ b2 c3 c4 c5 c6 (λb hb=>by grind)
    have Y:=dv hX (.gh d)
    have hn:=cE hX (.gh d)
    have N:∀b,w.heap.size<=b->∀o,H1 b o=none:=by
     intro b hb o;cases hc:H1 b o with
     |none=>rfl
     |some y=>have:=(h1.mem.agree _ _ _ hc).lt;omega
    have ae:∀b,tot I (s2.fresh (.gh d)).m b<=tot I s2.m b:=by
     intro b;unfold S.fresh;split
     .omega
     show tot I (aP _ _) b<=_
     rw[bC];exact gL
    have ad:tot I s2.m w.heap.size=0:=by
     rcases alI (tot I s2.m w.heap.size)with h'|h'
     .exact h'
     have:=b2.mem.lt w.heap.size kQ1;omega
    obtain⟨γ',F',M,K⟩:=eE Y (n:=.gh d) rfl hn (v:=z') (t:=.ow sub (l++ys)) (f:=f') ⟨k',c2⟩ (λb=>by
      grind)
     (λb hb=>⟨c9 b hb,by grind⟩)
     (λb hb=>by
      by_cases ab:b=w.heap.size
      .have:=b2.fr.size;omega
      grind)
    refine⟨_,z',w',H1,γ',F',c1,j,RX.put M hd (iE (sub:=sub) (l:=l++ys) ?_ K)⟩;simp[ah]
 |_=>grind
end
end Go.Am
end
