/-
  Part 7: AmAppRun · AmFreeze · AmBox · AmAppend · AmAppendOp.
-/
import Derived.Test.YthhkhcolidkemaaGreatDoorCs6
import Derived.Laws.Append
import Derived.Laws.CopyRow
import Derived.Laws.AppendOwn
set_option linter.unusedSimpArgs false
set_option linter.unusedVariables false
set_option linter.unusedSectionVars false
set_option linter.unnecessarySimpa false
section
namespace Go.Am
def isSS:TypeDesc->Bool
 |.slice _=>true
 |.string=>true
 |_=>false
variable{d:TypeDesc}
theorem oz(h:isSS d=true):(∃e,d=.slice e)\/d=.string:=by
 cases d<;>simp[isSS]at h⊢
variable{e t tt u:TypeId}{i:TypeInfo}{ws:List Value}{x z:Value}
section
variable {P:Program} {w:World}
structure Src (P:Program) (w:World) (size:Nat) (x:Value) (n:Nat) (ws:List Value):Prop where
 len:∀w',(Builtin.lenOf x).run P w'=.ok n w'
 cells:∀w':World,w'.heap=w.heap->(Builtin.firstCells size n x).run P w'=.ok ws.toArray w'
 size:ws.length=n*size
theorem vE{size n c:Nat}{b o:Nat}(hl:ws.length=n*size)(h:Wr w b o ws):Src P w size (.slice (some ⟨b,o,none⟩) n c) n ws:=by
 refine⟨fun _=>rfl,fun w' hw=>?_,hl⟩;refine run_firstCells_some w' size n _ n c ws hl (fun j v hv=>?_);rw[eH];exact(dG (by rw[hw])).trans (h j v hv)
theorem pg{size c:Nat}{a:Option Addr}:Src P w size (.slice a 0 c) 0 []:=by
 refine⟨fun _=>rfl,fun w' _=>?_,by simp⟩;cases a with
 |none=>rfl
 |some a=>simp only[Builtin.firstCells,Nat.zero_mul];rfl
theorem Zg{l:a8}:Src P w 1 (.string ⟨l.toArray⟩) l.length (l.map fun b=>.int .u8 b.toNat):=by
 have hs:(⟨l.toArray⟩:ByteArray).size=l.length:=by rfl
 refine⟨fun w'=>?_,fun w' _=>?_,by simp⟩
 all_goals grind [Builtin.lenOf,Sem.run_pure,Builtin.firstCells,ByteArray.data_extract]
theorem Ig(f:P.underlying t=some (.slice e))(g:P.underlying u=some d)(hd:isSS d=true)(hi:P.info? e=some i)
  {a:Option Addr} {n c m:Nat} (hx:Src P w i.size x m ws) (b:n+m<=c) (hw:ws=[]\/a=none) :
  (Builtin.append_ #[t,u] tt #[.slice a n c,x]).run P w=.ok (.slice a (n+m) c) w:=by
 have h1:=hx.len w
 have h2:=hx.cells w rfl
 cases a with
 |none=>
  rcases oz hd with⟨e',rfl⟩|rfl
  all_goals simp[Builtin.append_,run_underlying f,run_underlying g,sizeOf,typeInfo,hi,h1,h2,b]
 |some a=>
  have:ws=[]:=by grind
  subst this;rcases oz hd with⟨e',rfl⟩|rfl
  all_goals simp[Builtin.append_,run_underlying f,run_underlying g,sizeOf,typeInfo,hi,h1,h2,b,storeCells]
theorem Rj(k:P.underlying t=some (.slice e))(h:P.underlying u=some d)(hd:isSS d=true)(hi:P.info? e=some i)
  {g n c m:Nat} {cur:Array Value} {ty':TypeId} (j:w.heap[g]? = some (.cells cur ty' (0,0))) (hx:Src P w i.size x m ws) (h1':∀v∈ws,v.oneCell'=true) (a:n+m<=c) (f:n*i.size+ws.length<=cur.size) :
  (Builtin.append_ #[t,u] tt #[.slice (some ⟨g,0,none⟩) n c,x]).run P w =
   .ok (.slice (some ⟨g,0,none⟩) (n+m) c) (w.setRow g (cur.toList.take (n*i.size)++ws++cur.toList.drop (n*i.size+ws.length)).toArray):=by
 have h1:=hx.len w
 have h2:=hx.cells w rfl
 have b:=run_storeCells_at P g (n*i.size) ty' ws 0 cur w j kQ1 h1'
 simp only[alO]at b;rcases oz hd with⟨e',rfl⟩|rfl
 all_goals simp[Builtin.append_,run_underlying k,run_underlying h,sizeOf,typeInfo,hi,h1,h2,a,Addr.add_lit,b]
theorem If{b:List Value}(l:P.underlying t=some (.slice e))(k:P.underlying u=some d)(hd:isSS d=true)(hi:P.info? e=some i)
  (h:i.zero=some z) {a:Option Addr} {n c m:Nat} (hx:Src P w i.size x m ws) (o:Src P w i.size (.slice a n c) n b) (p:c<n+m) (j:((n+m:Nat):Int)<=9223372036854775807) (hb:(n+m)*i.bytes<=140737488355328) :
  (Builtin.append_ #[t,u] tt #[.slice a n c,x]).run P w =
   .ok (.slice (some ⟨w.heap.size,0,none⟩) (n+m) (grownCap w (n+m) c e))
    (w.drew.alloc (.cells ((b++ws).toArray++Builtin.zeroCells z.cells (grownCap w (n+m) c e - (n+m))) e)):=by
 have h1:=hx.len w
 have h2:=hx.cells w.drew rfl
 have h3:=o.cells w.drew rfl
 have hn:¬ (n+m<=c):=by omega
 have f:¬ (9223372036854775807 < ((n:Int)+(m:Int))):=by omega
 have g:¬ (281474976710656<Builtin.nextslicecap (n+m) c*i.bytes):=by simp_all[growslice_fits]
 rcases oz hd with⟨e',rfl⟩|rfl
 all_goals simp[Builtin.append_,run_underlying l,run_underlying k,sizeOf,typeInfo,zeroValue,hi,h,h1,h2,h3,hn,f,g,Question.forced,newRow,grownCap]
 all_goals grind
theorem Jd{a b:Nat}:a<=grownCap w a b e:=by
 grind [grownCap,Question.cut]
end
def AV1.map(f:T->T):AV1->AV1
 |.c t=>.c (f t)
 |.agg ts=>.agg (ts.map f)
def AV.map(f:T->T):AV->AV
 |.one x=>.one (x.map f)
 |.tup xs=>.tup (xs.map (·.map f))
 |.any=>.any
def sO(f:AV->AV)(t:List (Nat×AV)):List (Nat×AV):=t.map fun x=>(x.1,f x.2)
theorem qP{f:AV->AV}(hf:f .any=.any):∀(t:List (Nat×AV))(i:Nat),aV (sO f t) i=f (aV t i)
 |[],i=>hf.symm
 |(k,v)::t,i=>by
  simp only[sO,List.map_cons,aV];split
  ·rfl
  exact qP hf t i
variable{H':FH}{m m':Mm}{w':World}{γ':Gam}
theorem Y0{w:World}{H:FH}{γ:Gam}{f:T->T}(hf:∀t y,TR w H γ m t (fun _=>0) y->TR w' H' γ' m' (f t) (fun _=>0) y) :
  ∀{ts:List T}{g:Fp}{vs:List Value},(∀b,g b=0)->Ts (TR w H γ m) ts g vs->Ts (TR w' H' γ' m') (ts.map f) g vs:=by
 intro ts g vs c h;unfold Ts;rw[ajH];refine Lx (fun _ t k y hk a=>?_) h;have:k=fun _=>0:=by grind
 grind
theorem OJ{w:World}{H:FH}{γ:Gam}{f:T->T}(hf:∀t y,TR w H γ m t (fun _=>0) y->TR w' H' γ' m' (f t) (fun _=>0) y)
  {x:AV1} {y:Value} (h:AR1 w H γ m x y):AR1 w' H' γ' m' (x.map f) y:=by
 cases x with
 |c t=>exact hf t y h
 |agg ts=>obtain⟨cs,h1,h2,h3⟩:=h;exact⟨cs,h1,by grind,Y0 hf (fun _=>rfl) h3⟩
theorem OK{w:World}{H:FH}{γ:Gam}{f:T->T}(hf:∀t y,TR w H γ m t (fun _=>0) y->TR w' H' γ' m' (f t) (fun _=>0) y) :
  ∀{xs:List AV1}{ys:List Value},ARs w H γ m xs ys->ARs w' H' γ' m' (xs.map (·.map f)) ys
 |[],[],_=>trivial
 |_::_,_::_,h=>⟨OJ hf h.1,OK hf h.2⟩
 |[],_::_,h=>h.elim
 |_::_,[],h=>h.elim
theorem iC{w:World}{H:FH}{γ:Gam}{f:T->T}(hf:∀t y,TR w H γ m t (fun _=>0) y->TR w' H' γ' m' (f t) (fun _=>0) y)
  {x:AV} {y:Value} (h:AR w H γ m x y):AR w' H' γ' m' (x.map f) y:=by
 cases x with
 |one x=>exact OJ hf h
 |tup xs=>obtain⟨l,h1,h2⟩:=h;exact⟨l,h1,OK hf h2⟩
 |any=>trivial
def T.frz(q:Pl)(l:List (List D)):T->T
 |.rf p=>match p with
  |⟨n,o,[]⟩=>if n=q.root/\o=q.off then .d (.li l)else(T.rf ⟨n,o,[]⟩).kill (thr q)
  |p=>(T.rf p).kill (thr q)
 |t=>t.kill (thr q)
def I7(m:Mm)(q:Pl)(l:List (List D)):Mm:=bk (aJ (thr q) (bk m q .any)) q (.d (.li l))
def I8(s:S)(q:Pl):S:=
 match q.path,aT s.m q with
 |[],some (.ow _ l)=>⟨sO (AV.map (T.frz q l)) s.t,I7 s.m q l⟩
 |_,_=>s
variable{n:Nm}{v:Value}
theorem LD{w:World}{H:FH}{γ:Gam}{F:Nm->Fp}(hm:Mem w H γ m F){off:Nat}(c:aT m ⟨n,off,[]⟩=some .any)(hv:aB w (γ n) off=some v){x:D}(hx:FDx H x v) :
  Mem w H γ (bk m ⟨n,off,[]⟩ (.d x)) F/\Keeps w γ m w γ (bk m ⟨n,off,[]⟩ (.d x)):=by
 unfold aT at c;cases hr:af m n with
 |none=>grind
 |some r=>
  rw[hr]at c;dsimp only at c;have f:=bT c
  have e:bk m ⟨n,off,[]⟩ (.d x)=cv m n { r with cells:=r.cells.set off (.d x) }:=by grind [bk]
  have i:∀k,af (bk m ⟨n,off,[]⟩ (.d x)) k=if n=k then some { r with cells:=r.cells.set off (.d x) }else af m k:=fun k=>by grind [fF]
  have l:Keeps w γ m w γ (bk m ⟨n,off,[]⟩ (.d x)):=by
   constructor
   ·intro q hq;refine⟨?_,rfl⟩;rw[ax]at hq⊢;rw[i];obtain⟨o,h1,h2⟩:=hq;by_cases hn:n=q.root
    ·rw[if_pos hn];rw[<- hn,hr]at h1;obtain rfl:r=o:=by grind
     refine⟨_,rfl,?_⟩;obtain⟨A,B,C⟩:=q;dsimp only[aR]at h2⊢
     grind
    grind
   intro q hq;refine⟨?_,rfl⟩;rw[bV]at hq⊢;rw[i];obtain⟨o,h1,h2⟩:=hq;by_cases hn:n=q.root
   ·rw[if_pos hn];rw[<- hn,hr]at h1;obtain rfl:r=o:=by grind
    refine⟨_,rfl,?_⟩;dsimp only[bz]at h2⊢
    grind
   grind
  refine⟨⟨hm.agree,?_,?_,?_,?_,?_⟩,l⟩
  ·intro y hy;rw[e]at hy;rcases pW hm.keys hy with⟨_,hy⟩|rfl
   ·exact aZ l (fun _ _ _ h=>h) rfl (fun _ _=>rfl) (hm.roots y hy)
   have a:=hm.roots _ (ah hr)
   dsimp only at a⊢;have a:=aZ l (fun _ _ _ h=>h) rfl (fun _ _=>rfl) a
   unfold bv at a⊢;dsimp only;split at a
   ·rename_i hb;rw[if_pos hb];obtain⟨b,cs,ty,fz,g,h1,h2,h3,h4,h5,h6⟩:=a;refine⟨b,cs,ty,fz,g,h1,h2,h3,by grind,?_,h6⟩;unfold Ts at h5⊢;rw[akS];obtain⟨s0,t0,v0,u,fr,E,z,a3,a4,a5,p,_⟩:=cT _ _ _ _ off h5 f;rw[c]at z;obtain rfl:T.any=t0:=by grind
    have j:v0=v:=by
     grind [aB,World.cell?]
    subst j;have h0:∀b,u b=0:=a5
    have:=p (fun(_:Unit) t=>TR w H γ (bk m ⟨n,off,[]⟩ (.d x)) t) (.d x) v0 (fun _=>0) (fun _ _ _ _ _ h=>h) ⟨fun _=>rfl,hx⟩
    grind [qk,o8]
   rename_i hb;rw[if_neg hb];obtain⟨s,t,h1,h2,h3⟩:=a;rw[h2]at c f;have:off=0:=by grind
   subst this;obtain rfl:t=.any:=by grind
   rw[h1]at hv;simp only[aB,if_true,ai8]at hv;subst hv;exact⟨s,.d x,h1,by grind,h3,hx⟩
  ·grind [nh,Mem.keys]
  ·grind [dE,Mem.le1]
  ·intro b hb;rw[e,dE]at hb;exact hm.lt b hb
  intro b hb;rw[e,dE]at hb;exact hm.nofz b hb
section
variable {P:Program} {g:G} {s:S} {a:Act} {w:World} {H:FH} {γ:Gam} {F:Nm->Fp}
theorem LH(h:RX g s a w H γ F)(q:Pl):∃H' F',RX g (I8 s q) a w H' γ F':=by
 unfold I8;obtain⟨n,off,path⟩:=q;cases path with
 |cons st u=>grind
 |nil=>
  dsimp only;cases D:aT s.m ⟨n,off,[]⟩with
  |none=>grind
  |some t=>
   cases t with
   |ow sub l=>
    dsimp only;have d:bU s.m ⟨n,off,[]⟩:=by
     unfold aT at D;rw[ax];cases hr:af s.m n with
     |none=>grind
     |some r=>rw[hr]at D;exact⟨r,rfl,bT D⟩
    obtain⟨f,v,R,O,t3,t4,t5⟩:=yR h.mem d D
    let H':FH:=fun b o=>if f b≠0 then(w.cell? ⟨b,o,none⟩).map HV.c else H b o
    have N:∀b o y,H b o=some y->H' b o=some y:=by
     intro b o y hy;simp only[H'];split
     ·rename_i e;rw[h.mem.nofz b (by grind) o]at hy;cases hy
     omega
    have K:∀b o y,H' b o=some y->RdV w b o y:=by
     intro b o y hy;simp only[H']at hy;split at hy
     ·obtain⟨z,U,rfl⟩:=ajL.1 hy;exact U
     exact h.mem.agree b o y hy
    have G:=t5 H' N K (fun b hb o=>by
     have h1:=t4 b;have h2:=h.mem.le1 b
     simp only[H'];rw[if_neg kQ1];exact h.mem.nofz b kQ1 o)
    have hx:FDx H' (.li l) v:=by
     obtain⟨k,E⟩:=O
     grind [U9]
    have B:aT (aJ (thr ⟨n,off,[]⟩) (bk s.m ⟨n,off,[]⟩ .any)) ⟨n,off,[]⟩=some .any:=by
     obtain⟨r,hr,C⟩:=ax.1 d;dsimp only[aR]at hr C;unfold aT;rw[kS,zZ (t:=T.any) hr];simp only[if_true,Option.map_some,ajD];rw[ajW C];rfl
    have hv:aB w (γ n) off=some v:=R
    obtain⟨J,M⟩:=LD G B hv hx;have L:=pc h.mem d
    refine⟨H',_,⟨J,?_,h.nt,h.df,fun i=>?_⟩⟩
    ·have A:∀b,tot (fun k b=>F k b-if k=n then f b else 0) (I7 s.m ⟨n,off,[]⟩ l) b=tot (fun k b=>F k b-if k=n then f b else 0) s.m b:=by
      grind [I7,bk,dE,bh]
     refine⟨h.fr.size,h.fr.os,h.fr.tape,h.fr.output,h.fr.block,fun b o y hy=>N _ _ _ (h.fr.hold b o y hy),fun b o h1 h2=>?_,fun b hb=>?_,h.fr.nz.1,fun b o x l' c h1 h2=>?_⟩
     rotate_left 2
     ·by_cases hb:f b=0
      ·simp only[H']at h1;rw[if_neg kQ1]at h1;exact h.fr.nz.2 b o x l' c h1 h2
      obtain⟨k,E⟩:=O
      grind [Pt]
     ·by_cases hb:f b=0
      ·simp only[H']at h1;rw[if_neg kQ1]at h1;exact h.fr.hnew b o h1 h2
      exact h.fr.tt b (by grind)
     have I:=A b
     have h4:=t4 b
     dsimp only at h4 I;have P:tot (fun k b=>F k b-if k=n then f b else 0) (I7 s.m ⟨n,off,[]⟩ l) b≠0:=hb
     refine h.fr.tt b ?_;omega
    show AR w H' γ _ (aV (sO _ s.t) i) _
    rw[qP rfl];refine iC (fun t y j=>?_) (h.t i);have hk:=fun(t:T) (j:TR w H γ s.m t (fun _=>0) y)=>jc M (fun _ _ _ h=>h) (fun _ hb=>absurd rfl hb) (qG L N (fun _ hb=>absurd rfl hb) j)
    cases t with
    |rf p=>
     obtain⟨W,V,Q⟩:=p;cases Q with
     |nil=>
      simp only[T.frz];split
      ·rename_i hc;obtain⟨rfl,rfl⟩:=hc;obtain⟨_,_,S⟩:=j;have:y=v:=by
        grind
       subst this;exact⟨fun _=>rfl,hx⟩
      exact hk _ j
     |cons st u=>exact hk _ j
    |_=>exact hk _ j
   |_=>grind
def WJ(s:S):T->S
 |.rf p=>I8 s p
 |_=>s
def De:S->List T->S
 |s,[]=>s
 |s,t::ts=>De (WJ s t) ts
def I9(s:S):AV->S
 |.one (.c t)=>WJ s t
 |.one (.agg ts)=>De s ts
 |_=>s
def oT(s:S):List AV->S
 |[]=>s
 |v::vs=>oT (I9 s v) vs
theorem Pu(h:RX g s a w H γ F)(t:T):∃H' F',RX g (WJ s t) a w H' γ F':=by
 cases t with
 |rf p=>exact LH h p
 |_=>exact⟨H,F,h⟩
theorem GZ:∀(ts:List T)(s:S)(H:FH)(F:Nm->Fp),RX g s a w H γ F->∃H' F',RX g (De s ts) a w H' γ F'
 |[],s,H,F,h=>⟨H,F,h⟩
 |t::ts,s,H,F,h=>by
  obtain⟨H1,F1,h1⟩:=Pu h t;exact GZ ts _ H1 F1 h1
theorem Eb(h:RX g s a w H γ F)(v:AV):∃H' F',RX g (I9 s v) a w H' γ F':=by
 unfold I9;split
 ·exact Pu h _
 ·exact GZ _ _ _ _ h
 grind
theorem tM:∀(vs:List AV)(s:S)(H:FH)(F:Nm->Fp),RX g s a w H γ F->∃H' F',RX g (oT s vs) a w H' γ F'
 |[],s,H,F,h=>⟨H,F,h⟩
 |v::vs,s,H,F,h=>by
  obtain⟨H1,F1,h1⟩:=Eb h v;exact tM vs _ H1 F1 h1
end
def S.fresh(s:S)(n:Nm):S:=match af s.m n with
 |none=>s
 |some _=>s.drop n
def S.root(s:S)(n:Nm)(r:Root):S:=⟨s.t,(n,r)::s.m⟩
def zcells(P:Program)(t:TypeId):Option (List Value):=
 match P.info? t with
 |some it=>match it.zero with
  |some z=>if z.cells.all okT=true then some z.cells.toList else none
  |none=>none
 |none=>none
def T.fz:T->D
 |.d x=>x
 |.nil=>.li []
 |_=>.any
variable{α:Type}
def chunk(size:Nat):Nat->List α->List (List α)
 |0,_=>[]
 |n+1,l=>l.take size::chunk size n (l.drop size)
theorem nY{size:Nat}:∀{n:Nat}{l:List α},(chunk size n l).length=n
 |0,_=>rfl
 |n+1,l=>by simp only[chunk,ajK,nY]
theorem sB{size:Nat}:∀{n:Nat}{l:List α},l.length=n*size->(chunk size n l).flatten=l
 |0,l,h=>by
  have:l=[]:=by grind
  subst this;rfl
 |n+1,l,h=>by
  rw[Nat.add_mul]at h;simp only[chunk,List.flatten_cons];rw[sB (by grind),akN]
theorem vP{size:Nat}:∀{n:Nat}{l:List α},l.length=n*size->∀x∈chunk size n l,x.length=size
 |0,l,h,x,hx=>by grind [chunk]
 |n+1,l,h,x,hx=>by
  rw[Nat.add_mul]at h;simp only[chunk,ajI]at hx;rcases hx with rfl|hx
  ·grind
  exact vP (by grind) x hx
theorem ra(hk:(m.map (·.1)).Nodup):n ∉ (bP m n).map (·.1):=by
 induction m<;>grind [bP]
variable{cs:Array Value}{k:S->Prop}{vs:Array (Nat×Value)}
section
variable {P:Program} {g:G} {s:S} {a:Act} {w:World} {H:FH} {γ:Gam} {F:Nm->Fp}
theorem cU(h:RX g s a w H γ F)(n:Nm):RX g (s.fresh n) a w H γ F:=by
 grind [S.fresh,tK]
theorem bZ(h:RX g s a w H γ F)(n:Nm):af (s.fresh n).m n=none:=by
 unfold S.fresh;split
 ·omega
 show af (aJ (bq n) (bP s.m n)) n=none
 rw[kS];have:af (bP s.m n) n=none:=vV.2 (ra h.mem.keys)
 grind
theorem kw{zs:List Value}(h:zcells P t=some zs):∃it z,P.info? t=some it/\it.zero=some z/\z.cells.toList=zs/\zs.all okT=true:=by
 grind [zcells]
theorem TQ{it:TypeInfo}(hi:P.info? t=some it)(a:it.zero=some z) :
  (Instr.alloc t true (.tuple #[])).run P w=.ok (.pointer (some ⟨w.heap.size,0,none⟩)) (w.alloc (.cells z.cells t)):=by
 simp[Instr.alloc,zeroValue,typeInfo,hi,a,newVar,newRow]
theorem ab9:(Instr.box t v).run P w=.ok (.pointer (some ⟨w.heap.size,0,none⟩)) (w.alloc (.cells v.cells t)):=by
 rfl
theorem Vl(h:RX g s a w H γ F)(hno:n.isOut=false){ts:List T}(hl:cs.size=ts.length)(f:Ts (TR w H γ (s.fresh n).m) ts (fun _=>0) cs.toList)(ty:TypeId)(e:∀t,n.tyd=some t->ty=t){d:Option Tmp}(hd:okD g.nt d=true)(i:ts≠[]) :
  ∃γ' F',RX g (((s.fresh n).root n ⟨true,ts⟩).put d (.one (.c (.pl ⟨n,0,[]⟩)))) (a.put d (.pointer (some ⟨w.heap.size,0,none⟩))) (w.alloc (.cells cs ty)) H γ' F':=by
 obtain⟨γ',F',h1,h2⟩:=Vc (cU h n) hno (bZ h n) hl f ty e;refine⟨γ',F',RX.put h1 hd ⟨fun _=>rfl,?_,⟨w.heap.size,0,none⟩,?_,rfl⟩⟩
 ·rw[ax];refine⟨⟨true,ts⟩,by simp[af],?_⟩;show 0<ts.length
  grind
 show(match γ' n with|.blk b=>some (⟨b,0,none⟩:Addr)|.gh _=>none)=_
 rw[h2]
def lG(t:Nat)(d:Nat):Nm:=if t=999999 then .loc (999999*1000000+d)else .loc d
theorem Xv{t:Nat}{d:Nat}:(lG t d).isOut=false:=by unfold lG;split<;>rfl
theorem abJ{t:Nat}{d:Nat}(hd:d < 1000000):∀u,(lG t d).tyd=some u->t=u:=by
 grind [lG,Nm.tyd]
def vF(P:Program)(s:S)(t:TypeId)(d:Tmp)(k:S->Prop):Prop:=
 match zcells P t with
 |some zs=>zs≠[]/\d < 1000000/\k (((s.fresh (lG t d)).root (lG t d) ⟨true,zs.map rH⟩).put (some d) (.one (.c (.pl ⟨lG t d,0,[]⟩))))
 |none=>False
theorem Ra(h:RX g s a w H γ F){d:Tmp}(hd:okD g.nt (some d)=true)(b:vF P s t d k) :
  ∃s' y w' γ' F',(Instr.alloc t true (.tuple #[])).run P w=.ok y w'/\k s'/\RX g s' (a.put (some d) y) w' H γ' F':=by
 unfold vF at b;cases e:zcells P t with
 |none=>grind
 |some zs=>
  rw[e]at b;obtain⟨f,c,b⟩:=b;obtain⟨it,z,h1,h2,h3,h4⟩:=kw e;obtain⟨γ',F',i⟩:=Vl h (n:=lG t d) Xv (ts:=zs.map rH) (cs:=z.cells) (by grind) (by grind [za]) t (abJ c) hd (by simp_all)
  grind [TQ]
def Ro(s:S)(x:Operand)(d:Tmp)(k:S->Prop):Prop:=
 match eT (ev (s.fresh (.loc d)) x)with
 |some ts=>ts≠[]/\ts.all T.sure=true/\d < 1000000/\k (((s.fresh (.loc d)).root (.loc d) ⟨true,ts⟩).put (some d) (.one (.c (.pl ⟨.loc d,0,[]⟩))))
 |none=>False
theorem Zz(h:RX g s a w H γ F){x:Operand}{d:Tmp}(hd:okD g.nt (some d)=true)(hx:aF x=true)(b:Ro s x d k) :
  ∃s' y w' H' γ' F',(Instr.box t (a.eval x)).run P w=.ok y w'/\k s'/\RX g s' (a.put (some d) y) w' H' γ' F':=by
 unfold Ro at b;have h':=cU h (.loc d)
 have hv:=aH h' hx
 cases e:eT (ev (s.fresh (.loc d)) x)with
 |none=>grind
 |some ts=>
  rw[e]at b;obtain⟨c,hs,j,b⟩:=b;obtain⟨f,i⟩:=yq h'.mem hv e hs;obtain⟨γ',F',m⟩:=Vl h (n:=.loc d) rfl (ts:=ts) (cs:=(a.eval x).cells) f i t (fun u l=>by grind [Nm.tyd]) hd c
  grind [ab9]
theorem Rq(hm:Mem w H γ m F){a:List (Nat×AV)}{k:AV->Prop}(h:sw P t a k)(hp:PR w H γ m a vs.toList) :
  ∃z d,(∀w:World,(Instr.build t vs).run P w=.ok z w)/\AR w H γ m d z/\k d:=by
 unfold sw at h;cases b:zst P t with
 |none=>grind
 |some q=>
  obtain⟨zs,j⟩:=q;rw[b]at h;dsimp only at h;cases hf:jP (j[·]?) (zs.map rH) a with
  |none=>grind
  |some ts=>
   rw[hf]at h;unfold zst at b;cases hi:P.info? t with
   |none=>grind
   |some it=>
    rw[hi]at b;cases v:P.underlying t with
    |none=>grind
    |some td=>
     rw[v]at b;cases td with
     |struct l=>
      dsimp only at b;cases n:it.zero with
      |none=>grind
      |some z=>
       cases s:l.toList.mapM (fun f=>(P.info? f.type).map fun i=>(f.offset,i.size))with
       |none=>grind
       |some pl=>
        rw[n,s]at b;dsimp only at b;split at b
        ·rename_i o;simp only[ai8,Prod.mk.injEq]at b;obtain⟨rfl,rfl⟩:=b;have c:z.cells.toList.all okT=true:=by grind
         obtain⟨g,x,u,r⟩:=yb hm a vs.toList (z.cells.toList.map rH) z.cells ts hp (by simp) (za c) hf;refine⟨.agg g,.one (.agg ts),fun w=>run_build w t vs g ?_,⟨g,rfl,u,r⟩,h⟩
         simp_all[Program.built]
        grind
     |array N e=>
      dsimp only at b;cases n:it.zero with
      |none=>grind
      |some z=>
       cases p:P.info? e with
       |none=>grind
       |some y=>
        rw[n,p]at b;dsimp only at b;split at b
        ·rename_i o;simp only[ai8,Prod.mk.injEq]at b;obtain⟨rfl,rfl⟩:=b;have c:z.cells.toList.all okT=true:=by grind
         obtain⟨g,x,u,r⟩:=yb hm a vs.toList (z.cells.toList.map rH) z.cells ts hp (by simp) (za c) hf;refine⟨.agg g,.one (.agg ts),fun w=>run_build w t vs g ?_,⟨g,rfl,u,r⟩,h⟩
         grind [Program.built,C8]
        grind
     |_=>grind
theorem jL{len:Nat}{cells:Array Value}{b:TypeInfo}
  (f:P.underlying t=some (.slice e)) (d:P.info? e=some b) (g:b.zero=some z) (a:¬ len*b.size > 2 ^ 24)
  (h:∀us:Array Value,us.size=len*b.size->∃cs,Instr.fill (fun i=>some (i*b.size,b.size)) us vs.toList=some cs/\cs.size=len*b.size/\(cells=cs\/True)) :
  ∃us cs,us.size=len*b.size/\Instr.fill (fun i=>some (i*b.size,b.size)) us vs.toList=some cs /\
  (Instr.buildSlice t len vs).run P w=.ok (.slice (some ⟨w.heap.size,0,none⟩) len len) (w.alloc (.cells cs e)):=by
 by_cases c:len*b.size=0
 ·obtain⟨cs,h1,h2,_⟩:=h ((Array.range (len*b.size)).map ((#[]:Array Value)[· % (#[]:Array Value).size]!)) (by simp);refine⟨_,cs,by simp,h1,?_⟩;simp[Instr.buildSlice,run_underlying f,sizeOf,typeInfo,zeroValue,d,g,a,c,newRow]at h1⊢;simp[h1]
 obtain⟨cs,h1,h2,_⟩:=h ((Array.range (len*b.size)).map (z.cells[· % z.cells.size]!)) (by simp);refine⟨_,cs,by simp,h1,?_⟩;simp[Instr.buildSlice,run_underlying f,sizeOf,typeInfo,zeroValue,d,g,a,c,newRow,h1]
theorem ac3{k:Nat}:∀{ts:List T}{f:Fp}{vs:List Value},(∀b,f b=0)->Ts (TR w H γ m) ts f vs ->
  Cs (OD w H k) (List.replicate ts.length .fr) (ts.map T.fz) f vs
 |[],_,_,hf,_=>hf
 |t::ts,f,vs,hf,h=>by
  obtain⟨v,r,f1,a,h1,h2,h3,h4⟩:=h;refine⟨v,r,f1,a,h1,h2,?_,ac3 (fun b=>by grind) h4⟩;rw[fO];refine⟨fun b=>by grind,?_⟩;cases t with
  |d x=>exact h3.2
  |nil=>obtain⟨_,rfl⟩:=h3;exact lJ
  |_=>exact⟨0,trivial⟩
def lb(s:S)(ps:Array (Nat×Operand)):List (Nat×AV):=ps.toList.map fun x=>(x.1,ev s x.2)
theorem tJ{m:Mm}{s:S}(h:RX g s a w H γ F):∀{ps:List (Nat×Operand)},(ps.all fun x=>aF x.2)=true ->
  PR w H γ s.m (ps.map fun x=>(x.1,ev s x.2)) (ps.map fun x=>(x.1,a.eval x.2))
 |[],_=>trivial
 |x::ps,hp=>by
  simp only[ajJ,ai9]at hp;exact⟨rfl,aH h hp.1,tJ (m:=m) h hp.2⟩
def gL(P:Program)(s0:S)(t:TypeId)(len:Nat)(ps:Array (Nat×Operand))(d:Tmp)(k:S->Prop):Prop:=
 match(ty P t).k with
 |.sl e=>(ty P e).ok=true/\(zcells P e).isSome=true/\len*(ty P e).size<=16777216/\len<=16777216 /\
  let s:=(oT s0 (ps.toList.map fun x=>ev s0 x.2)).fresh (.gh d)
  match jP (fun i=>some (i*(ty P e).size,(ty P e).size)) (List.replicate (len*(ty P e).size) .any) (lb s ps)with
  |some ts=>k ((s.root (.gh d) ⟨false,[.ow (List.replicate (ty P e).size .fr) (chunk (ty P e).size len (ts.map T.fz))]⟩).put (some d) (.one (.c (.rf ⟨.gh d,0,[]⟩))))
  |none=>False
 |_=>False
theorem oa:∀{b:List (Nat×AV)}{pl:Nat->Option (Nat×Nat)}{ts ts':List T},jP pl ts b=some ts'->ts'.length=ts.length
 |[],pl,ts,ts',h=>by grind [jP]
 |(i,x)::r,pl,ts,ts',h=>by
  simp only[jP]at h;cases hp:pl i with
  |none=>grind
  |some q=>
   obtain⟨off,size⟩:=q;rw[hp]at h;cases hc:eT x with
   |none=>grind
   |some cs=>
    rw[hc]at h;dsimp only at h;split at h
    ·rename_i a;rw[oa h,wm a.2.1]
    grind
theorem LR:∀{vs:List Value},Ts (TR w H γ m) (List.replicate vs.length .any) (fun _=>0) vs
 |[]=>fun _=>rfl
 |v::vs=>⟨v,vs,fun _=>0,fun _=>0,rfl,fun _=>rfl,fun _=>rfl,LR⟩
theorem KJ(n size:Nat):(List.replicate n (List.replicate size Sh.fr)).flatten=List.replicate (n*size) Sh.fr:=by
 simp_all
theorem QY(h:RX g s a w H γ F)(hno:n.isOut=false)(hn:af s.m n=none){ty':TypeId}{len cap size:Nat}{l:List (List D)}(hl:l.length=len)(f:len<=cap)(d:len<=BIG)
  (hx:∀x∈l,x.length=size) (z:cs.size=cap*size) (j:∀k,Cs (OD w H k) (List.replicate (len*size) Sh.fr) l.flatten (fun _=>0) cs.toList) :
  ∃γ' F',RX g (s.root n ⟨false,[.ow (List.replicate size .fr) l]⟩) a (w.alloc (.cells cs ty')) H γ' F'/\γ' n=.gh (.slice (some ⟨w.heap.size,0,none⟩) len cap):=by
 obtain⟨hm,hf,p,r⟩:=qA h.mem cs ty' false;simp only[ajC,false_and,if_false]at hm hf p r;have B:RX g s a (w.alloc (.cells cs ty')) H γ F:=jS h hm hf (fun i=>dp p (fun _ _ _ h=>h) (h.t i)) (fun _=>rfl)
 have C:tot F s.m w.heap.size=0:=by
  rcases aj5 (tot F s.m w.heap.size)with h'|h'
  ·exact h'
  have:=h.mem.lt w.heap.size kQ1;omega
 have q:∀o,H w.heap.size o=none:=by
  intro o;cases hc:H w.heap.size o with
  |none=>rfl
  |some y=>have:=(h.mem.agree _ _ _ hc).lt;omega
 have e:∀k,Cs (OD (w.alloc (.cells cs ty')) H k) (List.replicate len (List.replicate size Sh.fr)).flatten l.flatten (fun _=>0) cs.toList:=by
  intro k;rw[KJ];refine lI _ _ _ _ (fun s x g v u c=>?_) (j k);exact cF (fun _ _ _ h=>h) k k _ _ _ _ (ajB _) (fun b hb=>absurd (Nat.le_zero.1 (u b)) hb) c
 subst hl;have c:TR (w.alloc (.cells cs ty')) H γ s.m (.ow (List.replicate size .fr) l) (fun b=>0+if b=w.heap.size then 1 else 0) (.slice (some ⟨w.heap.size,0,none⟩) l.length cap):=
  ⟨1,yT (bw) rfl (by grind) f d (by grind) (e 0)⟩
 exact dN B hno hn c (fun b=>by
   grind [Mem.le1])
  (fun b hb=>by
   simp_all)
  (fun b hb=>by
   have A:b=w.heap.size:=by
    grind
   right;have:=h.fr.size;omega)
theorem gX{sub:List Sh}{l:List (List D)}(hn:af m n=some ⟨false,[.ow sub l]⟩)(a:γ n=.gh v):AR w H γ m (.one (.c (.rf ⟨n,0,[]⟩))) v:=by
 refine⟨fun _=>rfl,?_,?_⟩
 ·rw[bV];exact⟨_,hn,trivial⟩
 show aB w (γ n) 0=some v
 rw[a];rfl
theorem zn(h:RX g s a w H γ F){t:TypeId}{len:Nat}{ps:Array (Nat×Operand)}{d:Tmp}(hd:okD g.nt (some d)=true)(hp:(ps.toList.all fun x=>aF x.2)=true)(c:gL P s t len ps d k) :
  ∃s' y w' H' γ' F',(Instr.buildSlice t len (ps.map fun(i,x)=>(i,a.eval x))).run P w=.ok y w'/\k s'/\RX g s' (a.put (some d) y) w' H' γ' F':=by
 unfold gL at c;cases hk:(ty P t).k with
 |sl e=>
  rw[hk]at c;obtain⟨u,I,f,O,c⟩:=c;obtain⟨_,td,hit,A,G,_⟩:=aS hk (by simp);have:=oX G
  subst this;obtain⟨b,U,p,_⟩:=jx u;have j:(ty P e).size=b.size:=by
   omega
  obtain⟨zs,v⟩:=Option.isSome_iff_exists.1 I;obtain⟨C,z,E,M,_⟩:=kw v;rw[p]at E;obtain rfl:b=C:=by grind
  obtain⟨H1,F1,h1⟩:=tM (ps.toList.map fun x=>ev s x.2) s H F h;have h2:=cU h1 (.gh d)
  have hn:=bZ h1 (.gh d)
  dsimp only at c;generalize(oT s (ps.toList.map fun x=>ev s x.2)).fresh (.gh d)=s2 at c h2 hn;cases hf:jP (fun i=>some (i*(ty P e).size,(ty P e).size)) (List.replicate (len*(ty P e).size) .any) (lb s2 ps)with
  |none=>grind
  |some ts=>
   rw[hf]at c;dsimp only at c;rw[j]at hf c f;have r:PR w H1 γ s2.m (lb s2 ps) (ps.map fun(i,x)=>(i,a.eval x)).toList:=by
    rw[Array.toList_map];exact tJ (m:=s2.m) h2 hp
   have o:∀us:Array Value,us.size=len*b.size->∃cs,Instr.fill (fun i=>some (i*b.size,b.size)) us (ps.map fun(i,x)=>(i,a.eval x)).toList=some cs/\cs.size=ts.length/\Ts (TR w H1 γ s2.m) ts (fun _=>0) cs.toList:=by
    intro us hus;refine yb h2.mem _ _ _ us ts r (by grind) ?_ hf;have:=LR (w:=w) (H:=H1) (γ:=γ) (m:=s2.m) (vs:=us.toList)
    grind
   have J:ts.length=len*b.size:=by rw[oa hf];simp
   obtain⟨us,cs,u1,N,Q⟩:=jL (P:=P) (w:=w) (t:=t) (e:=e) (len:=len) (vs:=ps.map fun(i,x)=>(i,a.eval x)) (cells:=#[]) A p M kQ1 (fun us hus=>by
    grind)
   obtain⟨B,K,V,R⟩:=o us u1;rw[N]at K;obtain rfl:cs=B:=by grind
   have q:(ts.map T.fz).length=len*b.size:=by grind
   obtain⟨γ',F',L,D⟩:=QY h2 (n:=.gh d) rfl hn (cs:=cs) (ty':=e) (len:=len) (cap:=len) (size:=b.size) (l:=chunk b.size len (ts.map T.fz)) nY (ajB _) (by
     show len<=2 ^ 62
     omega) (vP q) kQ1 (fun k=>by
      grind [sB,ac3])
   refine⟨_,_,_,H1,γ',F',Q,c,RX.put L hd (gX (sub:=List.replicate b.size .fr) (l:=chunk b.size len (ts.map T.fz)) ?_ D)⟩;simp[S.root,af]
 |_=>grind
end
def D.sure:D->Bool
 |.any=>false
 |_=>true
def Sh.isFr:Sh->Bool
 |.fr=>true
 |_=>false
def TK.isSS:TK->Bool
 |.sl _=>true
 |.str=>true
 |_=>false
def Lb(s:S)(q:Pl):S:=⟨nj (thr q) s.t,aJ (thr q) (bk s.m q .any)⟩
theorem Ua{F:Nm->Fp}{p:Pl}{t:T}{b:Nat}:tot F (bk m p t) b=tot F m b:=by
 grind [bk,dE]
theorem tz{w:World}{H:FH}(d:∀b o y,H b o=some y->H' b o=some y){k k':Nat}(hk:k<=k'){c:List Sh}{xs:List D}{f:Fp}{vs:List Value}
  (hw:∀b,f b≠0->w'.heap[b]? = w.heap[b]?) (h:Cs (OD w H k) c xs f vs):Cs (OD w' H' k') c xs f vs:=
 lI _ _ _ _ (fun _ _ _ _ e a=>cF d k k' _ _ _ _ hk (fun b hb=>hw b (by grind)) a) h
variable{l:List (List D)}{sub:List Sh}
section
variable {P:Program} {g:G} {s:S} {a:Act} {w:World} {H:FH} {γ:Gam} {F:Nm->Fp}
theorem G1(h:RX g s a w H γ F){q:Pl}(c:bU s.m q)(j:aT s.m q=some (.ow sub l)) :
  ∃v f F',plV w γ q=some v/\(∃k,OD w H k (.ow sub) (.li l) f v)/\RX g (Lb s q) a w H γ F'/\∀b,tot F' (Lb s q).m b+f b=tot F s.m b:=by
 obtain⟨f,v,e,p,t3,t4,t5⟩:=yR h.mem c j;have hm:=t5 H (fun _ _ _ h=>h) h.mem.agree (fun b hb o=>h.mem.nofz b (by grind) o)
 have d:∀b,tot (fun n b=>F n b-if n=q.root then f b else 0) (Lb s q).m b+f b=tot F s.m b:=by
  intro b;show tot _ (aJ _ _) b+f b=_
  grind [bh,Ua]
 refine⟨v,f,_,e,p,⟨hm,⟨h.fr.size,h.fr.os,h.fr.tape,h.fr.output,h.fr.block,h.fr.hold,h.fr.hnew,fun b hb=>h.fr.tt b ?_,h.fr.nz⟩,h.nt,h.df,fun i=>?_⟩,d⟩
 ·grind
 show AR w H γ _ (aV (nj _ s.t) i) _
 rw[oq];exact tu (pc h.mem c) (fun _ _ _ h=>h) (h.t i)
theorem pe(h:RX g s a w H γ F){w':World}(n:w.heap.size<=w'.heap.size)(p:w'.os=w.os)(j:w'.tape=w.tape)(f:w'.output=w.output)
  (hb:∀b,b<w.heap.size->w'.heap[b]? = w.heap[b]? \/ (tot F s.m b=0/\(∀o,H b o=none)/\(g.own0 b≠0\/g.w0.heap.size<=b)/\Thawed w' b)):RX g s a w' H γ F:=by
 have e:∀b,Thawed w b->Thawed w' b:=fun b h0=>by
  grind [Thawed.lt,Thawed.of_block]
 have d:∀b,tot F s.m b≠0->w'.heap[b]? = w.heap[b]? := fun b r=>by
  rcases hb b (h.mem.lt b r)with h1|h1
  all_goals omega
 have u:=fa (w':=w') h.mem d
 have q:∀x∈s.m,∀b,F x.1 b≠0->w'.heap[b]? = w.heap[b]? := fun x hx b hb=>d b (by grind [bC])
 refine⟨⟨?_,fun x hx=>aZ u (fun _ _ _ h=>h) rfl (q x hx) (h.mem.roots x hx),h.mem.keys,h.mem.le1,fun b hb=>by have:=h.mem.lt b hb;omega,h.mem.nofz⟩,
  ⟨akQ h.fr.size n,p.trans h.fr.os,j.trans h.fr.tape,f.trans h.fr.output,fun k hk h0=>?_,h.fr.hold,h.fr.hnew,h.fr.tt,fun b h0=>e b (h.fr.nz.1 b h0),fun b o x l c h1 h2=>e b (h.fr.nz.2 b o x l c h1 h2)⟩,h.nt,h.df,fun i=>dp u (fun _ _ _ h=>h) (h.t i)⟩
 ·intro b o y hy;have hc:=h.mem.agree b o y hy
  grind [RdV.lt,RdV.frame]
 rcases hb k (by have:=h.fr.size;omega)with h1|h1
 ·rw[h1];exact h.fr.block k hk h0
 omega
theorem Bc{tt:TypeId}{Z:TypeDesc}(X:P.underlying t=some (.slice e))(F:P.underlying u=some Z)(s:isSS Z=true)(hi:P.info? e=some i)(hz:i.zero=some z)(R:z.cells.size=i.size)
  {k kx:Nat} {sub:List Sh} {l ys:List (List D)} {f gx:Fp} {v x:Value} {ws:List Value} (p:sub.length=i.size)
  (B:OD w H k (.ow sub) (.li l) f v) (hx:Src P w i.size x ys.length ws) (V:∀y∈ys,y.length=sub.length) (C:Cs (OD w H kx) (List.replicate ys.length sub).flatten ys.flatten gx ws) (L:∀u∈ws,oY u=true)
  (hd:∀b,f b+gx b<=1) (W:∀b,f b≠0\/gx b≠0->b<w.heap.size) (ab:l.length+ys.length<=4611686018427387904) (S:(l.length+ys.length)*i.bytes<=140737488355328) :
  ∃y w' f',(Builtin.append_ #[t,u] tt #[v,x]).run P w=.ok y w'/\(∃k',OD w' H k' (.ow sub) (.li (l++ys)) f' y)/\w.heap.size<=w'.heap.size/\w'.os=w.os/\w'.tape=w.tape/\w'.output=w.output /\
   (∀b,b<w.heap.size->w'.heap[b]? = w.heap[b]? \/ (f b≠0/\Thawed w' b))/\(∀b,f' b<=f b+gx b+if b=w.heap.size then 1 else 0)/\(∀b,f' b≠0->b<w'.heap.size):=by
 cases k with
 |zero=>simp[OD]at B
 |succ k=>
  obtain⟨ad,c,G,vs,rfl,hlc,ae,M,T,I,g⟩:=mR B;have r:∀y∈l++ys,y.length=sub.length:=xN M V
  have A:ws.length=ys.length*sub.length:=by rw[hx.size,p]
  by_cases q:l.length+ys.length<=c
  ·rcases g with⟨rfl,rfl,rfl,hf0⟩|⟨b,cs,ty,fz,rfl,hb,hfz,hcsz,rfl,hf⟩
   ·have O:ys=[]:=by
     grind
    subst O;have Q:ws=[]:=by simp_all
    subst Q;refine⟨_,w,fun _=>0,Ig X F s hi (a:=none) (n:=0) (c:=0) (m:=0) hx (ajB _) (.inl rfl),⟨1,?_⟩,ajB _,rfl,rfl,rfl,fun _ _=>.inl rfl,fun b=>aj0 _,fun b hb=>absurd rfl hb⟩
    grind [fd]
   have N:fz=(0,0):=hfz
   subst N;have ac:G b=0:=by grind
   have Y:gx b=0:=by grind
   have E:l.length*i.size+ws.length<=cs.size:=by
    rw[A,hcsz,<- p,<- Nat.add_mul];exact akF _ q
   have K:=Rj (tt:=tt) X F s hi hb hx (fun u F=>L u F) q E
   refine⟨_,_,fun d=>(G d+gx d)+if d=b then 1 else 0,K,⟨k+kx+1,?_⟩,by simp[World.setRow],rfl,rfl,rfl,fun j hj=>?_,fun j=>?_,fun j hj=>?_⟩
   ·have hnew:=setRow_heap w b cs (cs.toList.take (l.length*i.size)++ws++cs.toList.drop (l.length*i.size+ws.length)).toArray ty (0,0) hb
    rw[show l.length+ys.length=(l++ys).length from by simp];refine yT hnew rfl ?_ (by grind) (by show(l++ys).length<=2 ^ 62;grind) r ?_
    ·grind
    have h1:=tz (w':=w.setRow b (cs.toList.take (l.length*i.size)++ws++cs.toList.drop (l.length*i.size+ws.length)).toArray) (fun _ _ _ h=>h) (Nat.le_add_right k kx) (fun c hc=>setRow_other w b c _ (fun e=>hc (by grind))) I
    have h2:=tz (w':=w.setRow b (cs.toList.take (l.length*i.size)++ws++cs.toList.drop (l.length*i.size+ws.length)).toArray) (fun _ _ _ h=>h) (Nat.le_add_left kx k) (fun c hc=>setRow_other w b c _ (fun e=>hc (by grind))) C
    grind [UD]
   ·by_cases U:j=b
    ·right;subst U;exact⟨by grind,_,_,setRow_heap w j cs _ ty (0,0) hb⟩
    grind [setRow_other]
   all_goals grind [World.setRow]
  have ho:Src P w i.size (.slice ad l.length c) l.length vs:=by
   rcases g with⟨rfl,rfl,rfl,_⟩|⟨b,cs,ty,fz,rfl,hb,hfz,hcsz,rfl,hf⟩
   ·simp_all[pg]
   refine vE (by grind) (fun j u hj=>?_)
   grind [World.cell?]
  have J:=If (tt:=tt) X F s hi hz hx ho kQ1 kQ1 S
  have o:l.length+ys.length<=grownCap w (l.length+ys.length) c e:=Am.Jd
  have aa:∀b,G b<=f b:=by
   grind [Cs]
  have hno:∀b,G b≠0\/gx b≠0->b<w.heap.size:=fun b hb=>W b (by grind)
  generalize hcapv:grownCap w (l.length+ys.length) c e=cap at J o;have hnew:(w.drew.alloc (.cells ((vs++ws).toArray++Builtin.zeroCells z.cells (cap - (l.length+ys.length))) e)).heap[w.heap.size]? = some (.cells ((vs++ws).toArray++Builtin.zeroCells z.cells (cap - (l.length+ys.length))) e):=
   bw (w:=w.drew)
  have hold:∀b,b<w.heap.size->(w.drew.alloc (.cells ((vs++ws).toArray++Builtin.zeroCells z.cells (cap - (l.length+ys.length))) e)).heap[b]? = w.heap[b]? := fun b hb=>cP (w:=w.drew) hb
  refine⟨_,_,fun d=>(G d+gx d)+if d=w.heap.size then 1 else 0,J,⟨k+kx+1,?_⟩,by grind,rfl,rfl,rfl,fun j hj=>.inl (hold j hj),fun j=>by grind,fun j hj=>?_⟩
  ·rw[show l.length+ys.length=(l++ys).length from by simp];rw[show l.length+ys.length=(l++ys).length from by simp]at hnew hold o;refine yT hnew rfl ?_ o (by show(l++ys).length<=2 ^ 62;grind) r ?_
   ·simp only[Array.size_append,List.size_toArray,ajR,size_zeroCells,T,A,R];rw[<- p,<- Nat.add_mul,<- Nat.add_mul]
    grind
   have h1:=tz (w':=w.drew.alloc (.cells ((vs++ws).toArray++Builtin.zeroCells z.cells (cap - (l++ys).length)) e)) (fun _ _ _ h=>h) (Nat.le_add_right k kx) (fun c hc=>hold c (hno c (.inl hc))) I
   have h2:=tz (w':=w.drew.alloc (.cells ((vs++ws).toArray++Builtin.zeroCells z.cells (cap - (l++ys).length)) e)) (fun _ _ _ h=>h) (Nat.le_add_left kx k) (fun c hc=>hold c (hno c (.inr hc))) C
   grind [UD]
  grind
end
def kc(size:Nat):AV->Option (List (List D))
 |.one (.c .nil)=>some []
 |.one (.c (.d (.li l)))=>some l
 |.one (.c (.d (.str b)))=>if size=1 then some (b.map fun c=>[.int .u8 c.toNat])else none
 |_=>none
def Fo(size:Nat)(ys:List (List D)):Prop:=∀y∈ys,y.length=size/\∀x∈y,x.sure=true
def jf(s:S)(size:Nat):AV->Option (S×List Sh×List (List D))
 |.one (.c .nil)=>some (s,List.replicate size .fr,[])
 |.one (.c (.rf q))=>match aT s.m q with
  |some (.ow sub l)=>if sub.length=size then some (Lb s q,sub,l)else none
  |_=>none
 |_=>none
def qH(P:Program)(a:S)(t u:TypeId)(x y:Operand)(d:Tmp)(k:S->Prop):Prop:=
 let s:=I9 a (ev a y)
 match(ty P t).k with
 |.sl e=>(ty P e).ok=true/\(ty P u).k.isSS=true/\((zcells P e).map (·.length))=some (ty P e).size /\
  match kc (ty P e).size (ev s y),jf s (ty P e).size (ev s x)with
  |some ys,some (s1,sub,l)=>sub.all Sh.isFr=true/\Fo (ty P e).size ys/\l.length+ys.length<=4611686018427387904/\(l.length+ys.length)*(ty P e).bytes<=140737488355328 /\
   k (((s1.fresh (.gh d)).root (.gh d) ⟨false,[.ow sub (l++ys)]⟩).put (some d) (.one (.c (.rf ⟨.gh d,0,[]⟩))))
  |_,_=>False
 |_=>False
theorem UC{w:World}{H:FH}{k:Nat}:∀{xs:List D}{vs:List Value},vs.length=xs.length->(∀(j:Nat)(x:D),xs[j]? = some x->∃v,vs[j]? = some v/\FDx H x v) ->
  Cs (OD w H k) (List.replicate xs.length .fr) xs (fun _=>0) vs
 |[],[],_,_=>fun _=>rfl
 |[],_::_,hl,_=>by grind
 |_::_,[],hl,_=>by grind
 |x::xs,v::vs,hl,h=>by
  refine⟨v,vs,fun _=>0,fun _=>0,rfl,fun _=>rfl,?_,UC (by grind) (fun j x hj=>h (j+1) x (by grind))⟩;rw[fO];obtain⟨a,h1,h2⟩:=h 0 x rfl
  grind
theorem OS{H:FH}{x:D}{y:Value}(hs:x.sure=true)(h:FDx H x y):oY y=true:=by
 obtain⟨m,h⟩:=h;cases x with
 |int k n=>have:=h;cases m<;>(obtain⟨rfl,_⟩:=this;rfl)
 |bool b=>cases m<;>(have:y=_:=h;subst this;rfl)
 |str l=>have:=h;cases m<;>(obtain⟨rfl,_⟩:=this;rfl)
 |mp l=>obtain⟨b,rfl⟩:=LA ⟨m,h⟩;rfl
 |fn f l=>obtain⟨b,rfl⟩:=UH ⟨m,h⟩;rfl
 |v z=>have:=h;cases m<;>(obtain⟨rfl,h1⟩:=this;exact h1)
 |any=>grind [D.sure]
 |li l=>
  cases m with
  |zero=>exact h.elim
  |succ m=>obtain⟨a,c,rfl,_⟩:=mO.1 h;rfl
theorem MA(b:a8):(b.map fun c=>[D.int .u8 (c.toNat:Int)]).flatten=b.map fun c=>D.int .u8 (c.toNat:Int):=by
 induction b<;>grind
section
variable {P:Program} {g:G} {s:S} {a:Act} {w:World} {H:FH} {γ:Gam} {F:Nm->Fp}
theorem agS(h:sub.all Sh.isFr=true):sub=List.replicate sub.length .fr:=by
 induction sub<;>grind [Sh.isFr]
theorem agE(hm:Mem w H γ m F){size:Nat}{x:AV}{ys:List (List D)}(hx:AR w H γ m x v)(hr:kc size x=some ys)(r:Fo size ys) :
  ∃ws,Src P w size v ys.length ws/\(∀k,Cs (OD w H k) (List.replicate (ys.length*size) .fr) ys.flatten (fun _=>0) ws)/\∀u∈ws,oY u=true:=by
 have a:∀y∈ys,y.length=size:=fun y hy=>(r y hy).1
 have A:=cM size ys a
 match x,hr with
 |.one (.c .nil),hr=>
  simp only[kc,ai8]at hr;subst hr;obtain⟨_,rfl⟩:=hx;exact⟨[],pg,fun k=>by simp[Cs],by simp⟩
 |.one (.c (.d (.str b))),hr=>
  simp only[kc]at hr;by_cases hs:size=1
  ·subst hs;rw[if_pos rfl]at hr;obtain rfl:=Option.some.inj hr;obtain⟨rfl,hb⟩:=D3 hx;have:=Zg (P:=P) (w:=w) (l:=b)
   refine⟨b.map fun b=>.int .u8 b.toNat,by grind,fun k=>?_,?_⟩
   ·rw[<- A];refine UC (by grind) (fun j x hj=>?_);rw[MA,ajD,ajL]at hj;obtain⟨c,hc,rfl⟩:=hj;refine⟨.int .u8 c.toNat,by grind,0,rfl,?_⟩;have:=c.toNat_lt
    simp only[Lit.wf,ai9,decide_eq_true_eq];have h1:IntKind.u8.min=0:=rfl
    have h2:IntKind.u8.max=255:=rfl
    omega
   intro u s;simp only[ajX]at s;obtain⟨c,_,rfl⟩:=s;rfl
  grind
 |.one (.c (.d (.li l))),hr=>
  simp only[kc,ai8]at hr;subst hr;obtain⟨ad,c,rfl,_,_,g⟩:=gq hx.2;rcases g with rfl|⟨b,o,e,k0,rfl,hel⟩
  ·exact⟨[],pg,fun k=>by simp[Cs],by simp⟩
  by_cases B:l.length=0
  ·have:l=[]:=by grind
   subst this;exact⟨[],pg,fun k=>by simp[Cs],by simp⟩
  have C:e=size:=by
   have h0:=(hel 0 kQ1).1
   grind
  subst C;have t:∀j,j<l.length*e->∃v,w.cell? ⟨b,o+j,none⟩=some v/\∀x,l.flatten[j]? = some x->FDx H x v:=by
   intro j hj;have q:0<e:=Nat.pos_of_ne_zero (fun h=>by grind)
   have hi:j / e<l.length:=by simp_all[Nat.div_lt_iff_lt_mul]
   obtain⟨y,h1,h2⟩:=(hel (j / e) hi).2 (j % e) (alL _ q);have i:j / e*e+j % e=j:=by grind [Nat.div_add_mod]
   refine⟨y,?_,fun x hx=>?_⟩
   ·have:=hm.agree _ _ _ h1
    rw[Nat.add_assoc,i]at this;exact this
   rw[<- i,dX e l _ _ a hi (alL _ q)]at hx;rw[List.getD,hx]at h2;exact⟨k0,h2⟩
  obtain⟨ws,w1,w2⟩:=lQ (p:=fun j v=>w.cell? ⟨b,o+j,none⟩=some v/\∀x,l.flatten[j]? = some x->FDx H x v) (l.length*e) t;refine⟨ws,vE w1 (fun j v hj=>(w2 j v hj).1),fun k=>?_,fun u s=>?_⟩
  ·grind [UC]
  obtain⟨j,hj,rfl⟩:=ajU.1 s;have n:j<l.flatten.length:=by omega
  have h1:=(w2 j _ (ajA hj)).2 _ (ajA n)
  refine OS ?_ h1;have f:l.flatten[j]∈l.flatten:=ak1 n
  rw[List.mem_flatten]at f;obtain⟨y,hy,z⟩:=f;exact(r y hy).2 _ z
theorem Zr(h:RX g s a w H γ F){size:Nat}{x:AV}{s1:S}(hx:AR w H γ s.m x v)(hb:jf s size x=some (s1,sub,l)) :
  ∃k f F1,OD w H k (.ow sub) (.li l) f v/\RX g s1 a w H γ F1/\sub.length=size/\(∀b,tot F1 s1.m b+f b<=1)/\(∀b,f b≠0->b<w.heap.size/\(∀o,H b o=none)/\(g.own0 b≠0\/g.w0.heap.size<=b)):=by
 match x,hb with
 |.one (.c .nil),hb=>
  simp only[jf,ai8,Prod.mk.injEq]at hb;obtain⟨rfl,rfl,rfl⟩:=hb;obtain⟨_,rfl⟩:=hx;refine⟨1,fun _=>0,F,?_,h,by simp,fun b=>by have:=h.mem.le1 b;omega,fun b hb=>absurd rfl hb⟩
  grind [fd]
 |.one (.c (.rf q)),hb=>
  simp only[jf]at hb;cases n:aT s.m q with
  |none=>grind
  |some t=>
   rw[n]at hb;cases t with
   |ow j l'=>
    dsimp only at hb;split at hb
    ·rename_i e;simp only[ai8,Prod.mk.injEq]at hb;obtain⟨rfl,rfl,rfl⟩:=hb;obtain⟨_,i,hv⟩:=hx;obtain⟨r,f,F',z,⟨k,u⟩,p,y⟩:=G1 h (fj i) n;rw[hv]at z;obtain rfl:v=r:=by grind
     exact⟨k,f,F',u,p,e,fun b=>by rw[y];exact h.mem.le1 b,fun b hb=>by
      have d:tot F s.m b≠0:=by grind
      exact⟨h.mem.lt b d,h.mem.nofz b d,h.fr.tt b d⟩⟩
    grind
   |_=>grind
theorem L0(h:RX g s a w H γ F){t tt:TypeId}{x y:Operand}{d:Tmp}(hd:okD g.nt (some d)=true)(hx:aF x=true)(hy:aF y=true)(c:qH P s t u x y d k) :
  ∃s' z w' H' γ' F',(Builtin.append_ #[t,u] tt #[a.eval x,a.eval y]).run P w=.ok z w'/\k s'/\RX g s' (a.put (some d) z) w' H' γ' F':=by
 unfold qH at c;dsimp only at c;obtain⟨H1,F1,h1⟩:=Eb h (ev s y);generalize I9 s (ev s y)=s1 at c h1;cases hk:(ty P t).k with
 |sl e=>
  rw[hk]at c;obtain⟨M,U,r,c⟩:=c;obtain⟨_,td,hit,Q,L,_⟩:=aS hk (by simp);have:=oX L
  subst this;obtain⟨J,de,C,_,_,j,p,_⟩:=jx M;rw[j,p]at c;rw[j]at r;obtain⟨zs,N,r⟩:=ajL.1 r;obtain⟨V,z,Y,hz,ae,_⟩:=kw N;rw[C]at Y;obtain rfl:J=V:=by grind
  have G:z.cells.size=J.size:=by grind
  obtain⟨A,huu,hudd⟩:∃A,P.underlying u=some A/\isSS A=true:=by
   have W:(ty P u).k≠.ot:=fun e=>by grind [TK.isSS]
   obtain⟨_,A,_,h2,h3,_⟩:=aS rfl W;refine⟨A,h2,?_⟩;rw[<- h3]at U;cases A<;>first|rfl|grind [gf,TK.isSS]
  cases B:kc J.size (ev s1 y)with
  |none=>grind
  |some ys=>
   cases E:jf s1 J.size (ev s1 x)with
   |none=>grind
   |some q=>
    obtain⟨s2,sub,l⟩:=q;rw[B,E]at c;obtain⟨K,i,I,O,c⟩:=c;obtain⟨ws,r1,r2,r3⟩:=agE (P:=P) h1.mem (aH h1 hy) B i;obtain⟨kb,f,D,b1,b2,b3,b4,b5⟩:=Zr h1 (aH h1 hx) E;have aa:=agS K
    obtain⟨z',w',f',c1,⟨k',c2⟩,c3,c4,c5,c6,c7,c8,c9⟩:=Bc (tt:=tt) Q huu hudd C hz G (gx:=fun _=>0) (kx:=0) b3 b1 r1 (fun y hy=>by rw[b3];exact(i y hy).1)
     (by grind [KJ]) r3 (fun b=>by grind) (fun b hb=>by grind) I O
    have hX:=pe b2 c3 c4 c5 c6 (fun b hb=>by
     grind)
    have Z:=cU hX (.gh d)
    have hn:=bZ hX (.gh d)
    have T:∀b,w.heap.size<=b->∀o,H1 b o=none:=by
     intro b hb o;cases hc:H1 b o with
     |none=>rfl
     |some y=>have:=(h1.mem.agree _ _ _ hc).lt;omega
    have ad:∀b,tot D (s2.fresh (.gh d)).m b<=tot D s2.m b:=by
     intro b;unfold S.fresh;split
     ·omega
     show tot D (aJ _ _) b<=_
     rw[bh];exact gi
    have ac:tot D s2.m w.heap.size=0:=by
     rcases aj5 (tot D s2.m w.heap.size)with h'|h'
     ·exact h'
     have:=b2.mem.lt w.heap.size kQ1;omega
    obtain⟨γ',F',R,X⟩:=dN Z (n:=.gh d) rfl hn (v:=z') (t:=.ow sub (l++ys)) (f:=f') ⟨k',c2⟩ (fun b=>by
      grind)
     (fun b hb=>⟨c9 b hb,by
      grind⟩)
     (fun b hb=>by
      have h5:=c8 b
      by_cases ab:b=w.heap.size
      ·right;have:=b2.fr.size;omega
      grind)
    refine⟨_,z',w',H1,γ',F',c1,c,RX.put R hd (gX (sub:=sub) (l:=l++ys) ?_ X)⟩;simp[af]
 |_=>grind
end
end Go.Am
end
