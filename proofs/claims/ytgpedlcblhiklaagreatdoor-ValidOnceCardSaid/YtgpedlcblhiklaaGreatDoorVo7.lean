/-
  Part 7: AmAppRun · AmFreeze · AmBox · AmAppend · AmAppendOp.
-/
import Derived.Test.YtgpedlcblhiklaaGreatDoorVo6
import Derived.Laws.Append
import Derived.Laws.CopyRow
import Derived.Laws.AppendOwn
set_option linter.unusedSimpArgs false
set_option linter.unusedVariables false
set_option linter.unusedSectionVars false
set_option linter.unnecessarySimpa false
section
namespace Go.Am
def isSS:TypeDesc->Bool
 |.slice _=>true
 |.string=>true
 |_=>false
variable{d:TypeDesc}
theorem nV(h:isSS d=true):(∃e,d=.slice e)\/d=.string:=by
 cases d<;>simp[isSS]at h⊢
variable{e t tt u:TypeId}{i:TypeInfo}{ws:List Value}{x z:Value}
section
variable {P:Program} {w:World}
structure Src (P:Program) (w:World) (size:Nat) (x:Value) (n:Nat) (ws:List Value):Prop where
 len:∀w',(Builtin.lenOf x).run P w'=.ok n w'
 cells:∀w':World,w'.heap=w.heap->(Builtin.firstCells size n x).run P w'=.ok ws.toArray w'
 size:ws.length=n*size
theorem vD{size n c:Nat}{b o:Nat}(hl:ws.length=n*size)(h:WB w b o ws):Src P w size (.slice (some ⟨b,o,none⟩) n c) n ws:=by
 refine⟨fun _=>rfl,fun w' hw=>?_,hl⟩;refine run_firstCells_some w' size n _ n c ws hl (fun j v hv=>?_);rw[dA];exact(dK (by rw[hw])).trans (h j v hv)
theorem o9{size c:Nat}{a:Option Addr}:Src P w size (.slice a 0 c) 0 []:=by
 refine⟨fun _=>rfl,fun w' _=>?_,by simp⟩;cases a with
 |none=>rfl
 |some a=>simp only[Builtin.firstCells,Nat.zero_mul];rfl
theorem Zr{l:List UInt8}:Src P w 1 (.string ⟨l.toArray⟩) l.length (l.map fun b=>.int .u8 b.toNat):=by
 have hs:(⟨l.toArray⟩:ByteArray).size=l.length:=by rfl
 refine⟨fun w'=>?_,fun w' _=>?_,by simp⟩
 all_goals grind [Builtin.lenOf,Sem.run_pure,Builtin.firstCells,ByteArray.data_extract]
theorem IB(f:P.underlying t=some (.slice e))(g:P.underlying u=some d)(hd:isSS d=true)(hi:P.info? e=some i)
  {a:Option Addr} {n c m:Nat} (hx:Src P w i.size x m ws) (b:n+m<=c) (hw:ws=[]\/a=none) :
  (Builtin.append_ #[t,u] tt #[.slice a n c,x]).run P w=.ok (.slice a (n+m) c) w:=by
 have h1:=hx.len w
 have h2:=hx.cells w rfl
 cases a with
 |none=>
  rcases nV hd with⟨e',rfl⟩|rfl
  all_goals simp[Builtin.append_,run_underlying f,run_underlying g,sizeOf,typeInfo,hi,h1,h2,b]
 |some a=>
  have:ws=[]:=by grind
  subst this;rcases nV hd with⟨e',rfl⟩|rfl
  all_goals simp[Builtin.append_,run_underlying f,run_underlying g,sizeOf,typeInfo,hi,h1,h2,b,storeCells]
theorem Ru(h:P.underlying t=some (.slice e))(j:P.underlying u=some d)(hd:isSS d=true)(hi:P.info? e=some i)
  {g n c m:Nat} {cur:Array Value} {ty':TypeId} (k:w.heap[g]? = some (.cells cur ty' (0,0))) (hx:Src P w i.size x m ws) (h1':∀v∈ws,v.oneCell'=true) (a:n+m<=c) (f:n*i.size+ws.length<=cur.size) :
  (Builtin.append_ #[t,u] tt #[.slice (some ⟨g,0,none⟩) n c,x]).run P w =
   .ok (.slice (some ⟨g,0,none⟩) (n+m) c) (w.setRow g (cur.toList.take (n*i.size)++ws++cur.toList.drop (n*i.size+ws.length)).toArray):=by
 have h1:=hx.len w
 have h2:=hx.cells w rfl
 have b:=run_storeCells_at P g (n*i.size) ty' ws 0 cur w k kQ1 h1'
 simp only[Nat.add_zero]at b;rcases nV hd with⟨e',rfl⟩|rfl
 all_goals simp[Builtin.append_,run_underlying h,run_underlying j,sizeOf,typeInfo,hi,h1,h2,a,Addr.add_lit,b]
theorem IA{b:List Value}(h:P.underlying t=some (.slice e))(j:P.underlying u=some d)(hd:isSS d=true)(hi:P.info? e=some i)
  (hz:i.zero=some z) {a:Option Addr} {n c m:Nat} (hx:Src P w i.size x m ws) (ho:Src P w i.size (.slice a n c) n b) (l:c<n+m) (k:((n+m:Nat):Int)<=9223372036854775807) (hb:(n+m)*i.bytes<=140737488355328) :
  (Builtin.append_ #[t,u] tt #[.slice a n c,x]).run P w =
   .ok (.slice (some ⟨w.heap.size,0,none⟩) (n+m) (grownCap w (n+m) c e))
    (w.drew.alloc (.cells ((b++ws).toArray++Builtin.zeroCells z.cells (grownCap w (n+m) c e - (n+m))) e)):=by
 have h1:=hx.len w
 have h2:=hx.cells w.drew rfl
 have h3:=ho.cells w.drew rfl
 have hn:¬ (n+m<=c):=by omega
 have f:¬ (9223372036854775807 < ((n:Int)+(m:Int))):=by omega
 have g:¬ (281474976710656<Builtin.nextslicecap (n+m) c*i.bytes):=by simp_all[growslice_fits]
 rcases nV hd with⟨e',rfl⟩|rfl
 all_goals simp[Builtin.append_,run_underlying h,run_underlying j,sizeOf,typeInfo,zeroValue,hi,hz,h1,h2,h3,hn,f,g,Question.forced,newRow,grownCap]
 all_goals grind
theorem Jv{a b:Nat}:a<=grownCap w a b e:=by
 grind [grownCap,Question.cut]
end
def AV1.map(f:T->T):AV1->AV1
 |.c t=>.c (f t)
 |.agg ts=>.agg (ts.map f)
def AV.map(f:T->T):AV->AV
 |.one x=>.one (x.map f)
 |.tup xs=>.tup (xs.map (·.map f))
 |.any=>.any
def sQ(f:AV->AV)(t:List (Nat×AV)):List (Nat×AV):=t.map fun x=>(x.1,f x.2)
theorem qG{f:AV->AV}(hf:f .any=.any):∀(t:List (Nat×AV))(i:Nat),bd (sQ f t) i=f (bd t i)
 |[],i=>hf.symm
 |(k,v)::t,i=>by
  simp only[sQ,aiZ,bd];split
  ·rfl
  ·exact qG hf t i
variable{H':FH}{m m':Mm}{w':World}{γ':Gam}
theorem Za{w:World}{H:FH}{γ:Gam}{f:T->T}(hf:∀t y,TR w H γ m t (fun _=>0) y->TR w' H' γ' m' (f t) (fun _=>0) y) :
  ∀{ts:List T}{g:Fp}{vs:List Value},(∀b,g b=0)->Ts (TR w H γ m) ts g vs->Ts (TR w' H' γ' m') (ts.map f) g vs:=by
 intro ts g vs c h;unfold Ts;rw[ai2];refine L0 (fun _ t k y hk a=>?_) h;have:k=fun _=>0:=by grind
 grind
theorem OR{w:World}{H:FH}{γ:Gam}{f:T->T}(hf:∀t y,TR w H γ m t (fun _=>0) y->TR w' H' γ' m' (f t) (fun _=>0) y)
  {x:AV1} {y:Value} (h:AR1 w H γ m x y):AR1 w' H' γ' m' (x.map f) y:=by
 cases x with
 |c t=>exact hf t y h
 |agg ts=>obtain⟨cs,h1,h2,h3⟩:=h;exact⟨cs,h1,by grind,Za hf (fun _=>rfl) h3⟩
theorem OS{w:World}{H:FH}{γ:Gam}{f:T->T}(hf:∀t y,TR w H γ m t (fun _=>0) y->TR w' H' γ' m' (f t) (fun _=>0) y) :
  ∀{xs:List AV1}{a:List Value},ARs w H γ m xs a->ARs w' H' γ' m' (xs.map (·.map f)) a
 |[],[],_=>trivial
 |_::_,_::_,h=>⟨OR hf h.1,OS hf h.2⟩
 |[],_::_,h=>h.elim
 |_::_,[],h=>h.elim
theorem iK{w:World}{H:FH}{γ:Gam}{f:T->T}(hf:∀t y,TR w H γ m t (fun _=>0) y->TR w' H' γ' m' (f t) (fun _=>0) y)
  {x:AV} {y:Value} (h:AR w H γ m x y):AR w' H' γ' m' (x.map f) y:=by
 cases x with
 |one x=>exact OR hf h
 |tup xs=>obtain⟨l,h1,h2⟩:=h;exact⟨l,h1,OS hf h2⟩
 |any=>trivial
def T.frz(q:Pl)(l:List (List D)):T->T
 |.rf p=>match p with
  |⟨n,o,[]⟩=>if n=q.root/\o=q.off then .d (.li l)else(T.rf ⟨n,o,[]⟩).kill (thr q)
  |p=>(T.rf p).kill (thr q)
 |t=>t.kill (thr q)
def Jp(m:Mm)(q:Pl)(l:List (List D)):Mm:=bk (aP (thr q) (bk m q .any)) q (.d (.li l))
def Jq(s:S)(q:Pl):S:=
 match q.path,aZ s.m q with
 |[],some (.ow _ l)=>⟨sQ (AV.map (T.frz q l)) s.t,Jp s.m q l⟩
 |_,_=>s
variable{n:Nm}{v:Value}
theorem L2{w:World}{H:FH}{γ:Gam}{F:Nm->Fp}(f:Mem w H γ m F){off:Nat}(c:aZ m ⟨n,off,[]⟩=some .any)(hv:aI w (γ n) off=some v){x:D}(hx:FDx H x v) :
  Mem w H γ (bk m ⟨n,off,[]⟩ (.d x)) F/\Keeps w γ m w γ (bk m ⟨n,off,[]⟩ (.d x)):=by
 unfold aZ at c;cases hr:af m n with
 |none=>grind
 |some r=>
  rw[hr]at c;dsimp only at c;have j:=cg c
  have e:bk m ⟨n,off,[]⟩ (.d x)=cM m n { r with cells:=r.cells.set off (.d x) }:=by grind [bk]
  have i:∀k,af (bk m ⟨n,off,[]⟩ (.d x)) k=if n=k then some { r with cells:=r.cells.set off (.d x) }else af m k:=fun k=>by grind [fP]
  have p:Keeps w γ m w γ (bk m ⟨n,off,[]⟩ (.d x)):=by
   constructor
   ·intro q hq;refine⟨?_,rfl⟩;rw[aA]at hq⊢;rw[i];obtain⟨l,h1,h2⟩:=hq;by_cases hn:n=q.root
    ·rw[if_pos hn];rw[<- hn,hr]at h1;obtain rfl:r=l:=by grind
     refine⟨_,rfl,?_⟩;obtain⟨E,C,G⟩:=q;dsimp only[aT]at h2⊢
     grind
    grind
   ·intro q hq;refine⟨?_,rfl⟩;rw[cm]at hq⊢;rw[i];obtain⟨l,h1,h2⟩:=hq;by_cases hn:n=q.root
    ·rw[if_pos hn];rw[<- hn,hr]at h1;obtain rfl:r=l:=by grind
     refine⟨_,rfl,?_⟩;dsimp only[bF]at h2⊢
     grind
    grind
  refine⟨⟨f.agree,?_,?_,?_,?_,?_⟩,p⟩
  ·intro y hy;rw[e]at hy;rcases pO f.keys hy with⟨_,hy⟩|rfl
   ·exact bh p (fun _ _ _ h=>h) rfl (fun _ _=>rfl) (f.roots y hy)
   ·have a:=f.roots _ (ak hr)
    dsimp only at a⊢;have a:=bh p (fun _ _ _ h=>h) rfl (fun _ _=>rfl) a
    unfold bZ at a⊢;dsimp only;split at a
    ·rename_i hb;rw[if_pos hb];obtain⟨b,cs,ty,fz,g,h1,h2,h3,h4,h5,h6⟩:=a;refine⟨b,cs,ty,fz,g,h1,h2,h3,by grind,?_,h6⟩;unfold Ts at h5⊢;rw[akT];obtain⟨s0,t0,v0,s,fr,B,A,a3,a4,a5,u,_⟩:=cV _ _ _ _ off h5 j;rw[c]at A;obtain rfl:T.any=t0:=by grind
     have o:v0=v:=by
      grind [aI,World.cell?]
     subst o;have h0:∀b,s b=0:=a5
     have:=u (fun(_:Unit) t=>TR w H γ (bk m ⟨n,off,[]⟩ (.d x)) t) (.d x) v0 (fun _=>0) (fun _ _ _ _ _ h=>h) ⟨fun _=>rfl,hx⟩
     grind [p8,oX]
    ·rename_i hb;rw[if_neg hb];obtain⟨z,t,h1,h2,h3⟩:=a;rw[h2]at c j;have:off=0:=by grind
     subst this;obtain rfl:t=.any:=by grind
     rw[h1]at hv;simp only[aI,if_true,aiX]at hv;subst hv;exact⟨z,.d x,h1,by grind,h3,hx⟩
  ·grind [mM,Mem.keys]
  ·grind [dI,Mem.le1]
  ·intro b hb;rw[e,dI]at hb;exact f.lt b hb
  ·intro b hb;rw[e,dI]at hb;exact f.nofz b hb
section
variable {P:Program} {g:G} {s:S} {a:Act} {w:World} {H:FH} {γ:Gam} {F:Nm->Fp}
theorem L5(h:RX g s a w H γ F)(q:Pl):∃H' F',RX g (Jq s q) a w H' γ F':=by
 unfold Jq;obtain⟨n,off,path⟩:=q;cases path with
 |cons st u=>grind
 |nil=>
  dsimp only;cases D:aZ s.m ⟨n,off,[]⟩with
  |none=>grind
  |some t=>
   cases t with
   |ow sub l=>
    dsimp only;have d:cj s.m ⟨n,off,[]⟩:=by
     unfold aZ at D;rw[aA];cases hr:af s.m n with
     |none=>grind
     |some r=>rw[hr]at D;exact⟨r,rfl,cg D⟩
    obtain⟨f,v,S,O,t3,t4,t5⟩:=zc h.mem d D
    let H':FH:=fun b o=>if f b≠0 then(w.cell? ⟨b,o,none⟩).map HV.c else H b o
    have G:∀b o y,H b o=some y->H' b o=some y:=by
     intro b o y hy;simp only[H'];split
     ·rename_i e;rw[h.mem.nofz b (by grind) o]at hy;cases hy
     omega
    have I:∀b o y,H' b o=some y->RdV w b o y:=by
     intro b o y hy;simp only[H']at hy;split at hy
     ·obtain⟨z,hz,rfl⟩:=ajF.1 hy;exact hz
     ·exact h.mem.agree b o y hy
    have J:=t5 H' G I (fun b hb o=>by
     have h1:=t4 b;have h2:=h.mem.le1 b
     simp only[H'];rw[if_neg kQ1];exact h.mem.nofz b kQ1 o)
    have hx:FDx H' (.li l) v:=by
     obtain⟨k,K⟩:=O
     grind [Vm]
    have A:aZ (aP (thr ⟨n,off,[]⟩) (bk s.m ⟨n,off,[]⟩ .any)) ⟨n,off,[]⟩=some .any:=by
     obtain⟨r,hr,B⟩:=aA.1 d;dsimp only[aT]at hr B;unfold aZ;rw[kC,Ae (t:=T.any) hr];simp only[if_true,Option.map_some,ai4];rw[ajN B];rfl
    have hv:aI w (γ n) off=some v:=S
    obtain⟨N,M⟩:=L2 J A hv hx;have L:=o5 h.mem d
    refine⟨H',_,⟨N,?_,h.nt,h.df,fun i=>?_⟩⟩
    ·have C:∀b,tot (fun k b=>F k b-if k=n then f b else 0) (Jp s.m ⟨n,off,[]⟩ l) b=tot (fun k b=>F k b-if k=n then f b else 0) s.m b:=by
      grind [Jp,bk,dI,bu]
     refine⟨h.fr.size,h.fr.os,h.fr.tape,h.fr.output,h.fr.block,fun b o y hy=>G _ _ _ (h.fr.hold b o y hy),fun b o h1 h2=>?_,fun b hb=>?_,h.fr.nz.1,fun b o x l' c h1 h2=>?_⟩
     rotate_left 2
     ·by_cases hb:f b=0
      ·simp only[H']at h1;rw[if_neg kQ1]at h1;exact h.fr.nz.2 b o x l' c h1 h2
      ·obtain⟨k,K⟩:=O
       grind [Pz]
     ·by_cases hb:f b=0
      ·simp only[H']at h1;rw[if_neg kQ1]at h1;exact h.fr.hnew b o h1 h2
      ·exact h.fr.tt b (by grind)
     ·have E:=C b
      have h4:=t4 b
      dsimp only at h4 E;have R:tot (fun k b=>F k b-if k=n then f b else 0) (Jp s.m ⟨n,off,[]⟩ l) b≠0:=hb
      refine h.fr.tt b ?_;omega
    ·show AR w H' γ _ (bd (sQ _ s.t) i) _
     rw[qG rfl];refine iK (fun t y j=>?_) (h.t i);have hk:=fun(t:T) (j:TR w H γ s.m t (fun _=>0) y)=>jm M (fun _ _ _ h=>h) (fun _ hb=>absurd rfl hb) (qu L G (fun _ hb=>absurd rfl hb) j)
     cases t with
     |rf p=>
      obtain⟨U,V,P⟩:=p;cases P with
      |nil=>
       simp only[T.frz];split
       ·rename_i hc;obtain⟨rfl,rfl⟩:=hc;obtain⟨_,_,Q⟩:=j;have:y=v:=by
         grind
        subst this;exact⟨fun _=>rfl,hx⟩
       ·exact hk _ j
      |cons st u=>exact hk _ j
     |_=>exact hk _ j
   |_=>grind
def W0(s:S):T->S
 |.rf p=>Jq s p
 |_=>s
def Dk:S->List T->S
 |s,[]=>s
 |s,t::ts=>Dk (W0 s t) ts
def Js(s:S):AV->S
 |.one (.c t)=>W0 s t
 |.one (.agg ts)=>Dk s ts
 |_=>s
def pF(s:S):List AV->S
 |[]=>s
 |v::vs=>pF (Js s v) vs
theorem PC(h:RX g s a w H γ F)(t:T):∃H' F',RX g (W0 s t) a w H' γ F':=by
 cases t with
 |rf p=>exact L5 h p
 |_=>exact⟨H,F,h⟩
theorem Ij:∀(ts:List T)(s:S)(H:FH)(F:Nm->Fp),RX g s a w H γ F->∃H' F',RX g (Dk s ts) a w H' γ F'
 |[],s,H,F,h=>⟨H,F,h⟩
 |t::ts,s,H,F,h=>by
  obtain⟨H1,F1,h1⟩:=PC h t;exact Ij ts _ H1 F1 h1
theorem EB(h:RX g s a w H γ F)(v:AV):∃H' F',RX g (Js s v) a w H' γ F':=by
 unfold Js;split
 ·exact PC h _
 ·exact Ij _ _ _ _ h
 grind
theorem zi:∀(vs:List AV)(s:S)(H:FH)(F:Nm->Fp),RX g s a w H γ F->∃H' F',RX g (pF s vs) a w H' γ F'
 |[],s,H,F,h=>⟨H,F,h⟩
 |v::vs,s,H,F,h=>by
  obtain⟨H1,F1,h1⟩:=EB h v;exact zi vs _ H1 F1 h1
end
def S.fresh(s:S)(n:Nm):S:=match af s.m n with
 |none=>s
 |some _=>s.drop n
def S.root(s:S)(n:Nm)(r:Root):S:=⟨s.t,(n,r)::s.m⟩
def zcells(P:Program)(t:TypeId):Option (List Value):=
 match P.info? t with
 |some it=>match it.zero with
  |some z=>if z.cells.all okT=true then some z.cells.toList else none
  |none=>none
 |none=>none
def T.fz:T->D
 |.d x=>x
 |.nil=>.li []
 |_=>.any
variable{α:Type}
def chunk(size:Nat):Nat->List α->List (List α)
 |0,_=>[]
 |n+1,l=>l.take size::chunk size n (l.drop size)
theorem nH{size:Nat}:∀{n:Nat}{l:List α},(chunk size n l).length=n
 |0,_=>rfl
 |n+1,l=>by simp only[chunk,ai1,nH]
theorem sx{size:Nat}:∀{n:Nat}{l:List α},l.length=n*size->(chunk size n l).flatten=l
 |0,l,h=>by
  have:l=[]:=by grind
  subst this;rfl
 |n+1,l,h=>by
  rw[Nat.add_mul]at h;simp only[chunk,List.flatten_cons];rw[sx (by grind),aj8]
theorem vQ{size:Nat}:∀{n:Nat}{l:List α},l.length=n*size->∀x∈chunk size n l,x.length=size
 |0,l,h,x,hx=>by grind [chunk]
 |n+1,l,h,x,hx=>by
  rw[Nat.add_mul]at h;simp only[chunk,ai7]at hx;rcases hx with rfl|hx
  ·grind
  ·exact vQ (by grind) x hx
theorem qX(hk:(m.map (·.1)).Nodup):n ∉ (cv m n).map (·.1):=by
 induction m<;>grind [cv]
variable{k:S->Prop}{vs:Array (Nat×Value)}
section
variable {P:Program} {g:G} {s:S} {a:Act} {w:World} {H:FH} {γ:Gam} {F:Nm->Fp}
theorem cW(h:RX g s a w H γ F)(n:Nm):RX g (s.fresh n) a w H γ F:=by
 grind [S.fresh,ym]
theorem cC(h:RX g s a w H γ F)(n:Nm):af (s.fresh n).m n=none:=by
 unfold S.fresh;split
 ·omega
 ·show af (aP (bU n) (cv s.m n)) n=none
  rw[kC];have:af (cv s.m n) n=none:=wc.2 (qX h.mem.keys)
  grind
theorem kh{zs:List Value}(h:zcells P t=some zs):∃it z,P.info? t=some it/\it.zero=some z/\z.cells.toList=zs/\zs.all okT=true:=by
 grind [zcells]
theorem Ua{it:TypeInfo}(hi:P.info? t=some it)(hz:it.zero=some z) :
  (Instr.alloc t true (.tuple #[])).run P w=.ok (.pointer (some ⟨w.heap.size,0,none⟩)) (w.alloc (.cells z.cells t)):=by
 simp[Instr.alloc,zeroValue,typeInfo,hi,hz,newVar,newRow]
theorem acD:(Instr.box t v).run P w=.ok (.pointer (some ⟨w.heap.size,0,none⟩)) (w.alloc (.cells v.cells t)):=by
 rfl
theorem Vz(h:RX g s a w H γ F)(hno:n.isOut=false){ts:List T}{cs:Array Value}(hl:cs.size=ts.length)(f:Ts (TR w H γ (s.fresh n).m) ts (fun _=>0) cs.toList)(ty:TypeId)(e:∀t,n.tyd=some t->ty=t){d:Option Tmp}(hd:okD g.nt d=true)(i:ts≠[]) :
  ∃γ' F',RX g (((s.fresh n).root n ⟨true,ts⟩).put d (.one (.c (.pl ⟨n,0,[]⟩)))) (a.put d (.pointer (some ⟨w.heap.size,0,none⟩))) (w.alloc (.cells cs ty)) H γ' F':=by
 obtain⟨γ',F',h1,h2⟩:=Vq (cW h n) hno (cC h n) hl f ty e;refine⟨γ',F',RX.put h1 hd ⟨fun _=>rfl,?_,⟨w.heap.size,0,none⟩,?_,rfl⟩⟩
 ·rw[aA];refine⟨⟨true,ts⟩,by simp[af],?_⟩;show 0<ts.length
  grind
 ·show(match γ' n with|.blk b=>some (⟨b,0,none⟩:Addr)|.gh _=>none)=_
  rw[h2]
def og(t:Nat)(d:Nat):Nm:=if t=158 then .loc (158*1000000+d)else .loc d
theorem XL{t:Nat}{d:Nat}:(og t d).isOut=false:=by unfold og;split<;>rfl
theorem abL{t:Nat}{d:Nat}(hd:d < 1000000):∀u,(og t d).tyd=some u->t=u:=by
 grind [og,Nm.tyd]
def vE(P:Program)(s:S)(t:TypeId)(d:Tmp)(k:S->Prop):Prop:=
 match zcells P t with
 |some zs=>zs≠[]/\d < 1000000/\k (((s.fresh (og t d)).root (og t d) ⟨true,zs.map rG⟩).put (some d) (.one (.c (.pl ⟨og t d,0,[]⟩))))
 |none=>False
theorem Rn(h:RX g s a w H γ F){d:Tmp}(hd:okD g.nt (some d)=true)(b:vE P s t d k) :
  ∃s' y w' γ' F',(Instr.alloc t true (.tuple #[])).run P w=.ok y w'/\k s'/\RX g s' (a.put (some d) y) w' H γ' F':=by
 unfold vE at b;cases hz:zcells P t with
 |none=>grind
 |some zs=>
  rw[hz]at b;obtain⟨e,c,b⟩:=b;obtain⟨it,z,h1,h2,h3,h4⟩:=kh hz;obtain⟨γ',F',hX⟩:=Vz h (n:=og t d) XL (ts:=zs.map rG) (cs:=z.cells) (by grind) (by grind [zo]) t (abL c) hd (by simp_all)
  grind [Ua]
def RB(s:S)(x:Operand)(d:Tmp)(k:S->Prop):Prop:=
 match fh (ev (s.fresh (.loc d)) x)with
 |some ts=>ts≠[]/\ts.all T.sure=true/\d < 1000000/\k (((s.fresh (.loc d)).root (.loc d) ⟨true,ts⟩).put (some d) (.one (.c (.pl ⟨.loc d,0,[]⟩))))
 |none=>False
theorem ZH(h:RX g s a w H γ F){x:Operand}{d:Tmp}(hd:okD g.nt (some d)=true)(hx:aH x=true)(b:RB s x d k) :
  ∃s' y w' H' γ' F',(Instr.box t (a.eval x)).run P w=.ok y w'/\k s'/\RX g s' (a.put (some d) y) w' H' γ' F':=by
 unfold RB at b;have h':=cW h (.loc d)
 have hv:=aL h' hx
 cases hz:fh (ev (s.fresh (.loc d)) x)with
 |none=>grind
 |some ts=>
  rw[hz]at b;obtain⟨c,hs,e,b⟩:=b;obtain⟨f,c2⟩:=yM h'.mem hv hz hs;obtain⟨γ',F',hX⟩:=Vz h (n:=.loc d) rfl (ts:=ts) (cs:=(a.eval x).cells) f c2 t (fun u i=>by grind [Nm.tyd]) hd c
  grind [acD]
theorem RE(u:Mem w H γ m F){a:List (Nat×AV)}{k:AV->Prop}(h:so P t a k)(hp:PR w H γ m a vs.toList) :
  ∃z d,(∀w:World,(Instr.build t vs).run P w=.ok z w)/\AR w H γ m d z/\k d:=by
 unfold so at h;cases hz:zst P t with
 |none=>grind
 |some q=>
  obtain⟨zs,g⟩:=q;rw[hz]at h;dsimp only at h;cases hf:jQ (g[·]?) (zs.map rG) a with
  |none=>grind
  |some ts=>
   rw[hf]at h;unfold zst at hz;cases hi:P.info? t with
   |none=>grind
   |some it=>
    rw[hi]at hz;cases x:P.underlying t with
    |none=>grind
    |some td=>
     rw[x]at hz;cases td with
     |struct j=>
      dsimp only at hz;cases l:it.zero with
      |none=>grind
      |some z=>
       cases s:j.toList.mapM (fun f=>(P.info? f.type).map fun i=>(f.offset,i.size))with
       |none=>grind
       |some pl=>
        rw[l,s]at hz;dsimp only at hz;split at hz
        ·rename_i n;simp only[aiX,Prod.mk.injEq]at hz;obtain⟨rfl,rfl⟩:=hz;have c:z.cells.toList.all okT=true:=by grind
         obtain⟨b,v,o,r⟩:=yu u a vs.toList (z.cells.toList.map rG) z.cells ts hp (by simp) (zo c) hf;refine⟨.agg b,.one (.agg ts),fun w=>run_build w t vs b ?_,⟨b,rfl,o,r⟩,h⟩
         simp_all[Program.built]
        grind
     |array N e=>
      dsimp only at hz;cases l:it.zero with
      |none=>grind
      |some z=>
       cases p:P.info? e with
       |none=>grind
       |some y=>
        rw[l,p]at hz;dsimp only at hz;split at hz
        ·rename_i n;simp only[aiX,Prod.mk.injEq]at hz;obtain⟨rfl,rfl⟩:=hz;have c:z.cells.toList.all okT=true:=by grind
         obtain⟨b,v,o,r⟩:=yu u a vs.toList (z.cells.toList.map rG) z.cells ts hp (by simp) (zo c) hf;refine⟨.agg b,.one (.agg ts),fun w=>run_build w t vs b ?_,⟨b,rfl,o,r⟩,h⟩
         grind [Program.built,Df]
        grind
     |_=>grind
theorem jM{len:Nat}{cells:Array Value}{b:TypeInfo}
  (f:P.underlying t=some (.slice e)) (d:P.info? e=some b) (hz:b.zero=some z) (a:¬ len*b.size > 2 ^ 24)
  (h:∀us:Array Value,us.size=len*b.size->∃cs,Instr.fill (fun i=>some (i*b.size,b.size)) us vs.toList=some cs/\cs.size=len*b.size/\(cells=cs\/True)) :
  ∃us cs,us.size=len*b.size/\Instr.fill (fun i=>some (i*b.size,b.size)) us vs.toList=some cs /\
  (Instr.buildSlice t len vs).run P w=.ok (.slice (some ⟨w.heap.size,0,none⟩) len len) (w.alloc (.cells cs e)):=by
 by_cases c:len*b.size=0
 ·obtain⟨cs,h1,h2,_⟩:=h ((Array.range (len*b.size)).map ((#[]:Array Value)[· % (#[]:Array Value).size]!)) (by simp);refine⟨_,cs,by simp,h1,?_⟩;simp[Instr.buildSlice,run_underlying f,sizeOf,typeInfo,zeroValue,d,hz,a,c,newRow]at h1⊢;simp[h1]
 ·obtain⟨cs,h1,h2,_⟩:=h ((Array.range (len*b.size)).map (z.cells[· % z.cells.size]!)) (by simp);refine⟨_,cs,by simp,h1,?_⟩;simp[Instr.buildSlice,run_underlying f,sizeOf,typeInfo,zeroValue,d,hz,a,c,newRow,h1]
theorem ac7{k:Nat}:∀{ts:List T}{f:Fp}{vs:List Value},(∀b,f b=0)->Ts (TR w H γ m) ts f vs ->
  Cs (OD w H k) (List.replicate ts.length .fr) (ts.map T.fz) f vs
 |[],_,_,hf,_=>hf
 |t::ts,f,vs,hf,h=>by
  obtain⟨v,r,f1,a,h1,h2,h3,h4⟩:=h;refine⟨v,r,f1,a,h1,h2,?_,ac7 (fun b=>by grind) h4⟩;rw[fZ];refine⟨fun b=>by grind,?_⟩;cases t with
  |d x=>exact h3.2
  |nil=>obtain⟨_,rfl⟩:=h3;exact lj
  |_=>exact⟨0,trivial⟩
def kI(s:S)(ps:Array (Nat×Operand)):List (Nat×AV):=ps.toList.map fun x=>(x.1,ev s x.2)
theorem tO{m:Mm}{s:S}(h:RX g s a w H γ F):∀{ps:List (Nat×Operand)},(ps.all fun x=>aH x.2)=true ->
  PR w H γ s.m (ps.map fun x=>(x.1,ev s x.2)) (ps.map fun x=>(x.1,a.eval x.2))
 |[],_=>trivial
 |x::ps,hp=>by
  simp only[ajE,aiW]at hp;exact⟨rfl,aL h hp.1,tO (m:=m) h hp.2⟩
def gV(P:Program)(s0:S)(t:TypeId)(len:Nat)(ps:Array (Nat×Operand))(d:Tmp)(k:S->Prop):Prop:=
 match(ty P t).k with
 |.sl e=>(ty P e).ok=true/\(zcells P e).isSome=true/\len*(ty P e).size<=16777216/\len<=16777216 /\
  let s:=(pF s0 (ps.toList.map fun x=>ev s0 x.2)).fresh (.gh d)
  match jQ (fun i=>some (i*(ty P e).size,(ty P e).size)) (List.replicate (len*(ty P e).size) .any) (kI s ps)with
  |some ts=>k ((s.root (.gh d) ⟨false,[.ow (List.replicate (ty P e).size .fr) (chunk (ty P e).size len (ts.map T.fz))]⟩).put (some d) (.one (.c (.rf ⟨.gh d,0,[]⟩))))
  |none=>False
 |_=>False
theorem nK:∀{b:List (Nat×AV)}{pl:Nat->Option (Nat×Nat)}{ts ts':List T},jQ pl ts b=some ts'->ts'.length=ts.length
 |[],pl,ts,ts',h=>by grind [jQ]
 |(i,x)::r,pl,ts,ts',h=>by
  simp only[jQ]at h;cases hp:pl i with
  |none=>grind
  |some q=>
   obtain⟨off,size⟩:=q;rw[hp]at h;cases hc:fh x with
   |none=>grind
   |some cs=>
    rw[hc]at h;dsimp only at h;split at h
    ·rename_i a;rw[nK h,ww a.2.1]
    grind
theorem Mf:∀{vs:List Value},Ts (TR w H γ m) (List.replicate vs.length .any) (fun _=>0) vs
 |[]=>fun _=>rfl
 |v::vs=>⟨v,vs,fun _=>0,fun _=>0,rfl,fun _=>rfl,fun _=>rfl,Mf⟩
theorem K7(n size:Nat):(List.replicate n (List.replicate size Sh.fr)).flatten=List.replicate (n*size) Sh.fr:=by
 simp_all
theorem Q9(h:RX g s a w H γ F)(hno:n.isOut=false)(hn:af s.m n=none){cs:Array Value}{ty':TypeId}{len cap size:Nat}{l:List (List D)}(hl:l.length=len)(f:len<=cap)(d:len<=BIG)
  (hx:∀x∈l,x.length=size) (A:cs.size=cap*size) (j:∀k,Cs (OD w H k) (List.replicate (len*size) Sh.fr) l.flatten (fun _=>0) cs.toList) :
  ∃γ' F',RX g (s.root n ⟨false,[.ow (List.replicate size .fr) l]⟩) a (w.alloc (.cells cs ty')) H γ' F'/\γ' n=.gh (.slice (some ⟨w.heap.size,0,none⟩) len cap):=by
 obtain⟨p,hf,q,r⟩:=qm h.mem cs ty' false;simp only[ai8,false_and,if_false]at p hf q r;have hX:RX g s a (w.alloc (.cells cs ty')) H γ F:=jR h p hf (fun i=>dy q (fun _ _ _ h=>h) (h.t i)) (fun _=>rfl)
 have hz:tot F s.m w.heap.size=0:=by
  rcases ajZ (tot F s.m w.heap.size)with h'|h'
  ·exact h'
  ·have:=h.mem.lt w.heap.size kQ1;omega
 have u:∀o,H w.heap.size o=none:=by
  intro o;cases hc:H w.heap.size o with
  |none=>rfl
  |some y=>have:=(h.mem.agree _ _ _ hc).lt;omega
 have e:∀k,Cs (OD (w.alloc (.cells cs ty')) H k) (List.replicate len (List.replicate size Sh.fr)).flatten l.flatten (fun _=>0) cs.toList:=by
  intro k;rw[K7];refine lh _ _ _ _ (fun s x g v z c=>?_) (j k);exact cO (fun _ _ _ h=>h) k k _ _ _ _ (ai0 _) (fun b hb=>absurd (Nat.le_zero.1 (z b)) hb) c
 subst hl;have c:TR (w.alloc (.cells cs ty')) H γ s.m (.ow (List.replicate size .fr) l) (fun b=>0+if b=w.heap.size then 1 else 0) (.slice (some ⟨w.heap.size,0,none⟩) l.length cap):=
  ⟨1,ze (bC) rfl (by grind) f d (by grind) (e 0)⟩
 exact dQ hX hno hn c (fun b=>by
   grind [Mem.le1])
  (fun b hb=>by
   simp_all)
  (fun b hb=>by
   have B:b=w.heap.size:=by
    grind
   right;have:=h.fr.size;omega)
theorem ij{sub:List Sh}{l:List (List D)}(hn:af m n=some ⟨false,[.ow sub l]⟩)(a:γ n=.gh v):AR w H γ m (.one (.c (.rf ⟨n,0,[]⟩))) v:=by
 refine⟨fun _=>rfl,?_,?_⟩
 ·rw[cm];exact⟨_,hn,trivial⟩
 ·show aI w (γ n) 0=some v
  rw[a];rfl
theorem zz(h:RX g s a w H γ F){t:TypeId}{len:Nat}{ps:Array (Nat×Operand)}{d:Tmp}(hd:okD g.nt (some d)=true)(hp:(ps.toList.all fun x=>aH x.2)=true)(c:gV P s t len ps d k) :
  ∃s' y w' H' γ' F',(Instr.buildSlice t len (ps.map fun(i,x)=>(i,a.eval x))).run P w=.ok y w'/\k s'/\RX g s' (a.put (some d) y) w' H' γ' F':=by
 unfold gV at c;cases hk:(ty P t).k with
 |sl e=>
  rw[hk]at c;obtain⟨u,v,f,L,c⟩:=c;obtain⟨_,td,hit,B,r,_⟩:=aY hk (by simp);have:=oS r
  subst this;obtain⟨b,O,p,_⟩:=jE u;have o:(ty P e).size=b.size:=by
   omega
  obtain⟨zs,E⟩:=Option.isSome_iff_exists.1 v;obtain⟨C,z,D,hz,_⟩:=kh E;rw[p]at D;obtain rfl:b=C:=by grind
  obtain⟨H1,F1,h1⟩:=zi (ps.toList.map fun x=>ev s x.2) s H F h;have h2:=cW h1 (.gh d)
  have hn:=cC h1 (.gh d)
  dsimp only at c;generalize(pF s (ps.toList.map fun x=>ev s x.2)).fresh (.gh d)=s2 at c h2 hn;cases hf:jQ (fun i=>some (i*(ty P e).size,(ty P e).size)) (List.replicate (len*(ty P e).size) .any) (kI s2 ps)with
  |none=>grind
  |some ts=>
   rw[hf]at c;dsimp only at c;rw[o]at hf c f;have I:PR w H1 γ s2.m (kI s2 ps) (ps.map fun(i,x)=>(i,a.eval x)).toList:=by
    rw[Array.toList_map];exact tO (m:=s2.m) h2 hp
   have j:∀us:Array Value,us.size=len*b.size->∃cs,Instr.fill (fun i=>some (i*b.size,b.size)) us (ps.map fun(i,x)=>(i,a.eval x)).toList=some cs/\cs.size=ts.length/\Ts (TR w H1 γ s2.m) ts (fun _=>0) cs.toList:=by
    intro us hus;refine yu h2.mem _ _ _ us ts I (by grind) ?_ hf;have:=Mf (w:=w) (H:=H1) (γ:=γ) (m:=s2.m) (vs:=us.toList)
    grind
   have J:ts.length=len*b.size:=by rw[nK hf];simp
   obtain⟨us,cs,u1,M,N⟩:=jM (P:=P) (w:=w) (t:=t) (e:=e) (len:=len) (vs:=ps.map fun(i,x)=>(i,a.eval x)) (cells:=#[]) B p hz kQ1 (fun us hus=>by
    grind)
   obtain⟨A,K,c2,c3⟩:=j us u1;rw[M]at K;obtain rfl:cs=A:=by grind
   have q:(ts.map T.fz).length=len*b.size:=by grind
   obtain⟨γ',F',hX,G⟩:=Q9 h2 (n:=.gh d) rfl hn (cs:=cs) (ty':=e) (len:=len) (cap:=len) (size:=b.size) (l:=chunk b.size len (ts.map T.fz)) nH (ai0 _) (by
     show len<=2 ^ 62
     omega) (vQ q) kQ1 (fun k=>by
      grind [sx,ac7])
   refine⟨_,_,_,H1,γ',F',N,c,RX.put hX hd (ij (sub:=List.replicate b.size .fr) (l:=chunk b.size len (ts.map T.fz)) ?_ G)⟩;simp[S.root,af]
 |_=>grind
end
def D.sure:D->Bool
 |.any=>false
 |_=>true
def Sh.isFr:Sh->Bool
 |.fr=>true
 |_=>false
def TK.isSS:TK->Bool
 |.sl _=>true
 |.str=>true
 |_=>false
def Lw(s:S)(q:Pl):S:=⟨oP (thr q) s.t,aP (thr q) (bk s.m q .any)⟩
theorem Us{F:Nm->Fp}{p:Pl}{t:T}{b:Nat}:tot F (bk m p t) b=tot F m b:=by
 grind [bk,dI]
theorem tD{w:World}{H:FH}(d:∀b o y,H b o=some y->H' b o=some y){k k':Nat}(hk:k<=k'){c:List Sh}{xs:List D}{f:Fp}{vs:List Value}
  (hw:∀b,f b≠0->w'.heap[b]? = w.heap[b]?) (h:Cs (OD w H k) c xs f vs):Cs (OD w' H' k') c xs f vs:=
 lh _ _ _ _ (fun _ _ _ _ e a=>cO d k k' _ _ _ _ hk (fun b hb=>hw b (by grind)) a) h
variable{l:List (List D)}{sub:List Sh}
section
variable {P:Program} {g:G} {s:S} {a:Act} {w:World} {H:FH} {γ:Gam} {F:Nm->Fp}
theorem Il(h:RX g s a w H γ F){q:Pl}(c:cj s.m q)(e:aZ s.m q=some (.ow sub l)) :
  ∃v f F',plV w γ q=some v/\(∃k,OD w H k (.ow sub) (.li l) f v)/\RX g (Lw s q) a w H γ F'/\∀b,tot F' (Lw s q).m b+f b=tot F s.m b:=by
 obtain⟨f,v,r,p,t3,t4,t5⟩:=zc h.mem c e;have j:=t5 H (fun _ _ _ h=>h) h.mem.agree (fun b hb o=>h.mem.nofz b (by grind) o)
 have d:∀b,tot (fun n b=>F n b-if n=q.root then f b else 0) (Lw s q).m b+f b=tot F s.m b:=by
  intro b;show tot _ (aP _ _) b+f b=_
  grind [bu,Us]
 refine⟨v,f,_,r,p,⟨j,⟨h.fr.size,h.fr.os,h.fr.tape,h.fr.output,h.fr.block,h.fr.hold,h.fr.hnew,fun b hb=>h.fr.tt b ?_,h.fr.nz⟩,h.nt,h.df,fun i=>?_⟩,d⟩
 ·grind
 ·show AR w H γ _ (bd (oP _ s.t) i) _
  rw[sJ];exact yj (o5 h.mem c) (fun _ _ _ h=>h) (h.t i)
theorem o7(h:RX g s a w H γ F){w':World}(p:w.heap.size<=w'.heap.size)(f:w'.os=w.os)(r:w'.tape=w.tape)(j:w'.output=w.output)
  (hb:∀b,b<w.heap.size->w'.heap[b]? = w.heap[b]? \/ (tot F s.m b=0/\(∀o,H b o=none)/\(g.own0 b≠0\/g.w0.heap.size<=b)/\Thawed w' b)):RX g s a w' H γ F:=by
 have e:∀b,Thawed w b->Thawed w' b:=fun b h0=>by
  grind [Thawed.lt,Thawed.of_block]
 have d:∀b,tot F s.m b≠0->w'.heap[b]? = w.heap[b]? := fun b q=>by
  rcases hb b (h.mem.lt b q)with h1|h1
  all_goals omega
 have u:=gH (w':=w') h.mem d
 have n:∀x∈s.m,∀b,F x.1 b≠0->w'.heap[b]? = w.heap[b]? := fun x hx b hb=>d b (by grind [bX])
 refine⟨⟨?_,fun x hx=>bh u (fun _ _ _ h=>h) rfl (n x hx) (h.mem.roots x hx),h.mem.keys,h.mem.le1,fun b hb=>by have:=h.mem.lt b hb;omega,h.mem.nofz⟩,
  ⟨ajJ h.fr.size p,f.trans h.fr.os,r.trans h.fr.tape,j.trans h.fr.output,fun k hk h0=>?_,h.fr.hold,h.fr.hnew,h.fr.tt,fun b h0=>e b (h.fr.nz.1 b h0),fun b o x l c h1 h2=>e b (h.fr.nz.2 b o x l c h1 h2)⟩,h.nt,h.df,fun i=>dy u (fun _ _ _ h=>h) (h.t i)⟩
 ·intro b o y hy;have hc:=h.mem.agree b o y hy
  grind [RdV.lt,RdV.frame]
 ·rcases hb k (by have:=h.fr.size;omega)with h1|h1
  ·rw[h1];exact h.fr.block k hk h0
  omega
theorem Bm{tt:TypeId}{dd:TypeDesc}(T:P.underlying t=some (.slice e))(I:P.underlying u=some dd)(A:isSS dd=true)(hi:P.info? e=some i)(hz:i.zero=some z)(W:z.cells.size=i.size)
  {k kx:Nat} {sub:List Sh} {l g:List (List D)} {f gx:Fp} {v x:Value} {ws:List Value} (q:sub.length=i.size)
  (N:OD w H k (.ow sub) (.li l) f v) (hx:Src P w i.size x g.length ws) (X:∀y∈g,y.length=sub.length) (J:Cs (OD w H kx) (List.replicate g.length sub).flatten g.flatten gx ws) (F:∀u∈ws,oT u=true)
  (hd:∀b,f b+gx b<=1) (V:∀b,f b≠0\/gx b≠0->b<w.heap.size) (ac:l.length+g.length<=4611686018427387904) (R:(l.length+g.length)*i.bytes<=140737488355328) :
  ∃y w' f',(Builtin.append_ #[t,u] tt #[v,x]).run P w=.ok y w'/\(∃k',OD w' H k' (.ow sub) (.li (l++g)) f' y)/\w.heap.size<=w'.heap.size/\w'.os=w.os/\w'.tape=w.tape/\w'.output=w.output /\
   (∀b,b<w.heap.size->w'.heap[b]? = w.heap[b]? \/ (f b≠0/\Thawed w' b))/\(∀b,f' b<=f b+gx b+if b=w.heap.size then 1 else 0)/\(∀b,f' b≠0->b<w'.heap.size):=by
 cases k with
 |zero=>simp[OD]at N
 |succ k=>
  obtain⟨ad,c,K,vs,rfl,hlc,ab,L,U,B,o⟩:=mm N;have s:∀y∈l++g,y.length=sub.length:=ye L X
  have hws:ws.length=g.length*sub.length:=by rw[hx.size,q]
  by_cases r:l.length+g.length<=c
  ·rcases o with⟨rfl,rfl,rfl,hf0⟩|⟨b,cs,ty,fz,rfl,hb,hfz,hcsz,rfl,hf⟩
   ·have E:g=[]:=by
     grind
    subst E;have Q:ws=[]:=by simp_all
    subst Q;refine⟨_,w,fun _=>0,IB T I A hi (a:=none) (n:=0) (c:=0) (m:=0) hx (ai0 _) (.inl rfl),⟨1,?_⟩,ai0 _,rfl,rfl,rfl,fun _ _=>.inl rfl,fun b=>ajW _,fun b hb=>absurd rfl hb⟩
    grind [fq]
   ·have O:fz=(0,0):=hfz
    subst O;have aa:K b=0:=by grind
    have Z:gx b=0:=by grind
    have G:l.length*i.size+ws.length<=cs.size:=by
     rw[hws,hcsz,<- q,<- Nat.add_mul];exact aj2 _ r
    have C:=Ru (tt:=tt) T I A hi hb hx (fun u I=>F u I) r G
    refine⟨_,_,fun d=>(K d+gx d)+if d=b then 1 else 0,C,⟨k+kx+1,?_⟩,by simp[World.setRow],rfl,rfl,rfl,fun j hj=>?_,fun j=>?_,fun j hj=>?_⟩
    ·have hnew:=setRow_heap w b cs (cs.toList.take (l.length*i.size)++ws++cs.toList.drop (l.length*i.size+ws.length)).toArray ty (0,0) hb
     rw[show l.length+g.length=(l++g).length from by simp];refine ze hnew rfl ?_ (by grind) (by show(l++g).length<=2 ^ 62;grind) s ?_
     ·grind
     ·have h1:=tD (w':=w.setRow b (cs.toList.take (l.length*i.size)++ws++cs.toList.drop (l.length*i.size+ws.length)).toArray) (fun _ _ _ h=>h) (Nat.le_add_right k kx) (fun c hc=>setRow_other w b c _ (fun e=>hc (by grind))) B
      have h2:=tD (w':=w.setRow b (cs.toList.take (l.length*i.size)++ws++cs.toList.drop (l.length*i.size+ws.length)).toArray) (fun _ _ _ h=>h) (Nat.le_add_left kx k) (fun c hc=>setRow_other w b c _ (fun e=>hc (by grind))) J
      grind [UT]
    ·by_cases S:j=b
     ·right;subst S;exact⟨by grind,_,_,setRow_heap w j cs _ ty (0,0) hb⟩
     grind [setRow_other]
    all_goals grind [World.setRow]
  ·have ho:Src P w i.size (.slice ad l.length c) l.length vs:=by
    rcases o with⟨rfl,rfl,rfl,_⟩|⟨b,cs,ty,fz,rfl,hb,hfz,hcsz,rfl,hf⟩
    ·simp_all[o9]
    ·refine vD (by grind) (fun j u hj=>?_)
     grind [World.cell?]
   have M:=IA (tt:=tt) T I A hi hz hx ho kQ1 kQ1 R
   have p:l.length+g.length<=grownCap w (l.length+g.length) c e:=Am.Jv
   have Y:∀b,K b<=f b:=by
    grind [Cs]
   have hno:∀b,K b≠0\/gx b≠0->b<w.heap.size:=fun b hb=>V b (by grind)
   generalize hcapv:grownCap w (l.length+g.length) c e=cap at M p;have hnew:(w.drew.alloc (.cells ((vs++ws).toArray++Builtin.zeroCells z.cells (cap - (l.length+g.length))) e)).heap[w.heap.size]? = some (.cells ((vs++ws).toArray++Builtin.zeroCells z.cells (cap - (l.length+g.length))) e):=
    bC (w:=w.drew)
   have hold:∀b,b<w.heap.size->(w.drew.alloc (.cells ((vs++ws).toArray++Builtin.zeroCells z.cells (cap - (l.length+g.length))) e)).heap[b]? = w.heap[b]? := fun b hb=>cU (w:=w.drew) hb
   refine⟨_,_,fun d=>(K d+gx d)+if d=w.heap.size then 1 else 0,M,⟨k+kx+1,?_⟩,by grind,rfl,rfl,rfl,fun j hj=>.inl (hold j hj),fun j=>by grind,fun j hj=>?_⟩
   ·rw[show l.length+g.length=(l++g).length from by simp];rw[show l.length+g.length=(l++g).length from by simp]at hnew hold p;refine ze hnew rfl ?_ p (by show(l++g).length<=2 ^ 62;grind) s ?_
    ·simp only[Array.size_append,List.size_toArray,ai3,size_zeroCells,U,hws,W];rw[<- q,<- Nat.add_mul,<- Nat.add_mul]
     grind
    ·have h1:=tD (w':=w.drew.alloc (.cells ((vs++ws).toArray++Builtin.zeroCells z.cells (cap - (l++g).length)) e)) (fun _ _ _ h=>h) (Nat.le_add_right k kx) (fun c hc=>hold c (hno c (.inl hc))) B
     have h2:=tD (w':=w.drew.alloc (.cells ((vs++ws).toArray++Builtin.zeroCells z.cells (cap - (l++g).length)) e)) (fun _ _ _ h=>h) (Nat.le_add_left kx k) (fun c hc=>hold c (hno c (.inr hc))) J
     grind [UT]
   grind
end
def jX(size:Nat):AV->Option (List (List D))
 |.one (.c .nil)=>some []
 |.one (.c (.d (.li l)))=>some l
 |.one (.c (.d (.str b)))=>if size=1 then some (b.map fun c=>[.int .u8 c.toNat])else none
 |_=>none
def FN(size:Nat)(a:List (List D)):Prop:=∀y∈a,y.length=size/\∀x∈y,x.sure=true
def jp(s:S)(size:Nat):AV->Option (S×List Sh×List (List D))
 |.one (.c .nil)=>some (s,List.replicate size .fr,[])
 |.one (.c (.rf q))=>match aZ s.m q with
  |some (.ow sub l)=>if sub.length=size then some (Lw s q,sub,l)else none
  |_=>none
 |_=>none
def qv(P:Program)(a:S)(t u:TypeId)(x y:Operand)(d:Tmp)(k:S->Prop):Prop:=
 let s:=Js a (ev a y)
 match(ty P t).k with
 |.sl e=>(ty P e).ok=true/\(ty P u).k.isSS=true/\((zcells P e).map (·.length))=some (ty P e).size /\
  match jX (ty P e).size (ev s y),jp s (ty P e).size (ev s x)with
  |some b,some (s1,sub,l)=>sub.all Sh.isFr=true/\FN (ty P e).size b/\l.length+b.length<=4611686018427387904/\(l.length+b.length)*(ty P e).bytes<=140737488355328 /\
   k (((s1.fresh (.gh d)).root (.gh d) ⟨false,[.ow sub (l++b)]⟩).put (some d) (.one (.c (.rf ⟨.gh d,0,[]⟩))))
  |_,_=>False
 |_=>False
theorem US{w:World}{H:FH}{k:Nat}:∀{xs:List D}{vs:List Value},vs.length=xs.length->(∀(j:Nat)(x:D),xs[j]? = some x->∃v,vs[j]? = some v/\FDx H x v) ->
  Cs (OD w H k) (List.replicate xs.length .fr) xs (fun _=>0) vs
 |[],[],_,_=>fun _=>rfl
 |[],_::_,hl,_=>by grind
 |_::_,[],hl,_=>by grind
 |x::xs,v::vs,hl,h=>by
  refine⟨v,vs,fun _=>0,fun _=>0,rfl,fun _=>rfl,?_,US (by grind) (fun j x hj=>h (j+1) x (by grind))⟩;rw[fZ];obtain⟨a,h1,h2⟩:=h 0 x rfl
  grind
theorem OZ{H:FH}{x:D}{y:Value}(hs:x.sure=true)(h:FDx H x y):oT y=true:=by
 obtain⟨m,h⟩:=h;cases x with
 |int k n=>have:=h;cases m<;>(obtain⟨rfl,_⟩:=this;rfl)
 |bool b=>cases m<;>(have:y=_:=h;subst this;rfl)
 |str l=>have:=h;cases m<;>(obtain⟨rfl,_⟩:=this;rfl)
 |mp l=>obtain⟨b,rfl⟩:=Eu ⟨m,h⟩;rfl
 |fn f l=>obtain⟨b,rfl⟩:=UX ⟨m,h⟩;rfl
 |v z=>have:=h;cases m<;>(obtain⟨rfl,h1⟩:=this;exact h1)
 |any=>grind [D.sure]
 |li l=>
  cases m with
  |zero=>exact h.elim
  |succ m=>obtain⟨a,c,rfl,_⟩:=kj.1 h;rfl
theorem MQ(b:List UInt8):(b.map fun c=>[D.int .u8 (c.toNat:Int)]).flatten=b.map fun c=>D.int .u8 (c.toNat:Int):=by
 induction b<;>grind
section
variable {P:Program} {g:G} {s:S} {a:Act} {w:World} {H:FH} {γ:Gam} {F:Nm->Fp}
theorem adK(h:sub.all Sh.isFr=true):sub=List.replicate sub.length .fr:=by
 induction sub<;>grind [Sh.isFr]
theorem agR(E:Mem w H γ m F){size:Nat}{x:AV}{g:List (List D)}(hx:AR w H γ m x v)(hr:jX size x=some g)(q:FN size g) :
  ∃ws,Src P w size v g.length ws/\(∀k,Cs (OD w H k) (List.replicate (g.length*size) .fr) g.flatten (fun _=>0) ws)/\∀u∈ws,oT u=true:=by
 have f:∀y∈g,y.length=size:=fun y hy=>(q y hy).1
 have z:=cR size g f
 match x,hr with
 |.one (.c .nil),hr=>
  simp only[jX,aiX]at hr;subst hr;obtain⟨_,rfl⟩:=hx;exact⟨[],o9,fun k=>by simp[Cs],by simp⟩
 |.one (.c (.d (.str b))),hr=>
  simp only[jX]at hr;by_cases hs:size=1
  ·subst hs;rw[if_pos rfl]at hr;obtain rfl:=Option.some.inj hr;obtain⟨rfl,hb⟩:=Ep hx;have:=Zr (P:=P) (w:=w) (l:=b)
   refine⟨b.map fun b=>.int .u8 b.toNat,by grind,fun k=>?_,?_⟩
   ·rw[<- z];refine US (by grind) (fun j x hj=>?_);rw[MQ,ai4,ajF]at hj;obtain⟨c,hc,rfl⟩:=hj;refine⟨.int .u8 c.toNat,by grind,0,rfl,?_⟩;have:=c.toNat_lt
    simp only[Lit.wf,aiW,decide_eq_true_eq];have h1:IntKind.u8.min=0:=rfl
    have h2:IntKind.u8.max=255:=rfl
    omega
   ·intro u t;simp only[ajK]at t;obtain⟨c,_,rfl⟩:=t;rfl
  grind
 |.one (.c (.d (.li l))),hr=>
  simp only[jX,aiX]at hr;subst hr;obtain⟨ad,c,rfl,_,_,i⟩:=gG hx.2;rcases i with rfl|⟨b,o,e,k0,rfl,hel⟩
  ·exact⟨[],o9,fun k=>by simp[Cs],by simp⟩
  ·by_cases C:l.length=0
   ·have:l=[]:=by grind
    subst this;exact⟨[],o9,fun k=>by simp[Cs],by simp⟩
   have he:e=size:=by
    have h0:=(hel 0 kQ1).1
    grind
   subst he;have A:∀j,j<l.length*e->∃v,w.cell? ⟨b,o+j,none⟩=some v/\∀x,l.flatten[j]? = some x->FDx H x v:=by
    intro j hj;have s:0<e:=Nat.pos_of_ne_zero (fun h=>by grind)
    have hi:j / e<l.length:=by simp_all[Nat.div_lt_iff_lt_mul]
    obtain⟨y,h1,h2⟩:=(hel (j / e) hi).2 (j % e) (ak8 _ s);have r:j / e*e+j % e=j:=by grind [Nat.div_add_mod]
    refine⟨y,?_,fun x hx=>?_⟩
    ·have:=E.agree _ _ _ h1
     rw[Nat.add_assoc,r]at this;exact this
    ·rw[<- r,eA e l _ _ f hi (ak8 _ s)]at hx;rw[List.getD,hx]at h2;exact⟨k0,h2⟩
   obtain⟨ws,w1,w2⟩:=lx (p:=fun j v=>w.cell? ⟨b,o+j,none⟩=some v/\∀x,l.flatten[j]? = some x->FDx H x v) (l.length*e) A;refine⟨ws,vD w1 (fun j v hj=>(w2 j v hj).1),fun k=>?_,fun u t=>?_⟩
   ·grind [US]
   ·obtain⟨j,hj,rfl⟩:=akY.1 t;have n:j<l.flatten.length:=by omega
    have h1:=(w2 j _ (aiY hj)).2 _ (aiY n)
    refine OZ ?_ h1;have a:l.flatten[j]∈l.flatten:=ak6 n
    rw[List.mem_flatten]at a;obtain⟨y,hy,B⟩:=a;exact(q y hy).2 _ B
theorem ZC(h:RX g s a w H γ F){size:Nat}{x:AV}{s1:S}(hx:AR w H γ s.m x v)(hb:jp s size x=some (s1,sub,l)) :
  ∃k f F1,OD w H k (.ow sub) (.li l) f v/\RX g s1 a w H γ F1/\sub.length=size/\(∀b,tot F1 s1.m b+f b<=1)/\(∀b,f b≠0->b<w.heap.size/\(∀o,H b o=none)/\(g.own0 b≠0\/g.w0.heap.size<=b)):=by
 match x,hb with
 |.one (.c .nil),hb=>
  simp only[jp,aiX,Prod.mk.injEq]at hb;obtain⟨rfl,rfl,rfl⟩:=hb;obtain⟨_,rfl⟩:=hx;refine⟨1,fun _=>0,F,?_,h,by simp,fun b=>by have:=h.mem.le1 b;omega,fun b hb=>absurd rfl hb⟩
  grind [fq]
 |.one (.c (.rf q)),hb=>
  simp only[jp]at hb;cases j:aZ s.m q with
  |none=>grind
  |some t=>
   rw[j]at hb;cases t with
   |ow n l'=>
    dsimp only at hb;split at hb
    ·rename_i i;simp only[aiX,Prod.mk.injEq]at hb;obtain⟨rfl,rfl,rfl⟩:=hb;obtain⟨_,e,hv⟩:=hx;obtain⟨u,f,F',r,⟨k,p⟩,y,z⟩:=Il h (fC e) j;rw[hv]at r;obtain rfl:v=u:=by grind
     exact⟨k,f,F',p,y,i,fun b=>by rw[z];exact h.mem.le1 b,fun b hb=>by
      have d:tot F s.m b≠0:=by grind
      exact⟨h.mem.lt b d,h.mem.nofz b d,h.fr.tt b d⟩⟩
    grind
   |_=>grind
theorem Ml(h:RX g s a w H γ F){t tt:TypeId}{x y:Operand}{d:Tmp}(hd:okD g.nt (some d)=true)(hx:aH x=true)(hy:aH y=true)(j:qv P s t u x y d k) :
  ∃s' z w' H' γ' F',(Builtin.append_ #[t,u] tt #[a.eval x,a.eval y]).run P w=.ok z w'/\k s'/\RX g s' (a.put (some d) z) w' H' γ' F':=by
 unfold qv at j;dsimp only at j;obtain⟨H1,F1,h1⟩:=EB h (ev s y);generalize Js s (ev s y)=s1 at j h1;cases hk:(ty P t).k with
 |sl e=>
  rw[hk]at j;obtain⟨L,R,r,j⟩:=j;obtain⟨_,td,hit,O,K,_⟩:=aY hk (by simp);have:=oS K
  subst this;obtain⟨J,de,E,_,_,i,p,_⟩:=jE L;rw[i,p]at j;rw[i]at r;obtain⟨zs,X,r⟩:=ajF.1 r;obtain⟨Q,z,T,hz,ac,_⟩:=kh X;rw[E]at T;obtain rfl:J=Q:=by grind
  have C:z.cells.size=J.size:=by grind
  obtain⟨A,huu,hudd⟩:∃A,P.underlying u=some A/\isSS A=true:=by
   have Z:(ty P u).k≠.ot:=fun e=>by grind [TK.isSS]
   obtain⟨_,A,_,h2,h3,_⟩:=aY rfl Z;refine⟨A,h2,?_⟩;rw[<- h3]at R;cases A<;>first|rfl|grind [gA,TK.isSS]
  cases G:jX J.size (ev s1 y)with
  |none=>grind
  |some ys=>
   cases B:jp s1 J.size (ev s1 x)with
   |none=>grind
   |some q=>
    obtain⟨s2,sub,l⟩:=q;rw[G,B]at j;obtain⟨V,c,D,N,j⟩:=j;obtain⟨ws,r1,r2,r3⟩:=agR (P:=P) h1.mem (aL h1 hy) G c;obtain⟨kb,f,I,b1,b2,b3,b4,b5⟩:=ZC h1 (aL h1 hx) B;have aa:=adK V
    obtain⟨z',w',f',c1,⟨k',c2⟩,c3,c4,c5,c6,c7,c8,c9⟩:=Bm (tt:=tt) O huu hudd E hz C (gx:=fun _=>0) (kx:=0) b3 b1 r1 (fun y hy=>by rw[b3];exact(c y hy).1)
     (by grind [K7]) r3 (fun b=>by grind) (fun b hb=>by grind) D N
    have hX:=o7 b2 c3 c4 c5 c6 (fun b hb=>by
     grind)
    have M:=cW hX (.gh d)
    have hn:=cC hX (.gh d)
    have W:∀b,w.heap.size<=b->∀o,H1 b o=none:=by
     intro b hb o;cases hc:H1 b o with
     |none=>rfl
     |some y=>have:=(h1.mem.agree _ _ _ hc).lt;omega
    have ad:∀b,tot I (s2.fresh (.gh d)).m b<=tot I s2.m b:=by
     intro b;unfold S.fresh;split
     ·omega
     ·show tot I (aP _ _) b<=_
      rw[bu];exact gC
    have ab:tot I s2.m w.heap.size=0:=by
     rcases ajZ (tot I s2.m w.heap.size)with h'|h'
     ·exact h'
     ·have:=b2.mem.lt w.heap.size kQ1;omega
    obtain⟨γ',F',U,Y⟩:=dQ M (n:=.gh d) rfl hn (v:=z') (t:=.ow sub (l++ys)) (f:=f') ⟨k',c2⟩ (fun b=>by
      grind)
     (fun b hb=>⟨c9 b hb,by
      grind⟩)
     (fun b hb=>by
      have h5:=c8 b
      by_cases ae:b=w.heap.size
      ·right;have:=b2.fr.size;omega
      grind)
    refine⟨_,z',w',H1,γ',F',c1,j,RX.put U hd (ij (sub:=sub) (l:=l++ys) ?_ Y)⟩;simp[af]
 |_=>grind
end
end Go.Am
end
