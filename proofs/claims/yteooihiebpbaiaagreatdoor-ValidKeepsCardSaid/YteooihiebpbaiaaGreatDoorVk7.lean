/-
  Part 7: AmAppRun · AmFreeze · AmBox · AmAppend · AmAppendOp.
-/
import Derived.Test.YteooihiebpbaiaaGreatDoorVk6
import Derived.Laws.Append
import Derived.Laws.CopyRow
import Derived.Laws.AppendOwn
set_option linter.unusedSimpArgs false
set_option linter.unusedVariables false
set_option linter.unusedSectionVars false
set_option linter.unnecessarySimpa false
section
namespace Go.Am
def isSS:TypeDesc->Bool
 |.slice _=>true
 |.string=>true
 |_=>false
theorem lH{d:TypeDesc}(h:isSS d=true):(∃e,d=.slice e)\/d=.string:=by
 cases d<;>simp[isSS]at h⊢
section
variable {P:Program} {w:World}
structure Src (P:Program) (w:World) (size:Nat) (x:Value) (n:Nat) (ws:List Value):Prop where
 len:∀w',(Builtin.lenOf x).run P w'=.ok n w'
 cells:∀w':World,w'.heap=w.heap->(Builtin.firstCells size n x).run P w'=.ok ws.toArray w'
 size:ws.length=n*size
theorem qX{size n c:Nat}{b o:Nat}{ws:List Value}(hl:ws.length=n*size)(h:N5 w b o ws):Src P w size (.slice (some ⟨b,o,none⟩) n c) n ws:=by
 refine⟨fun _=>rfl,fun w' hw=>?_,hl⟩;refine run_firstCells_some w' size n _ n c ws hl (fun j v hv=>?_);rw[cH];exact(b9 (by rw[hw])).trans (h j v hv)
theorem mh{size c:Nat}{a:Option Addr}:Src P w size (.slice a 0 c) 0 []:=by
 refine⟨fun _=>rfl,fun w' _=>?_,by simp⟩;cases a with
 |none=>rfl
 |some a=>simp only[Builtin.firstCells,Nat.zero_mul];rfl
theorem Qr{l:List UInt8}:Src P w 1 (.string ⟨l.toArray⟩) l.length (l.map fun b=>.int .u8 b.toNat):=by
 have hs:(⟨l.toArray⟩:ByteArray).size=l.length:=by show l.toArray.size=_;simp
 refine⟨fun w'=>?_,fun w' _=>?_,by simp⟩
 ·simp only[Builtin.lenOf,Sem.run_pure];rw[hs]
 ·simp only[Builtin.firstCells,Sem.run_pure]
  congr 1
  apply Array.ext'
  have e:((⟨l.toArray⟩:ByteArray).extract 0 l.length).data=l.toArray:=by
   simp[ByteArray.data_extract]
  rw[e];simp
theorem Bv{t u tt e:TypeId}{d:TypeDesc}{i:TypeInfo}{x:Value}{ws:List Value}(ht:P.underlying t=some (.slice e))(hu:P.underlying u=some d)(hd:isSS d=true)(hi:P.info? e=some i)
  {a:Option Addr} {n c m:Nat} (hx:Src P w i.size x m ws) (hroom:n+m<=c) (hw:ws=[]\/a=none) :
  (Builtin.append_ #[t,u] tt #[.slice a n c,x]).run P w=.ok (.slice a (n+m) c) w:=by
 have h1:=hx.len w
 have h2:=hx.cells w rfl
 cases a with
 |none=>
  rcases lH hd with⟨e',rfl⟩|rfl
  all_goals simp[Builtin.append_,run_underlying ht,run_underlying hu,sizeOf,typeInfo,hi,h1,h2,hroom]
 |some a=>
  have:ws=[]:=by rcases hw with h|h;exact h;simp at h
  subst this;rcases lH hd with⟨e',rfl⟩|rfl
  all_goals simp[Builtin.append_,run_underlying ht,run_underlying hu,sizeOf,typeInfo,hi,h1,h2,hroom,storeCells]
theorem Kl{t u tt e:TypeId}{d:TypeDesc}{i:TypeInfo}{x:Value}{ws:List Value}(ht:P.underlying t=some (.slice e))(hu:P.underlying u=some d)(hd:isSS d=true)(hi:P.info? e=some i)
  {g n c m:Nat} {cur:Array Value} {ty':TypeId} (hg:w.heap[g]? = some (.cells cur ty' (0,0))) (hx:Src P w i.size x m ws) (h1':∀v∈ws,v.oneCell'=true) (hroom:n+m<=c) (hfit:n*i.size+ws.length<=cur.size) :
  (Builtin.append_ #[t,u] tt #[.slice (some ⟨g,0,none⟩) n c,x]).run P w =
   .ok (.slice (some ⟨g,0,none⟩) (n+m) c) (w.setRow g (cur.toList.take (n*i.size)++ws++cur.toList.drop (n*i.size+ws.length)).toArray):=by
 have h1:=hx.len w
 have h2:=hx.cells w rfl
 have hst:=run_storeCells_at P g (n*i.size) ty' ws 0 cur w hg (by simpa using hfit) h1'
 simp only[Yn]at hst;rcases lH hd with⟨e',rfl⟩|rfl
 all_goals simp[Builtin.append_,run_underlying ht,run_underlying hu,sizeOf,typeInfo,hi,h1,h2,hroom,Addr.add_lit,hst]
theorem Bu{t u tt e:TypeId}{d:TypeDesc}{i:TypeInfo}{z:Value}{x:Value}{ws olds:List Value}(ht:P.underlying t=some (.slice e))(hu:P.underlying u=some d)(hd:isSS d=true)(hi:P.info? e=some i)
  (hz:i.zero=some z) {a:Option Addr} {n c m:Nat} (hx:Src P w i.size x m ws) (ho:Src P w i.size (.slice a n c) n olds) (hg:c<n+m) (h63:((n+m:Nat):Int)<=9223372036854775807) (hb:(n+m)*i.bytes<=140737488355328) :
  (Builtin.append_ #[t,u] tt #[.slice a n c,x]).run P w =
   .ok (.slice (some ⟨w.heap.size,0,none⟩) (n+m) (grownCap w (n+m) c e))
    (w.drew.alloc (.cells ((olds++ws).toArray++Builtin.zeroCells z.cells (grownCap w (n+m) c e - (n+m))) e)):=by
 have h1:=hx.len w
 have h2:=hx.cells w.drew rfl
 have h3:=ho.cells w.drew rfl
 have hn:¬ (n+m<=c):=by omega
 have h63':¬ (9223372036854775807 < ((n:Int)+(m:Int))):=by omega
 have h48:¬ (281474976710656<Builtin.nextslicecap (n+m) c*i.bytes):=by have:=growslice_fits hg hb;omega
 rcases lH hd with⟨e',rfl⟩|rfl
 all_goals simp[Builtin.append_,run_underlying ht,run_underlying hu,sizeOf,typeInfo,zeroValue,hi,hz,h1,h2,h3,hn,h63',h48,Question.forced,newRow,grownCap]
 all_goals rw[<- List.append_toArray olds ws,Array.append_assoc]
theorem Cj{need old:Nat}{e:TypeId}:need<=grownCap w need old e:=by
 unfold grownCap Question.cut;dsimp only;omega
end
def AV1.map(f:T->T):AV1->AV1
 |.c t=>.c (f t)
 |.agg ts=>.agg (ts.map f)
def AV.map(f:T->T):AV->AV
 |.one x=>.one (x.map f)
 |.tup xs=>.tup (xs.map (·.map f))
 |.any=>.any
def oY(f:AV->AV)(t:List (Nat×AV)):List (Nat×AV):=t.map fun x=>(x.1,f x.2)
theorem nD{f:AV->AV}(hf:f .any=.any):∀(t:List (Nat×AV))(i:Nat),aL (oY f t) i=f (aL t i)
 |[],i=>hf.symm
 |(k,v)::t,i=>by
  simp only[oY,List.map_cons,aL];split
  ·rfl
  ·exact nD hf t i
theorem Qe{w w':World}{H H':FH}{γ γ':Gam}{m m':Mm}{f:T->T}(hf:∀t y,TR w H γ m t (fun _=>0) y->TR w' H' γ' m' (f t) (fun _=>0) y) :
  ∀{ts:List T}{g:Fp}{vs:List Value},(∀b,g b=0)->Ts (TR w H γ m) ts g vs->Ts (TR w' H' γ' m') (ts.map f) g vs:=by
 intro ts g vs hg h;unfold Ts;rw[WJ];refine Ed (fun _ t k y hk ht=>?_) h;have:k=fun _=>0:=by funext b;have:=hk b;have:=hg b;omega
 subst this;exact hf t y ht
theorem GS{w w':World}{H H':FH}{γ γ':Gam}{m m':Mm}{f:T->T}(hf:∀t y,TR w H γ m t (fun _=>0) y->TR w' H' γ' m' (f t) (fun _=>0) y)
  {x:AV1} {y:Value} (h:AR1 w H γ m x y):AR1 w' H' γ' m' (x.map f) y:=by
 cases x with
 |c t=>exact hf t y h
 |agg ts=>obtain⟨cs,h1,h2,h3⟩:=h;exact⟨cs,h1,by rw[WJ];exact h2,Qe hf (fun _=>rfl) h3⟩
theorem GU{w w':World}{H H':FH}{γ γ':Gam}{m m':Mm}{f:T->T}(hf:∀t y,TR w H γ m t (fun _=>0) y->TR w' H' γ' m' (f t) (fun _=>0) y) :
  ∀{xs:List AV1}{ys:List Value},ARs w H γ m xs ys->ARs w' H' γ' m' (xs.map (·.map f)) ys
 |[],[],_=>trivial
 |_::_,_::_,h=>⟨GS hf h.1,GU hf h.2⟩
 |[],_::_,h=>h.elim
 |_::_,[],h=>h.elim
theorem dW{w w':World}{H H':FH}{γ γ':Gam}{m m':Mm}{f:T->T}(hf:∀t y,TR w H γ m t (fun _=>0) y->TR w' H' γ' m' (f t) (fun _=>0) y)
  {x:AV} {y:Value} (h:AR w H γ m x y):AR w' H' γ' m' (x.map f) y:=by
 cases x with
 |one x=>exact GS hf h
 |tup xs=>obtain⟨l,h1,h2⟩:=h;exact⟨l,h1,GU hf h2⟩
 |any=>trivial
def T.frz(q:Pl)(l:List (List D)):T->T
 |.rf p=>match p with
  |⟨n,o,[]⟩=>if n=q.root/\o=q.off then .d (.li l)else(T.rf ⟨n,o,[]⟩).kill (thr q)
  |p=>(T.rf p).kill (thr q)
 |t=>t.kill (thr q)
def Cc(m:Mm)(q:Pl)(l:List (List D)):Mm:=aZ (aC (thr q) (aZ m q .any)) q (.d (.li l))
def Ce(s:S)(q:Pl):S:=
 match q.path,aQ s.m q with
 |[],some (.ow _ l)=>⟨oY (AV.map (T.frz q l)) s.t,Cc s.m q l⟩
 |_,_=>s
theorem Eh{w:World}{H:FH}{γ:Gam}{m:Mm}{F:Nm->Fp}(hm:Mem w H γ m F){n:Nm}{off:Nat}(hg:aQ m ⟨n,off,[]⟩=some .any){v:Value}(hv:aq w (γ n) off=some v){x:D}(hx:FDx H x v) :
  Mem w H γ (aZ m ⟨n,off,[]⟩ (.d x)) F/\Keeps w γ m w γ (aZ m ⟨n,off,[]⟩ (.d x)):=by
 unfold aQ at hg;cases hr:ab m n with
 |none=>rw[hr]at hg;simp at hg
 |some r=>
  rw[hr]at hg;dsimp only at hg;have hlt:=ah hg
  have e:aZ m ⟨n,off,[]⟩ (.d x)=bE m n { r with cells:=r.cells.set off (.d x) }:=by simp only[aZ,hr]
  have hgr:∀k,ab (aZ m ⟨n,off,[]⟩ (.d x)) k=if n=k then some { r with cells:=r.cells.set off (.d x) }else ab m k:=fun k=>by rw[e];exact dP hr
  have hK:Keeps w γ m w γ (aZ m ⟨n,off,[]⟩ (.d x)):=by
   constructor
   ·intro q hq;refine⟨?_,rfl⟩;rw[ap]at hq⊢;rw[hgr];obtain⟨r',h1,h2⟩:=hq;by_cases hn:n=q.root
    ·rw[if_pos hn];rw[<- hn,hr]at h1;obtain rfl:r=r':=by simpa using h1
     refine⟨_,rfl,?_⟩;obtain⟨qn,qo,qp⟩:=q;dsimp only[aF]at h2⊢;cases qp with
     |nil=>simpa[aF]using h2
     |cons st u=>
      simp only[aF]at h2⊢;by_cases ho:off=qo
      ·subst ho;rw[hg]at h2;exact h2.elim
      ·rw[W2 ho];exact h2
    ·rw[if_neg hn];exact⟨r',h1,h2⟩
   ·intro q hq;refine⟨?_,rfl⟩;rw[bx]at hq⊢;rw[hgr];obtain⟨r',h1,h2⟩:=hq;by_cases hn:n=q.root
    ·rw[if_pos hn];rw[<- hn,hr]at h1;obtain rfl:r=r':=by simpa using h1
     refine⟨_,rfl,?_⟩;dsimp only[bf]at h2⊢;by_cases ho:off=q.off
     ·rw[ho]at hg;rw[hg]at h2;cases q.path<;>exact h2.elim
     ·rw[W2 ho];exact h2
    ·rw[if_neg hn];exact⟨r',h1,h2⟩
  refine⟨⟨hm.agree,?_,?_,?_,?_,?_⟩,hK⟩
  ·intro y hy;rw[e]at hy;rcases mJ hm.keys hy with⟨_,hy⟩|rfl
   ·exact aN hK (fun _ _ _ h=>h) rfl (fun _ _=>rfl) (hm.roots y hy)
   ·have hroot:=hm.roots _ (ae hr)
    dsimp only at hroot⊢;have hroot:=aN hK (fun _ _ _ h=>h) rfl (fun _ _=>rfl) hroot
    unfold a8 at hroot⊢;dsimp only;split at hroot
    ·rename_i hb;rw[if_pos hb];obtain⟨b,cs,ty,fz,g,h1,h2,h3,h4,h5,h6⟩:=hroot;refine⟨b,cs,ty,fz,g,h1,h2,h3,by rw[List.length_set];exact h4,?_,h6⟩;unfold Ts at h5⊢;rw[List.length_set];obtain⟨s0,t0,v0,fk,fr,a1,a2,a3,a4,a5,a6,_⟩:=bW _ _ _ _ off h5 hlt;rw[hg]at a2;obtain rfl:T.any=t0:=by simpa using a2
     have hvv:v0=v:=by
      rw[h1]at hv;simp only[aq,World.cell?,h2]at hv;have:cs[off]? = some v0:=by simpa using a3
      simp[this]at hv;exact hv
     subst hvv;have h0:∀b,fk b=0:=a5
     have:=a6 (fun(_:Unit) t=>TR w H γ (aZ m ⟨n,off,[]⟩ (.d x)) t) (.d x) v0 (fun _=>0) (fun _ _ _ _ _ h=>h) ⟨fun _=>rfl,hx⟩
     rw[kY a3]at this;exact kf (fun b=>by have:=a4 b;have:=h0 b;(try dsimp only);omega) this
    ·rename_i hb;rw[if_neg hb];obtain⟨v',t,h1,h2,h3⟩:=hroot;rw[h2]at hg hlt;have:off=0:=by simpa using hlt
     subst this;obtain rfl:t=.any:=by simpa using hg
     rw[h1]at hv;simp only[aq,if_true,WG]at hv;subst hv;exact⟨v',.d x,h1,by rw[h2];rfl,h3,hx⟩
  ·rw[e,kC];exact hm.keys
  ·intro b;rw[e,cC];exact hm.le1 b
  ·intro b hb;rw[e,cC]at hb;exact hm.lt b hb
  ·intro b hb;rw[e,cC]at hb;exact hm.nofz b hb
section
variable {P:Program} {g:G} {s:S} {a:Act} {w:World} {H:FH} {γ:Gam} {F:Nm->Fp}
theorem Ek(h:RX g s a w H γ F)(q:Pl):∃H' F',RX g (Ce s q) a w H' γ F':=by
 unfold Ce;obtain⟨n,off,path⟩:=q;cases path with
 |cons st u=>exact⟨H,F,h⟩
 |nil=>
  dsimp only;cases hg:aQ s.m ⟨n,off,[]⟩with
  |none=>exact⟨H,F,h⟩
  |some t=>
   cases t with
   |ow sub l=>
    dsimp only;have hok:bD s.m ⟨n,off,[]⟩:=by
     unfold aQ at hg;rw[ap];cases hr:ab s.m n with
     |none=>rw[hr]at hg;simp at hg
     |some r=>rw[hr]at hg;exact⟨r,rfl,ah hg⟩
    obtain⟨f,v,t1,t2,t3,t4,t5⟩:=t8 h.mem hok hg
    let H':FH:=fun b o=>if f b≠0 then(w.cell? ⟨b,o,none⟩).map HV.c else H b o
    have hH:∀b o y,H b o=some y->H' b o=some y:=by
     intro b o y hy;simp only[H'];split
     ·rename_i e;rw[h.mem.nofz b (by have:=t4 b;omega) o]at hy;cases hy
     ·exact hy
    have hag:∀b o y,H' b o=some y->RdV w b o y:=by
     intro b o y hy;simp only[H']at hy;split at hy
     ·obtain⟨z,hz,rfl⟩:=WW.1 hy;exact hz
     ·exact h.mem.agree b o y hy
    have hm1:=t5 H' hH hag (fun b hb o=>by
     have h1:=t4 b;have h2:=h.mem.le1 b
     simp only[H'];rw[if_neg Z1];exact h.mem.nofz b Z1 o)
    have hx:FDx H' (.li l) v:=by
     obtain⟨k,hod⟩:=t2;exact M3 hH k _ _ _ _ hod (fun b hb o z hz=>by simp only[H'];rw[if_pos hb,hz];rfl)
    have hany:aQ (aC (thr ⟨n,off,[]⟩) (aZ s.m ⟨n,off,[]⟩ .any)) ⟨n,off,[]⟩=some .any:=by
     obtain⟨r,hr,hlt⟩:=ap.1 hok;dsimp only[aF]at hr hlt;unfold aQ;rw[iR,uY (t:=T.any) hr];simp only[if_true,Option.map_some,WK];rw[W5 hlt];rfl
    have hv:aq w (γ n) off=some v:=t1
    obtain⟨hm2,hK2⟩:=Eh hm1 hany hv hx;have hKB:=me h.mem hok
    refine⟨H',_,⟨hm2,?_,h.nt,h.df,fun i=>?_⟩⟩
    ·have htot:∀b,tot (fun k b=>F k b-if k=n then f b else 0) (Cc s.m ⟨n,off,[]⟩ l) b=tot (fun k b=>F k b-if k=n then f b else 0) s.m b:=by
      intro b;obtain⟨r,hr,_⟩:=ap.1 hok;unfold Cc;have e1:∀(m:Mm)(p:Pl)(t:T)(F:Nm->Fp),tot F (aZ m p t) b=tot F m b:=by
       intro m p t F;unfold aZ;cases ab m p.root with
       |none=>rfl
       |some r=>dsimp only;rw[cC]
      rw[e1,aV,e1]
     refine⟨h.fr.size,h.fr.os,h.fr.tape,h.fr.output,h.fr.block,fun b o y hy=>hH _ _ _ (h.fr.hold b o y hy),fun b o h1 h2=>?_,fun b hb=>?_,h.fr.nz.1,fun b o x l' c h1 h2=>?_⟩
     rotate_left 2
     ·by_cases hb:f b=0
      ·simp only[H']at h1;rw[if_neg Z1]at h1;exact h.fr.nz.2 b o x l' c h1 h2
      ·obtain⟨k,hod⟩:=t2;exact Ix k _ _ _ _ hod b hb
     ·by_cases hb:f b=0
      ·simp only[H']at h1;rw[if_neg Z1]at h1;exact h.fr.hnew b o h1 h2
      ·exact h.fr.tt b (by have:=t4 b;omega)
     ·have hb':=htot b
      have h4:=t4 b
      dsimp only at h4 hb';have hb2:tot (fun k b=>F k b-if k=n then f b else 0) (Cc s.m ⟨n,off,[]⟩ l) b≠0:=hb
      refine h.fr.tt b ?_;omega
    ·show AR w H' γ _ (aL (oY _ s.t) i) _
     rw[nD rfl];refine dW (fun t y ht=>?_) (h.t i);have hk:=fun(t:T) (ht:TR w H γ s.m t (fun _=>0) y)=>gy hK2 (fun _ _ _ h=>h) (fun _ hb=>absurd rfl hb) (np hKB hH (fun _ hb=>absurd rfl hb) ht)
     cases t with
     |rf p=>
      obtain⟨pn,po,pp⟩:=p;cases pp with
      |nil=>
       simp only[T.frz];split
       ·rename_i hc;obtain⟨rfl,rfl⟩:=hc;obtain⟨_,_,hv'⟩:=ht;have:y=v:=by
         have h1:plV w γ ⟨pn,po,[]⟩=some v:=t1
         rw[h1]at hv';simpa using hv'.symm
        subst this;exact⟨fun _=>rfl,hx⟩
       ·exact hk _ ht
      |cons st u=>exact hk _ ht
     |_=>exact hk _ ht
   |_=>exact⟨H,F,h⟩
def Oq(s:S):T->S
 |.rf p=>Ce s p
 |_=>s
def xZ:S->List T->S
 |s,[]=>s
 |s,t::ts=>xZ (Oq s t) ts
def Cf(s:S):AV->S
 |.one (.c t)=>Oq s t
 |.one (.agg ts)=>xZ s ts
 |_=>s
def iQ(s:S):List AV->S
 |[]=>s
 |v::vs=>iQ (Cf s v) vs
theorem Iy(h:RX g s a w H γ F)(t:T):∃H' F',RX g (Oq s t) a w H' γ F':=by
 cases t with
 |rf p=>exact Ek h p
 |_=>exact⟨H,F,h⟩
theorem Bb:∀(ts:List T)(s:S)(H:FH)(F:Nm->Fp),RX g s a w H γ F->∃H' F',RX g (xZ s ts) a w H' γ F'
 |[],s,H,F,h=>⟨H,F,h⟩
 |t::ts,s,H,F,h=>by
  obtain⟨H1,F1,h1⟩:=Iy h t;exact Bb ts _ H1 F1 h1
theorem yN(h:RX g s a w H γ F)(v:AV):∃H' F',RX g (Cf s v) a w H' γ F':=by
 unfold Cf;split
 ·exact Iy h _
 ·exact Bb _ _ _ _ h
 ·exact⟨H,F,h⟩
theorem km:∀(vs:List AV)(s:S)(H:FH)(F:Nm->Fp),RX g s a w H γ F->∃H' F',RX g (iQ s vs) a w H' γ F'
 |[],s,H,F,h=>⟨H,F,h⟩
 |v::vs,s,H,F,h=>by
  obtain⟨H1,F1,h1⟩:=yN h v;exact km vs _ H1 F1 h1
end
def S.fresh(s:S)(n:Nm):S:=match ab s.m n with
 |none=>s
 |some _=>s.drop n
def S.root(s:S)(n:Nm)(r:Root):S:=⟨s.t,(n,r)::s.m⟩
def zcells(P:Program)(t:TypeId):Option (List Value):=
 match P.info? t with
 |some it=>match it.zero with
  |some z=>if z.cells.all okT=true then some z.cells.toList else none
  |none=>none
 |none=>none
def T.fz:T->D
 |.d x=>x
 |.nil=>.li []
 |_=>.any
def chunk{α:Type}(size:Nat):Nat->List α->List (List α)
 |0,_=>[]
 |n+1,l=>l.take size::chunk size n (l.drop size)
theorem lx{α:Type}{size:Nat}:∀{n:Nat}{l:List α},(chunk size n l).length=n
 |0,_=>rfl
 |n+1,l=>by simp only[chunk,WL,lx]
theorem oN{α:Type}{size:Nat}:∀{n:Nat}{l:List α},l.length=n*size->(chunk size n l).flatten=l
 |0,l,h=>by
  have:l=[]:=by simpa using h
  subst this;rfl
 |n+1,l,h=>by
  rw[XH]at h;simp only[chunk,XS];rw[oN (by simp;omega),XX]
theorem rm{α:Type}{size:Nat}:∀{n:Nat}{l:List α},l.length=n*size->∀x∈chunk size n l,x.length=size
 |0,l,h,x,hx=>by simp[chunk]at hx
 |n+1,l,h,x,hx=>by
  rw[XH]at h;simp only[chunk,WR]at hx;rcases hx with rfl|hx
  ·simp;omega
  ·exact rm (by simp;omega) x hx
theorem nM{m:Mm}{n:Nm}(hk:(m.map (·.1)).Nodup):n ∉ (bz m n).map (·.1):=by
 induction m with
 |nil=>simp[bz]
 |cons y m ih=>
  obtain⟨j,z⟩:=y;simp only[List.map_cons,Xl]at hk;simp only[bz];split
  ·rename_i e;subst e;exact hk.1
  ·rename_i e;simp only[List.map_cons,WR,not_or];exact⟨fun h=>e h.symm,ih hk.2⟩
section
variable {P:Program} {g:G} {s:S} {a:Act} {w:World} {H:FH} {γ:Gam} {F:Nm->Fp}
theorem bX(h:RX g s a w H γ F)(n:Nm):RX g (s.fresh n) a w H γ F:=by
 unfold S.fresh;split
 ·exact h
 ·exact pE h n
theorem bH(h:RX g s a w H γ F)(n:Nm):ab (s.fresh n).m n=none:=by
 unfold S.fresh;split
 ·assumption
 ·show ab (aC (aX n) (bz s.m n)) n=none
  rw[iR];have:ab (bz s.m n) n=none:=nC.2 (nM h.mem.keys)
  rw[this];rfl
theorem iG{t:TypeId}{zs:List Value}(h:zcells P t=some zs):∃it z,P.info? t=some it/\it.zero=some z/\z.cells.toList=zs/\zs.all okT=true:=by
 unfold zcells at h;cases hi:P.info? t with
 |none=>rw[hi]at h;simp at h
 |some it=>
  rw[hi]at h;dsimp only at h;cases hz:it.zero with
  |none=>rw[hz]at h;simp at h
  |some z=>
   rw[hz]at h;dsimp only at h;split at h
   ·rename_i hc;simp only[WG]at h;exact⟨it,z,rfl,hz,h,by rw[<- h];simpa using hc⟩
   ·simp at h
theorem L3{t:TypeId}{it:TypeInfo}{z:Value}(hi:P.info? t=some it)(hz:it.zero=some z) :
  (Instr.alloc t true (.tuple #[])).run P w=.ok (.pointer (some ⟨w.heap.size,0,none⟩)) (w.alloc (.cells z.cells t)):=by
 simp[Instr.alloc,zeroValue,typeInfo,hi,hz,newVar,newRow]
theorem SA{t:TypeId}{v:Value}:(Instr.box t v).run P w=.ok (.pointer (some ⟨w.heap.size,0,none⟩)) (w.alloc (.cells v.cells t)):=by
 simp[Instr.box,newVar,newRow]
theorem Nf(h:RX g s a w H γ F){n:Nm}(hno:n.isOut=false){ts:List T}{cs:Array Value}(hl:cs.size=ts.length)(hts:Ts (TR w H γ (s.fresh n).m) ts (fun _=>0) cs.toList)(ty:TypeId)(hty:∀t,n.tyd=some t->ty=t){d:Option Tmp}(hd:okD g.nt d=true)(hne:ts≠[]) :
  ∃γ' F',RX g (((s.fresh n).root n ⟨true,ts⟩).put d (.one (.c (.pl ⟨n,0,[]⟩)))) (a.put d (.pointer (some ⟨w.heap.size,0,none⟩))) (w.alloc (.cells cs ty)) H γ' F':=by
 obtain⟨γ',F',h1,h2⟩:=M5 (bX h n) hno (bH h n) hl hts ty hty;refine⟨γ',F',RX.put h1 hd ⟨fun _=>rfl,?_,⟨w.heap.size,0,none⟩,?_,rfl⟩⟩
 ·rw[ap];refine⟨⟨true,ts⟩,by simp[ab],?_⟩;show 0<ts.length
  cases ts with
  |nil=>exact absurd rfl hne
  |cons _ _=>simp
 ·show(match γ' n with|.blk b=>some (⟨b,0,none⟩:Addr)|.gh _=>none)=_
  rw[h2]
def jf(t:Nat)(d:Nat):Nm:=if t=999999 then .loc (999999*1000000+d)else .loc d
theorem O0{t:Nat}{d:Nat}:(jf t d).isOut=false:=by unfold jf;split<;>rfl
theorem RW{t:Nat}{d:Nat}(hd:d < 1000000):∀u,(jf t d).tyd=some u->t=u:=by
 intro u h;unfold jf at h;split at h
 ·rename_i e;subst e;simp only[Nm.tyd]at h;rw[if_neg Z1]at h;have e:(999999*1000000+d) / 1000000=999999:=by omega
  rw[e]at h;exact Option.some.inj h
 ·simp only[Nm.tyd]at h;rw[if_pos hd]at h;cases h
def qY(P:Program)(s:S)(t:TypeId)(d:Tmp)(k:S->Prop):Prop:=
 match zcells P t with
 |some zs=>zs≠[]/\d < 1000000/\k (((s.fresh (jf t d)).root (jf t d) ⟨true,zs.map nW⟩).put (some d) (.one (.c (.pl ⟨jf t d,0,[]⟩))))
 |none=>False
theorem Kd(h:RX g s a w H γ F){t:TypeId}{d:Tmp}{k:S->Prop}(hd:okD g.nt (some d)=true)(hK:qY P s t d k) :
  ∃s' y w' γ' F',(Instr.alloc t true (.tuple #[])).run P w=.ok y w'/\k s'/\RX g s' (a.put (some d) y) w' H γ' F':=by
 unfold qY at hK;cases hz:zcells P t with
 |none=>rw[hz]at hK;exact hK.elim
 |some zs=>
  rw[hz]at hK;obtain⟨hne,hd6,hK⟩:=hK;obtain⟨it,z,h1,h2,h3,h4⟩:=iG hz;obtain⟨γ',F',hX⟩:=Nf h (n:=jf t d) O0 (ts:=zs.map nW) (cs:=z.cells) (by rw[WJ,<- h3];simp) (by rw[h3];exact ui h4) t (RW hd6) hd (by simpa using hne);exact⟨_,_,_,γ',F',L3 h1 h2,hK,hX⟩
def Kq(s:S)(x:Operand)(d:Tmp)(k:S->Prop):Prop:=
 match dx (ev (s.fresh (.loc d)) x)with
 |some ts=>ts≠[]/\ts.all T.sure=true/\d < 1000000/\k (((s.fresh (.loc d)).root (.loc d) ⟨true,ts⟩).put (some d) (.one (.c (.pl ⟨.loc d,0,[]⟩))))
 |none=>False
theorem QH(h:RX g s a w H γ F){t:TypeId}{x:Operand}{d:Tmp}{k:S->Prop}(hd:okD g.nt (some d)=true)(hx:ax x=true)(hK:Kq s x d k) :
  ∃s' y w' H' γ' F',(Instr.box t (a.eval x)).run P w=.ok y w'/\k s'/\RX g s' (a.put (some d) y) w' H' γ' F':=by
 unfold Kq at hK;have h':=bX h (.loc d)
 have hv:=aA h' hx
 cases hz:dx (ev (s.fresh (.loc d)) x)with
 |none=>rw[hz]at hK;exact hK.elim
 |some ts=>
  rw[hz]at hK;obtain⟨hne,hs,hd6,hK⟩:=hK;obtain⟨c1,c2⟩:=tM h'.mem hv hz hs;obtain⟨γ',F',hX⟩:=Nf h (n:=.loc d) rfl (ts:=ts) (cs:=(a.eval x).cells) c1 c2 t (fun u hu=>by simp only[Nm.tyd]at hu;rw[if_pos hd6]at hu;cases hu) hd hne;exact⟨_,_,_,H,γ',F',SA,hK,hX⟩
theorem Ks{m:Mm}(hm:Mem w H γ m F){t:TypeId}{parts:List (Nat×AV)}{vs:Array (Nat×Value)}{k:AV->Prop}(h:oJ P t parts k)(hp:PR w H γ m parts vs.toList) :
  ∃z d,(∀w:World,(Instr.build t vs).run P w=.ok z w)/\AR w H γ m d z/\k d:=by
 unfold oJ at h;cases hz:zst P t with
 |none=>rw[hz]at h;exact h.elim
 |some q=>
  obtain⟨zs,places⟩:=q;rw[hz]at h;dsimp only at h;cases hf:ic (places[·]?) (zs.map nW) parts with
  |none=>rw[hf]at h;exact h.elim
  |some ts=>
   rw[hf]at h;unfold zst at hz;cases hi:P.info? t with
   |none=>rw[hi]at hz;simp at hz
   |some it=>
    rw[hi]at hz;cases hu:P.underlying t with
    |none=>rw[hu]at hz;simp at hz
    |some td=>
     rw[hu]at hz;cases td with
     |struct fields=>
      dsimp only at hz;cases hzz:it.zero with
      |none=>rw[hzz]at hz;simp at hz
      |some z=>
       cases hpl:fields.toList.mapM (fun f=>(P.info? f.type).map fun i=>(f.offset,i.size))with
       |none=>rw[hzz,hpl]at hz;simp at hz
       |some pl=>
        rw[hzz,hpl]at hz;dsimp only at hz;split at hz
        ·rename_i hall;simp only[WG,Prod.mk.injEq]at hz;obtain⟨rfl,rfl⟩:=hz;have hall':z.cells.toList.all okT=true:=by simpa using hall
         obtain⟨us',e1,e2,e3⟩:=tx hm parts vs.toList (z.cells.toList.map nW) z.cells ts hp (by simp) (ui hall') hf;refine⟨.agg us',.one (.agg ts),fun w=>run_build w t vs us' ?_,⟨us',rfl,e2,e3⟩,h⟩;unfold Program.built;rw[hi,hu];dsimp only;rw[hzz,hpl];dsimp only;simpa using e1
        ·simp at hz
     |array N e=>
      dsimp only at hz;cases hzz:it.zero with
      |none=>rw[hzz]at hz;simp at hz
      |some z=>
       cases hie:P.info? e with
       |none=>rw[hzz,hie]at hz;simp at hz
       |some ie=>
        rw[hzz,hie]at hz;dsimp only at hz;split at hz
        ·rename_i hall;simp only[WG,Prod.mk.injEq]at hz;obtain⟨rfl,rfl⟩:=hz;have hall':z.cells.toList.all okT=true:=by simpa using hall
         obtain⟨us',e1,e2,e3⟩:=tx hm parts vs.toList (z.cells.toList.map nW) z.cells ts hp (by simp) (ui hall') hf;refine⟨.agg us',.one (.agg ts),fun w=>run_build w t vs us' ?_,⟨us',rfl,e2,e3⟩,h⟩;unfold Program.built;rw[hi,hu];dsimp only;rw[hzz,hie];dsimp only;refine xS (fun i q hq=>?_) e1;rw[WK,WW]at hq;obtain⟨j,hj,rfl⟩:=hq;obtain⟨_,e⟩:=Xh.1 hj;rw[List.getElem_range]at e;rw[e]
        ·simp at hz
     |_=>simp at hz
theorem g9{t e:TypeId}{len:Nat}{vs:Array (Nat×Value)}{cells:Array Value}{ie:TypeInfo}{z:Value}
  (hu:P.underlying t=some (.slice e)) (hie:P.info? e=some ie) (hz:ie.zero=some z) (hsmall:¬ len*ie.size > 2 ^ 24)
  (h:∀us:Array Value,us.size=len*ie.size->∃cs,Instr.fill (fun i=>some (i*ie.size,ie.size)) us vs.toList=some cs/\cs.size=len*ie.size/\(cells=cs\/True)) :
  ∃us cs,us.size=len*ie.size/\Instr.fill (fun i=>some (i*ie.size,ie.size)) us vs.toList=some cs /\
  (Instr.buildSlice t len vs).run P w=.ok (.slice (some ⟨w.heap.size,0,none⟩) len len) (w.alloc (.cells cs e)):=by
 by_cases hpos:len*ie.size=0
 ·obtain⟨cs,h1,h2,_⟩:=h ((Array.range (len*ie.size)).map ((#[]:Array Value)[· % (#[]:Array Value).size]!)) (by simp);refine⟨_,cs,by simp,h1,?_⟩;simp[Instr.buildSlice,run_underlying hu,sizeOf,typeInfo,zeroValue,hie,hz,hsmall,hpos,newRow]at h1⊢;simp[h1]
 ·obtain⟨cs,h1,h2,_⟩:=h ((Array.range (len*ie.size)).map (z.cells[· % z.cells.size]!)) (by simp);refine⟨_,cs,by simp,h1,?_⟩;simp[Instr.buildSlice,run_underlying hu,sizeOf,typeInfo,zeroValue,hie,hz,hsmall,hpos,newRow,h1]
theorem S7{k:Nat}{m:Mm}:∀{ts:List T}{f:Fp}{vs:List Value},(∀b,f b=0)->Ts (TR w H γ m) ts f vs ->
  Cs (OD w H k) (List.replicate ts.length .fr) (ts.map T.fz) f vs
 |[],_,_,hf,_=>hf
 |t::ts,f,vs,hf,h=>by
  obtain⟨v,r,f1,f2,h1,h2,h3,h4⟩:=h;refine⟨v,r,f1,f2,h1,h2,?_,S7 (fun b=>by have:=hf b;have:=h2 b;omega) h4⟩;rw[dU];refine⟨fun b=>by have:=hf b;have:=h2 b;omega,?_⟩;cases t with
  |d x=>exact h3.2
  |nil=>obtain⟨_,rfl⟩:=h3;exact jj
  |_=>exact⟨0,trivial⟩
def iX(s:S)(ps:Array (Nat×Operand)):List (Nat×AV):=ps.toList.map fun x=>(x.1,ev s x.2)
theorem pD{m:Mm}{s:S}(h:RX g s a w H γ F):∀{ps:List (Nat×Operand)},(ps.all fun x=>ax x.2)=true ->
  PR w H γ s.m (ps.map fun x=>(x.1,ev s x.2)) (ps.map fun x=>(x.1,a.eval x.2))
 |[],_=>trivial
 |x::ps,hp=>by
  simp only[W0,WI]at hp;exact⟨rfl,aA h hp.1,pD (m:=m) h hp.2⟩
def fd(P:Program)(s0:S)(t:TypeId)(len:Nat)(ps:Array (Nat×Operand))(d:Tmp)(k:S->Prop):Prop:=
 match(ty P t).k with
 |.sl e=>(ty P e).ok=true/\(zcells P e).isSome=true/\len*(ty P e).size<=16777216/\len<=16777216 /\
  let s:=(iQ s0 (ps.toList.map fun x=>ev s0 x.2)).fresh (.gh d)
  match ic (fun i=>some (i*(ty P e).size,(ty P e).size)) (List.replicate (len*(ty P e).size) .any) (iX s ps)with
  |some ts=>k ((s.root (.gh d) ⟨false,[.ow (List.replicate (ty P e).size .fr) (chunk (ty P e).size len (ts.map T.fz))]⟩).put (some d) (.one (.c (.rf ⟨.gh d,0,[]⟩))))
  |none=>False
 |_=>False
theorem lz:∀{parts:List (Nat×AV)}{pl:Nat->Option (Nat×Nat)}{ts ts':List T},ic pl ts parts=some ts'->ts'.length=ts.length
 |[],pl,ts,ts',h=>by simp only[ic,WG]at h;rw[h]
 |(i,x)::r,pl,ts,ts',h=>by
  simp only[ic]at h;cases hp:pl i with
  |none=>rw[hp]at h;simp at h
  |some q=>
   obtain⟨off,size⟩:=q;rw[hp]at h;cases hc:dx x with
   |none=>rw[hc]at h;simp at h
   |some cs=>
    rw[hc]at h;dsimp only at h;split at h
    ·rename_i hcond;rw[lz h,rR hcond.2.1]
    ·simp at h
theorem Ex{m:Mm}:∀{vs:List Value},Ts (TR w H γ m) (List.replicate vs.length .any) (fun _=>0) vs
 |[]=>fun _=>rfl
 |v::vs=>⟨v,vs,fun _=>0,fun _=>0,rfl,fun _=>rfl,fun _=>rfl,Ex⟩
theorem Du(n size:Nat):(List.replicate n (List.replicate size Sh.fr)).flatten=List.replicate (n*size) Sh.fr:=by
 induction n with
 |zero=>simp
 |succ n ih=>rw[XW,XS,ih,List.replicate_append_replicate];congr 1;rw[XH];omega
theorem JR(h:RX g s a w H γ F){n:Nm}(hno:n.isOut=false)(hn:ab s.m n=none){cs:Array Value}{ty':TypeId}{len cap size:Nat}{l:List (List D)}(hl:l.length=len)(hle:len<=cap)(hbig:len<=BIG)
  (hx:∀x∈l,x.length=size) (hsz:cs.size=cap*size) (hcs:∀k,Cs (OD w H k) (List.replicate (len*size) Sh.fr) l.flatten (fun _=>0) cs.toList) :
  ∃γ' F',RX g (s.root n ⟨false,[.ow (List.replicate size .fr) l]⟩) a (w.alloc (.cells cs ty')) H γ' F'/\γ' n=.gh (.slice (some ⟨w.heap.size,0,none⟩) len cap):=by
 obtain⟨hm,hf,hK,hH⟩:=ni h.mem cs ty' false;simp only[WP,false_and,if_false]at hm hf hK hH;have hX:RX g s a (w.alloc (.cells cs ty')) H γ F:=fp h hm hf (fun i=>bV hK (fun _ _ _ h=>h) (h.t i)) (fun _=>rfl)
 have hz:tot F s.m w.heap.size=0:=by
  rcases W7 (tot F s.m w.heap.size)with h'|h'
  ·exact h'
  ·have:=h.mem.lt w.heap.size Z1;omega
 have hHz:∀o,H w.heap.size o=none:=by
  intro o;cases hc:H w.heap.size o with
  |none=>rfl
  |some y=>have:=(h.mem.agree _ _ _ hc).lt;simp at this
 have hcs':∀k,Cs (OD (w.alloc (.cells cs ty')) H k) (List.replicate len (List.replicate size Sh.fr)).flatten l.flatten (fun _=>0) cs.toList:=by
  intro k;rw[Du];refine ji _ _ _ _ (fun s x g v hg hod=>?_) (hcs k);exact bQ (fun _ _ _ h=>h) k k _ _ _ _ (WN _) (fun b hb=>absurd (Nat.le_zero.1 (hg b)) hb) hod
 subst hl;have hod:TR (w.alloc (.cells cs ty')) H γ s.m (.ow (List.replicate size .fr) l) (fun b=>0+if b=w.heap.size then 1 else 0) (.slice (some ⟨w.heap.size,0,none⟩) l.length cap):=
  ⟨1,ub (bi) rfl (by rw[XO];exact hsz) hle hbig (by rw[XO];exact hx) (hcs' 0)⟩
 exact cG hX hno hn hod (fun b=>by
   by_cases hb:b=w.heap.size
   ·subst hb;rw[hz];simp
   ·rw[if_neg hb];have:=h.mem.le1 b;omega)
  (fun b hb=>by
   have hb':b=w.heap.size:=by
    by_cases hb':b=w.heap.size
    ·exact hb'
    ·rw[if_neg hb']at hb;simp at hb
   subst hb';exact⟨by simp,hHz⟩)
  (fun b hb=>by
   have hb':b=w.heap.size:=by
    by_cases hb':b=w.heap.size
    ·exact hb'
    ·rw[if_neg hb']at hb;simp at hb
   right;have:=h.fr.size;omega)
theorem fi{m:Mm}{n:Nm}{sub:List Sh}{l:List (List D)}{v:Value}(hn:ab m n=some ⟨false,[.ow sub l]⟩)(hg:γ n=.gh v):AR w H γ m (.one (.c (.rf ⟨n,0,[]⟩))) v:=by
 refine⟨fun _=>rfl,?_,?_⟩
 ·rw[bx];exact⟨_,hn,trivial⟩
 ·show aq w (γ n) 0=some v
  rw[hg];rfl
theorem uu(h:RX g s a w H γ F){t:TypeId}{len:Nat}{ps:Array (Nat×Operand)}{d:Tmp}{k:S->Prop}(hd:okD g.nt (some d)=true)(hp:(ps.toList.all fun x=>ax x.2)=true)(hK:fd P s t len ps d k) :
  ∃s' y w' H' γ' F',(Instr.buildSlice t len (ps.map fun(i,x)=>(i,a.eval x))).run P w=.ok y w'/\k s'/\RX g s' (a.put (some d) y) w' H' γ' F':=by
 unfold fd at hK;cases hk:(ty P t).k with
 |sl e=>
  rw[hk]at hK;obtain⟨hok,hzc,hsmall,hlb,hK⟩:=hK;obtain⟨_,td,hit,hud,htk,_⟩:=aP hk (by simp);have:=lZ htk
  subst this;obtain⟨ie,de,hie,_⟩:=eE hok;have hsize:(ty P e).size=ie.size:=by
   obtain⟨ie',_,hie',_,_,hs,_⟩:=eE hok;rw[hie]at hie';obtain rfl:ie=ie':=by simpa using hie'
   exact hs
  obtain⟨zs,hzs⟩:=Option.isSome_iff_exists.1 hzc;obtain⟨it',z,hi',hz,_⟩:=iG hzs;rw[hie]at hi';obtain rfl:ie=it':=by simpa using hi'
  obtain⟨H1,F1,h1⟩:=km (ps.toList.map fun x=>ev s x.2) s H F h;have h2:=bX h1 (.gh d)
  have hn:=bH h1 (.gh d)
  dsimp only at hK;generalize(iQ s (ps.toList.map fun x=>ev s x.2)).fresh (.gh d)=s2 at hK h2 hn;cases hf:ic (fun i=>some (i*(ty P e).size,(ty P e).size)) (List.replicate (len*(ty P e).size) .any) (iX s2 ps)with
  |none=>rw[hf]at hK;exact hK.elim
  |some ts=>
   rw[hf]at hK;dsimp only at hK;rw[hsize]at hf hK hsmall;have hpr:PR w H1 γ s2.m (iX s2 ps) (ps.map fun(i,x)=>(i,a.eval x)).toList:=by
    rw[Array.toList_map];exact pD (m:=s2.m) h2 hp
   have hfill:∀us:Array Value,us.size=len*ie.size->∃cs,Instr.fill (fun i=>some (i*ie.size,ie.size)) us (ps.map fun(i,x)=>(i,a.eval x)).toList=some cs/\cs.size=ts.length/\Ts (TR w H1 γ s2.m) ts (fun _=>0) cs.toList:=by
    intro us hus;refine tx h2.mem _ _ _ us ts hpr (by simpa using hus) ?_ hf;have:=Ex (w:=w) (H:=H1) (γ:=γ) (m:=s2.m) (vs:=us.toList)
    rw[show us.toList.length=len*ie.size from by simpa using hus]at this;exact this
   have hlen:ts.length=len*ie.size:=by rw[lz hf];simp
   obtain⟨us,cs,u1,u2,u3⟩:=g9 (P:=P) (w:=w) (t:=t) (e:=e) (len:=len) (vs:=ps.map fun(i,x)=>(i,a.eval x)) (cells:=#[]) hud hie hz Z1 (fun us hus=>by
    obtain⟨cs,c1,c2,_⟩:=hfill us hus;exact⟨cs,c1,by rw[c2,hlen],.inr trivial⟩)
   obtain⟨cs',c1,c2,c3⟩:=hfill us u1;rw[u2]at c1;obtain rfl:cs=cs':=by simpa using c1
   have hmap:(ts.map T.fz).length=len*ie.size:=by rw[WJ,hlen]
   obtain⟨γ',F',hX,hγ⟩:=JR h2 (n:=.gh d) rfl hn (cs:=cs) (ty':=e) (len:=len) (cap:=len) (size:=ie.size) (l:=chunk ie.size len (ts.map T.fz)) lx (WN _) (by
     show len<=2 ^ 62
     omega) (rm hmap) (by rw[c2,hlen]) (fun k=>by
      rw[oN hmap];have:=S7 (k:=k) (fun _=>rfl) c3
      rw[hlen]at this;exact this)
   refine⟨_,_,_,H1,γ',F',u3,hK,RX.put hX hd (fi (sub:=List.replicate ie.size .fr) (l:=chunk ie.size len (ts.map T.fz)) ?_ hγ)⟩;simp[S.root,ab]
 |_=>rw[hk]at hK;exact hK.elim
end
def D.sure:D->Bool
 |.any=>false
 |_=>true
def Sh.isFr:Sh->Bool
 |.fr=>true
 |_=>false
def TK.isSS:TK->Bool
 |.sl _=>true
 |.str=>true
 |_=>false
def DN(s:S)(q:Pl):S:=⟨kG (thr q) s.t,aC (thr q) (aZ s.m q .any)⟩
theorem Mg{F:Nm->Fp}{m:Mm}{p:Pl}{t:T}{b:Nat}:tot F (aZ m p t) b=tot F m b:=by
 unfold aZ;cases ab m p.root with
 |none=>rfl
 |some r=>dsimp only;rw[cC]
theorem pw{w w':World}{H H':FH}(hH:∀b o y,H b o=some y->H' b o=some y){k k':Nat}(hk:k<=k'){ss:List Sh}{xs:List D}{f:Fp}{vs:List Value}
  (hw:∀b,f b≠0->w'.heap[b]? = w.heap[b]?) (h:Cs (OD w H k) ss xs f vs):Cs (OD w' H' k') ss xs f vs:=
 ji _ _ _ _ (fun _ _ _ _ hg hod=>bQ hH k k' _ _ _ _ hk (fun b hb=>hw b (by have:=hg b;omega)) hod) h
section
variable {P:Program} {g:G} {s:S} {a:Act} {w:World} {H:FH} {γ:Gam} {F:Nm->Fp}
theorem Be(h:RX g s a w H γ F){q:Pl}(hok:bD s.m q){sub:List Sh}{l:List (List D)}(hg:aQ s.m q=some (.ow sub l)) :
  ∃v f F',plV w γ q=some v/\(∃k,OD w H k (.ow sub) (.li l) f v)/\RX g (DN s q) a w H γ F'/\∀b,tot F' (DN s q).m b+f b=tot F s.m b:=by
 obtain⟨f,v,t1,t2,t3,t4,t5⟩:=t8 h.mem hok hg;have hm:=t5 H (fun _ _ _ h=>h) h.mem.agree (fun b hb o=>h.mem.nofz b (by have:=t4 b;omega) o)
 have htot:∀b,tot (fun n b=>F n b-if n=q.root then f b else 0) (DN s q).m b+f b=tot F s.m b:=by
  intro b;show tot _ (aC _ _) b+f b=_
  rw[aV,Mg];exact t4 b
 refine⟨v,f,_,t1,t2,⟨hm,⟨h.fr.size,h.fr.os,h.fr.tape,h.fr.output,h.fr.block,h.fr.hold,h.fr.hnew,fun b hb=>h.fr.tt b ?_,h.fr.nz⟩,h.nt,h.df,fun i=>?_⟩,htot⟩
 ·have:=htot b;omega
 ·show AR w H γ _ (aL (kG _ s.t) i) _
  rw[lE];exact pq (me h.mem hok) (fun _ _ _ h=>h) (h.t i)
theorem mg(h:RX g s a w H γ F){w':World}(hsz:w.heap.size<=w'.heap.size)(hos:w'.os=w.os)(htp:w'.tape=w.tape)(hou:w'.output=w.output)
  (hb:∀b,b<w.heap.size->w'.heap[b]? = w.heap[b]? \/ (tot F s.m b=0/\(∀o,H b o=none)/\(g.own0 b≠0\/g.w0.heap.size<=b)/\Thawed w' b)):RX g s a w' H γ F:=by
 have hth:∀b,Thawed w b->Thawed w' b:=fun b h0=>by
  rcases hb b h0.lt with h1|h1
  ·exact h0.of_block h1
  ·exact h1.2.2.2
 have hsame:∀b,tot F s.m b≠0->w'.heap[b]? = w.heap[b]? := fun b hb'=>by
  rcases hb b (h.mem.lt b hb')with h1|h1
  ·exact h1
  ·exact absurd h1.1 hb'
 have hK:=cD (w':=w') h.mem hsame
 have hin:∀x∈s.m,∀b,F x.1 b≠0->w'.heap[b]? = w.heap[b]? := fun x hx b hb=>hsame b (by have:=aW (F:=F) hx b;omega)
 refine⟨⟨?_,fun x hx=>aN hK (fun _ _ _ h=>h) rfl (hin x hx) (h.mem.roots x hx),h.mem.keys,h.mem.le1,fun b hb=>by have:=h.mem.lt b hb;omega,h.mem.nofz⟩,
  ⟨Xo h.fr.size hsz,hos.trans h.fr.os,htp.trans h.fr.tape,hou.trans h.fr.output,fun k hk h0=>?_,h.fr.hold,h.fr.hnew,h.fr.tt,fun b h0=>hth b (h.fr.nz.1 b h0),fun b o x l c h1 h2=>hth b (h.fr.nz.2 b o x l c h1 h2)⟩,h.nt,h.df,fun i=>bV hK (fun _ _ _ h=>h) (h.t i)⟩
 ·intro b o y hy;have hc:=h.mem.agree b o y hy
  rcases hb b hc.lt with h1|h1
  ·exact hc.frame h1
  ·rw[h1.2.1 o]at hy;simp at hy
 ·rcases hb k (by have:=h.fr.size;omega)with h1|h1
  ·rw[h1];exact h.fr.block k hk h0
  ·rcases h1.2.2.1 with h2|h2
   ·exact absurd h0 h2
   ·omega
theorem vZ{t u tt e:TypeId}{dd:TypeDesc}{i:TypeInfo}{z:Value}(ht:P.underlying t=some (.slice e))(hu:P.underlying u=some dd)(hdd:isSS dd=true)(hi:P.info? e=some i)(hz:i.zero=some z)(hzs:z.cells.size=i.size)
  {k kx:Nat} {sub:List Sh} {l ys:List (List D)} {f gx:Fp} {v x:Value} {ws:List Value} (hsub:sub.length=i.size)
  (hod:OD w H k (.ow sub) (.li l) f v) (hx:Src P w i.size x ys.length ws) (hys:∀y∈ys,y.length=sub.length) (hcx:Cs (OD w H kx) (List.replicate ys.length sub).flatten ys.flatten gx ws) (hone:∀u∈ws,l4 u=true)
  (hd:∀b,f b+gx b<=1) (hlt:∀b,f b≠0\/gx b≠0->b<w.heap.size) (h62:l.length+ys.length<=4611686018427387904) (hby:(l.length+ys.length)*i.bytes<=140737488355328) :
  ∃y w' f',(Builtin.append_ #[t,u] tt #[v,x]).run P w=.ok y w'/\(∃k',OD w' H k' (.ow sub) (.li (l++ys)) f' y)/\w.heap.size<=w'.heap.size/\w'.os=w.os/\w'.tape=w.tape/\w'.output=w.output /\
   (∀b,b<w.heap.size->w'.heap[b]? = w.heap[b]? \/ (f b≠0/\Thawed w' b))/\(∀b,f' b<=f b+gx b+if b=w.heap.size then 1 else 0)/\(∀b,f' b≠0->b<w'.heap.size):=by
 cases k with
 |zero=>simp[OD]at hod
 |succ k=>
  obtain⟨ad,c,gg,vs,rfl,hlc,hlb,hlen,hvs,hcs,hwhere⟩:=kl hod;have hlen':∀y∈l++ys,y.length=sub.length:=s9 hlen hys
  have hws:ws.length=ys.length*sub.length:=by rw[hx.size,hsub]
  by_cases hroom:l.length+ys.length<=c
  ·rcases hwhere with⟨rfl,rfl,rfl,hf0⟩|⟨b,cs,ty,fz,rfl,hb,hfz,hcsz,rfl,hf⟩
   ·have hys0:ys=[]:=by
     cases ys with
     |nil=>rfl
     |cons _ _=>simp at hroom
    subst hys0;have hw0:ws=[]:=by simpa using hws
    subst hw0;refine⟨_,w,fun _=>0,Bv ht hu hdd hi (a:=none) (n:=0) (c:=0) (m:=0) hx (WN _) (.inl rfl),⟨1,?_⟩,WN _,rfl,rfl,rfl,fun _ _=>.inl rfl,fun b=>Xq _,fun b hb=>absurd rfl hb⟩;rw[dA];exact .inl ⟨rfl,rfl,fun _=>rfl⟩
   ·have hfz':fz=(0,0):=hfz
    subst hfz';have hgb:gg b=0:=by have h1:=hd b;have h2:=hf b;rw[if_pos rfl]at h2;omega
    have hgxb:gx b=0:=by have h1:=hd b;have h2:=hf b;rw[if_pos rfl]at h2;omega
    have hfit:l.length*i.size+ws.length<=cs.size:=by
     rw[hws,hcsz,<- hsub,<- XH];exact Xv _ hroom
    have hrun:=Kl (tt:=tt) ht hu hdd hi hb hx (fun u hu=>hone u hu) hroom hfit
    refine⟨_,_,fun d=>(gg d+gx d)+if d=b then 1 else 0,hrun,⟨k+kx+1,?_⟩,by simp[World.setRow],rfl,rfl,rfl,fun j hj=>?_,fun j=>?_,fun j hj=>?_⟩
    ·have hnew:=setRow_heap w b cs (cs.toList.take (l.length*i.size)++ws++cs.toList.drop (l.length*i.size+ws.length)).toArray ty (0,0) hb
     rw[show l.length+ys.length=(l++ys).length from by simp];refine ub hnew rfl ?_ (by simpa using hroom) (by show(l++ys).length<=2 ^ 62;simpa using h62) hlen' ?_
     ·have:(cs.toList.take (l.length*i.size)).length=l.length*i.size:=by rw[Xk];simp;omega
      simp only[List.size_toArray,WM,this,Yo,Array.length_toList];rw[<- hcsz];omega
     ·have h1:=pw (w':=w.setRow b (cs.toList.take (l.length*i.size)++ws++cs.toList.drop (l.length*i.size+ws.length)).toArray) (fun _ _ _ h=>h) (Nat.le_add_right k kx) (fun c hc=>setRow_other w b c _ (fun e=>hc (by rw[e];exact hgb))) hcs
      have h2:=pw (w':=w.setRow b (cs.toList.take (l.length*i.size)++ws++cs.toList.drop (l.length*i.size+ws.length)).toArray) (fun _ _ _ h=>h) (Nat.le_add_left kx k) (fun c hc=>setRow_other w b c _ (fun e=>hc (by rw[e];exact hgxb))) hcx
      rw[<- hsub]at h1 h2⊢;exact MG hlen hvs h1 h2
    ·by_cases hjb:j=b
     ·right;subst hjb;exact⟨by rw[hf,if_pos rfl];omega,_,_,setRow_heap w j cs _ ty (0,0) hb⟩
     ·left;exact setRow_other w b j _ hjb
    ·have:=hf j;dsimp only;omega
    ·have:j<w.heap.size:=hlt j (by have:=hf j;dsimp only at hj;omega)
     simpa[World.setRow]using this
  ·have ho:Src P w i.size (.slice ad l.length c) l.length vs:=by
    rcases hwhere with⟨rfl,rfl,rfl,_⟩|⟨b,cs,ty,fz,rfl,hb,hfz,hcsz,rfl,hf⟩
    ·have:vs=[]:=by simpa using hvs
     subst this;exact mh
    ·refine qX (by rw[hvs,hsub]) (fun j u hj=>?_);have hjl:=ah hj
     rw[Xk]at hjl;rw[W3 Z1]at hj;simp only[World.cell?,hb,XJ,WP,if_false,Xy];simpa using hj
   have hgr:=Bu (tt:=tt) ht hu hdd hi hz hx ho Z1 Z1 hby
   have hcap:l.length+ys.length<=grownCap w (l.length+ys.length) c e:=Am.Cj
   have hfle:∀b,gg b<=f b:=by
    intro b;rcases hwhere with⟨rfl,rfl,rfl,hf0⟩|⟨b',cs,ty,fz,rfl,hb,hfz,hcsz,rfl,hf⟩
    ·have hv0:vs=[]:=by simpa using hvs
     have:∀b,gg b=0:=by simpa[Cs]using hcs
     rw[this b];exact Xq _
    ·rw[hf];omega
   have hno:∀b,gg b≠0\/gx b≠0->b<w.heap.size:=fun b hb=>hlt b (by have:=hfle b;omega)
   generalize hcapv:grownCap w (l.length+ys.length) c e=cap at hgr hcap;have hnew:(w.drew.alloc (.cells ((vs++ws).toArray++Builtin.zeroCells z.cells (cap - (l.length+ys.length))) e)).heap[w.heap.size]? = some (.cells ((vs++ws).toArray++Builtin.zeroCells z.cells (cap - (l.length+ys.length))) e):=
    bi (w:=w.drew)
   have hold:∀b,b<w.heap.size->(w.drew.alloc (.cells ((vs++ws).toArray++Builtin.zeroCells z.cells (cap - (l.length+ys.length))) e)).heap[b]? = w.heap[b]? := fun b hb=>bU (w:=w.drew) hb
   refine⟨_,_,fun d=>(gg d+gx d)+if d=w.heap.size then 1 else 0,hgr,⟨k+kx+1,?_⟩,by(show w.heap.size<=(w.heap.push _).size);simp,rfl,rfl,rfl,fun j hj=>.inl (hold j hj),fun j=>by have:=hfle j;dsimp only;omega,fun j hj=>?_⟩
   ·rw[show l.length+ys.length=(l++ys).length from by simp];rw[show l.length+ys.length=(l++ys).length from by simp]at hnew hold hcap;refine ub hnew rfl ?_ hcap (by show(l++ys).length<=2 ^ 62;simpa using h62) hlen' ?_
    ·simp only[Array.size_append,List.size_toArray,WM,size_zeroCells,hvs,hws,hzs];rw[<- hsub,<- XH,<- XH];rw[WM]at hcap
     congr 1;omega
    ·have h1:=pw (w':=w.drew.alloc (.cells ((vs++ws).toArray++Builtin.zeroCells z.cells (cap - (l++ys).length)) e)) (fun _ _ _ h=>h) (Nat.le_add_right k kx) (fun c hc=>hold c (hno c (.inl hc))) hcs
     have h2:=pw (w':=w.drew.alloc (.cells ((vs++ws).toArray++Builtin.zeroCells z.cells (cap - (l++ys).length)) e)) (fun _ _ _ h=>h) (Nat.le_add_left kx k) (fun c hc=>hold c (hno c (.inr hc))) hcx
     rw[Array.toList_append];exact MG hlen hvs h1 h2
   ·dsimp only at hj;by_cases hjb:j=w.heap.size
    ·subst hjb;show w.heap.size < (w.heap.push _).size;simp
    ·rw[if_neg hjb]at hj;have:=hno j Z1
     show j < (w.heap.push _).size
     simp;omega
end
def iu(size:Nat):AV->Option (List (List D))
 |.one (.c .nil)=>some []
 |.one (.c (.d (.li l)))=>some l
 |.one (.c (.d (.str b)))=>if size=1 then some (b.map fun c=>[.int .u8 c.toNat])else none
 |_=>none
def zS(size:Nat)(ys:List (List D)):Prop:=∀y∈ys,y.length=size/\∀x∈y,x.sure=true
def gD(s:S)(size:Nat):AV->Option (S×List Sh×List (List D))
 |.one (.c .nil)=>some (s,List.replicate size .fr,[])
 |.one (.c (.rf q))=>match aQ s.m q with
  |some (.ow sub l)=>if sub.length=size then some (DN s q,sub,l)else none
  |_=>none
 |_=>none
def nr(P:Program)(s00:S)(t u:TypeId)(x y:Operand)(d:Tmp)(k:S->Prop):Prop:=
 let s:=Cf s00 (ev s00 y)
 match(ty P t).k with
 |.sl e=>(ty P e).ok=true/\(ty P u).k.isSS=true/\((zcells P e).map (·.length))=some (ty P e).size /\
  match iu (ty P e).size (ev s y),gD s (ty P e).size (ev s x)with
  |some ys,some (s1,sub,l)=>sub.all Sh.isFr=true/\zS (ty P e).size ys/\l.length+ys.length<=4611686018427387904/\(l.length+ys.length)*(ty P e).bytes<=140737488355328 /\
   k (((s1.fresh (.gh d)).root (.gh d) ⟨false,[.ow sub (l++ys)]⟩).put (some d) (.one (.c (.rf ⟨.gh d,0,[]⟩))))
  |_,_=>False
 |_=>False
theorem MF{w:World}{H:FH}{k:Nat}:∀{xs:List D}{vs:List Value},vs.length=xs.length->(∀(j:Nat)(x:D),xs[j]? = some x->∃v,vs[j]? = some v/\FDx H x v) ->
  Cs (OD w H k) (List.replicate xs.length .fr) xs (fun _=>0) vs
 |[],[],_,_=>fun _=>rfl
 |[],_::_,hl,_=>by simp at hl
 |_::_,[],hl,_=>by simp at hl
 |x::xs,v::vs,hl,h=>by
  refine⟨v,vs,fun _=>0,fun _=>0,rfl,fun _=>rfl,?_,MF (by simpa using hl) (fun j x hj=>h (j+1) x (by simpa using hj))⟩;rw[dU];obtain⟨v',h1,h2⟩:=h 0 x rfl;obtain rfl:v=v':=by simpa using h1
  exact⟨fun _=>rfl,h2⟩
theorem G2{H:FH}{x:D}{y:Value}(hs:x.sure=true)(h:FDx H x y):l4 y=true:=by
 obtain⟨m,h⟩:=h;cases x with
 |int k n=>have:=h;cases m<;>(obtain⟨rfl,_⟩:=this;rfl)
 |bool b=>cases m<;>(have:y=_:=h;subst this;rfl)
 |str l=>have:=h;cases m<;>(obtain⟨rfl,_⟩:=this;rfl)
 |mp l=>obtain⟨b,rfl⟩:=Eg ⟨m,h⟩;rfl
 |fn f l=>obtain⟨b,rfl⟩:=MK ⟨m,h⟩;rfl
 |v z=>have:=h;cases m<;>(obtain⟨rfl,h1⟩:=this;exact h1)
 |any=>simp[D.sure]at hs
 |li l=>
  cases m with
  |zero=>exact h.elim
  |succ m=>obtain⟨a,c,rfl,_⟩:=kh.1 h;rfl
theorem E3(b:List UInt8):(b.map fun c=>[D.int .u8 (c.toNat:Int)]).flatten=b.map fun c=>D.int .u8 (c.toNat:Int):=by
 induction b with
 |nil=>rfl
 |cons c b ih=>simp[ih]
section
variable {P:Program} {g:G} {s:S} {a:Act} {w:World} {H:FH} {γ:Gam} {F:Nm->Fp}
theorem Vc{sub:List Sh}(h:sub.all Sh.isFr=true):sub=List.replicate sub.length .fr:=by
 induction sub with
 |nil=>rfl
 |cons x sub ih=>
  simp only[W0,WI]at h;rw[WL,XW,<- ih h.2];cases x with
  |fr=>rfl
  |ow _=>simp[Sh.isFr]at h
theorem UW{m:Mm}(hm:Mem w H γ m F){size:Nat}{x:AV}{v:Value}{ys:List (List D)}(hx:AR w H γ m x v)(hr:iu size x=some ys)(hok:zS size ys) :
  ∃ws,Src P w size v ys.length ws/\(∀k,Cs (OD w H k) (List.replicate (ys.length*size) .fr) ys.flatten (fun _=>0) ws)/\∀u∈ws,l4 u=true:=by
 have hlen:∀y∈ys,y.length=size:=fun y hy=>(hok y hy).1
 have hfl:=bT size ys hlen
 match x,hr with
 |.one (.c .nil),hr=>
  simp only[iu,WG]at hr;subst hr;obtain⟨_,rfl⟩:=hx;exact⟨[],mh,fun k=>by simp[Cs],by simp⟩
 |.one (.c (.d (.str b))),hr=>
  simp only[iu]at hr;by_cases hs:size=1
  ·subst hs;rw[if_pos rfl]at hr;obtain rfl:=Option.some.inj hr;obtain⟨rfl,hb⟩:=yC hx;have:=Qr (P:=P) (w:=w) (l:=b)
   refine⟨b.map fun b=>.int .u8 b.toNat,by rw[WJ];exact this,fun k=>?_,?_⟩
   ·rw[<- hfl];refine MF (by rw[hfl];simp) (fun j x hj=>?_);rw[E3,WK,WW]at hj;obtain⟨c,hc,rfl⟩:=hj;refine⟨.int .u8 c.toNat,by rw[WK,hc];rfl,0,rfl,?_⟩;have:=c.toNat_lt
    simp only[Lit.wf,WI,decide_eq_true_eq];have h1:IntKind.u8.min=0:=rfl
    have h2:IntKind.u8.max=255:=rfl
    omega
   ·intro u hu;simp only[Xa]at hu;obtain⟨c,_,rfl⟩:=hu;rfl
  ·rw[if_neg hs]at hr;simp at hr
 |.one (.c (.d (.li l))),hr=>
  simp only[iu,WG]at hr;subst hr;obtain⟨ad,c,rfl,_,_,hcase⟩:=eK hx.2;rcases hcase with rfl|⟨b,o,e,k0,rfl,hel⟩
  ·exact⟨[],mh,fun k=>by simp[Cs],by simp⟩
  ·by_cases hl0:l.length=0
   ·have:l=[]:=by simpa using hl0
    subst this;exact⟨[],mh,fun k=>by simp[Cs],by simp⟩
   have he:e=size:=by
    have h0:=(hel 0 Z1).1
    have hg0:l.getD 0 []=l[0]:=by simp[List.getD,show 0<l.length by omega]
    rw[hg0,hlen _ (Xj _)]at h0;exact h0.symm
   subst he;have hpt:∀j,j<l.length*e->∃v,w.cell? ⟨b,o+j,none⟩=some v/\∀x,l.flatten[j]? = some x->FDx H x v:=by
    intro j hj;have he0:0<e:=Nat.pos_of_ne_zero (fun h=>by subst h;simp at hj)
    have hi:j / e<l.length:=by rw[Nat.div_lt_iff_lt_mul he0];exact hj
    obtain⟨y,h1,h2⟩:=(hel (j / e) hi).2 (j % e) (Nat.mod_lt _ he0);have hje:j / e*e+j % e=j:=by rw[Nat.mul_comm];exact Nat.div_add_mod j e
    refine⟨y,?_,fun x hx=>?_⟩
    ·have:=hm.agree _ _ _ h1
     rw[Yy,hje]at this;exact this
    ·rw[<- hje,cX e l _ _ hlen hi (Nat.mod_lt _ he0)]at hx;rw[List.getD,hx]at h2;exact⟨k0,h2⟩
   obtain⟨ws,w1,w2⟩:=js (p:=fun j v=>w.cell? ⟨b,o+j,none⟩=some v/\∀x,l.flatten[j]? = some x->FDx H x v) (l.length*e) hpt;refine⟨ws,qX w1 (fun j v hj=>(w2 j v hj).1),fun k=>?_,fun u hu=>?_⟩
   ·rw[<- hfl];refine MF (by rw[hfl,w1]) (fun j x hj=>?_);have hjl:j<ws.length:=by have:=ah hj;omega
    exact⟨ws[j],WH hjl,(w2 j _ (WH hjl)).2 x hj⟩
   ·obtain⟨j,hj,rfl⟩:=X0.1 hu;have hjf:j<l.flatten.length:=by omega
    have h1:=(w2 j _ (WH hj)).2 _ (WH hjf)
    refine G2 ?_ h1;have hmem:l.flatten[j]∈l.flatten:=Xj hjf
    rw[List.mem_flatten]at hmem;obtain⟨y,hy,hxy⟩:=hmem;exact(hok y hy).2 _ hxy
theorem QA(h:RX g s a w H γ F){size:Nat}{x:AV}{v:Value}{s1:S}{sub:List Sh}{l:List (List D)}(hx:AR w H γ s.m x v)(hb:gD s size x=some (s1,sub,l)) :
  ∃k f F1,OD w H k (.ow sub) (.li l) f v/\RX g s1 a w H γ F1/\sub.length=size/\(∀b,tot F1 s1.m b+f b<=1)/\(∀b,f b≠0->b<w.heap.size/\(∀o,H b o=none)/\(g.own0 b≠0\/g.w0.heap.size<=b)):=by
 match x,hb with
 |.one (.c .nil),hb=>
  simp only[gD,WG,Prod.mk.injEq]at hb;obtain⟨rfl,rfl,rfl⟩:=hb;obtain⟨_,rfl⟩:=hx;refine⟨1,fun _=>0,F,?_,h,by simp,fun b=>by have:=h.mem.le1 b;simpa using this,fun b hb=>absurd rfl hb⟩;rw[dA];exact .inl ⟨rfl,rfl,fun _=>rfl⟩
 |.one (.c (.rf q)),hb=>
  simp only[gD]at hb;cases hg:aQ s.m q with
  |none=>rw[hg]at hb;simp at hb
  |some t=>
   rw[hg]at hb;cases t with
   |ow sub' l'=>
    dsimp only at hb;split at hb
    ·rename_i hsz;simp only[WG,Prod.mk.injEq]at hb;obtain⟨rfl,rfl,rfl⟩:=hb;obtain⟨_,hok,hv⟩:=hx;obtain⟨v',f,F',e1,⟨k,e2⟩,e3,e4⟩:=Be h (dH hok) hg;rw[hv]at e1;obtain rfl:v=v':=by simpa using e1
     exact⟨k,f,F',e2,e3,hsz,fun b=>by rw[e4];exact h.mem.le1 b,fun b hb=>by
      have hne:tot F s.m b≠0:=by have:=e4 b;omega
      exact⟨h.mem.lt b hne,h.mem.nofz b hne,h.fr.tt b hne⟩⟩
    ·simp at hb
   |_=>simp at hb
theorem EG(h:RX g s a w H γ F){t u tt:TypeId}{x y:Operand}{d:Tmp}{k:S->Prop}(hd:okD g.nt (some d)=true)(hx:ax x=true)(hy:ax y=true)(hK:nr P s t u x y d k) :
  ∃s' z w' H' γ' F',(Builtin.append_ #[t,u] tt #[a.eval x,a.eval y]).run P w=.ok z w'/\k s'/\RX g s' (a.put (some d) z) w' H' γ' F':=by
 unfold nr at hK;dsimp only at hK;obtain⟨H1,F1,h1⟩:=yN h (ev s y);generalize Cf s (ev s y)=s1 at hK h1;cases hk:(ty P t).k with
 |sl e=>
  rw[hk]at hK;obtain⟨hok,hss,hzl,hK⟩:=hK;obtain⟨_,td,hit,hud,htk,_⟩:=aP hk (by simp);have:=lZ htk
  subst this;obtain⟨ie,de,hie,_,_,hsize,hbytes,_⟩:=eE hok;rw[hsize,hbytes]at hK;rw[hsize]at hzl;obtain⟨zs,hzs,hzl⟩:=WW.1 hzl;obtain⟨it',z,hi',hz,hzc,_⟩:=iG hzs;rw[hie]at hi';obtain rfl:ie=it':=by simpa using hi'
  have hzsz:z.cells.size=ie.size:=by rw[<- hzl,<- hzc];simp
  obtain⟨ud,huu,hudd⟩:∃ud,P.underlying u=some ud/\isSS ud=true:=by
   have hne:(ty P u).k≠.ot:=fun e=>by rw[e]at hss;simp[TK.isSS]at hss
   obtain⟨_,ud,_,h2,h3,_⟩:=aP rfl hne;refine⟨ud,h2,?_⟩;rw[<- h3]at hss;cases ud<;>first|rfl|(simp[eC,TK.isSS]at hss)
  cases hsr:iu ie.size (ev s1 y)with
  |none=>rw[hsr]at hK;exact hK.elim
  |some ys=>
   cases hbs:gD s1 ie.size (ev s1 x)with
   |none=>rw[hsr,hbs]at hK;exact hK.elim
   |some q=>
    obtain⟨s2,sub,l⟩:=q;rw[hsr,hbs]at hK;obtain⟨hfr,hrows,hb62,hby,hK⟩:=hK;obtain⟨ws,r1,r2,r3⟩:=UW (P:=P) h1.mem (aA h1 hy) hsr hrows;obtain⟨kb,f,F2,b1,b2,b3,b4,b5⟩:=QA h1 (aA h1 hx) hbs;have hsub:=Vc hfr
    obtain⟨z',w',f',c1,⟨k',c2⟩,c3,c4,c5,c6,c7,c8,c9⟩:=vZ (tt:=tt) hud huu hudd hie hz hzsz (gx:=fun _=>0) (kx:=0) b3 b1 r1 (fun y hy=>by rw[b3];exact(hrows y hy).1)
     (by rw[hsub,Du,b3];exact r2 0) r3 (fun b=>by have:=b4 b;omega) (fun b hb=>by rcases hb with hb|hb;exact(b5 b hb).1;exact absurd rfl hb) hb62 hby
    have hX:=mg b2 c3 c4 c5 c6 (fun b hb=>by
     rcases c7 b hb with h3|h3
     ·exact .inl h3
     ·exact .inr ⟨by have:=b4 b;omega,(b5 b h3.1).2.1,(b5 b h3.1).2.2,h3.2⟩)
    have hX2:=bX hX (.gh d)
    have hn:=bH hX (.gh d)
    have hHnew:∀b,w.heap.size<=b->∀o,H1 b o=none:=by
     intro b hb o;cases hc:H1 b o with
     |none=>rfl
     |some y=>have:=(h1.mem.agree _ _ _ hc).lt;(try simp at this);omega
    have hts:∀b,tot F2 (s2.fresh (.gh d)).m b<=tot F2 s2.m b:=by
     intro b;unfold S.fresh;split
     ·exact WN _
     ·show tot F2 (aC _ _) b<=_
      rw[aV];exact eD
    have htz:tot F2 s2.m w.heap.size=0:=by
     rcases W7 (tot F2 s2.m w.heap.size)with h'|h'
     ·exact h'
     ·have:=b2.mem.lt w.heap.size Z1;omega
    obtain⟨γ',F',hX3,hγ⟩:=cG hX2 (n:=.gh d) rfl hn (v:=z') (t:=.ow sub (l++ys)) (f:=f') ⟨k',c2⟩ (fun b=>by
      have h3:=hts b;have h4:=b4 b;have h5:=c8 b
      by_cases hb:b=w.heap.size
      ·subst hb;have:f w.heap.size=0:=by
        rcases W7 (f w.heap.size)with h'|h'
        ·exact h'
        ·have:=(b5 w.heap.size Z1).1;omega
       rw[if_pos rfl]at h5;omega
      ·rw[if_neg hb]at h5;omega)
     (fun b hb=>⟨c9 b hb,by
      have h5:=c8 b
      by_cases hb2:b=w.heap.size
      ·subst hb2;exact hHnew _ (WN _)
      ·rw[if_neg hb2]at h5;exact(b5 b Z1).2.1⟩)
     (fun b hb=>by
      have h5:=c8 b
      by_cases hb2:b=w.heap.size
      ·right;have:=b2.fr.size;omega
      ·rw[if_neg hb2]at h5;exact(b5 b Z1).2.2)
    refine⟨_,z',w',H1,γ',F',c1,hK,RX.put hX3 hd (fi (sub:=sub) (l:=l++ys) ?_ hγ)⟩;simp[ab]
 |_=>rw[hk]at hK;exact hK.elim
end
end Go.Am
end
