/-
  Part 8: AmStep · AmPure.
-/
import Derived.Test.YteooihiebpbaiaaGreatDoorVk7
import Derived.Laws.BytesArg
set_option linter.unusedSimpArgs false
set_option linter.unusedVariables false
set_option linter.unusedSectionVars false
set_option linter.unnecessarySimpa false
section
namespace Go.Am
abbrev CK1:=S->List Operand->(S->AV->Prop)->Prop
abbrev CT:=List (Nat×CK1)
def CT.get:CT->Nat->Option CK1
 |[],_=>none
 |(f,c)::r,i=>if f=i then some c else CT.get r i
structure Con (P:Program) (f:Nat) (C:CK1):Prop where
 run:∀args w,(callFunc f args).run P w=.ok (.enter f args) w
 call:∀(g:G)(s:S)(a:Act)(w:World)(H:FH)(γ:Gam)(F:Nm->Fp)(ops:List Operand)(k:S->AV->Prop),RX g s a w H γ F->ops.all ax=true->C s ops k ->
  Calls P f (ops.map a.eval).toArray w (fun e w'=>∃r s' av H' γ' F',e=.returned r/\k s' av/\AR w' H' γ' s'.m av r/\RX g s' a w' H' γ' F')
def CT.Ok(P:Program)(cs:CT):Prop:=∀x∈cs,Con P x.1 x.2
theorem CT.ok_get{P:Program}{cs:CT}(h:cs.Ok P){f:Nat}{C:CK1}(hg:cs.get f=some C):Con P f C:=by
 induction cs with
 |nil=>simp[CT.get]at hg
 |cons x cs ih=>
  obtain⟨f',c⟩:=x;simp only[CT.get]at hg;split at hg
  ·rename_i e;subst e;obtain rfl:=Option.some.inj hg;exact h (f',c) (by simp)
  ·exact ih (fun y hy=>h y (WV _ hy)) hg
def mz:List (List D)->Option (List UInt8)
 |[]=>some []
 |[.int .u8 n]::r=>(mz r).map fun l=>UInt8.ofNat n.toNat::l
 |_=>none
def pS(P:Program)(su du:TypeId)(x:AV)(k:AV->Prop):Prop:=
 match(ty P su).k,(ty P du).k,x with
 |.int _,.int κ,.one (.c (.d (.int _ n)))=>k (sc (.int κ (κ.wrap n)))
 |.sl e,.str,.one (.c (.d (.li l)))=>(ty P e).k=.int .u8/\match mz l with
  |some b=>k (sc (.str b))
  |none=>False
 |.sl e,.str,.one (.c .nil)=>(ty P e).k=.int .u8/\k (sc (.str []))
 |_,_,_=>False
theorem KV:∀{l:List (List D)}{b:List UInt8},mz l=some b->∃ns:List Int,l=ns.map (fun n=>[D.int .u8 n])/\b=ns.map fun n=>UInt8.ofNat n.toNat:=by
 intro l;induction l with
 |nil=>intro b h;simp only[mz,WG]at h;exact⟨[],rfl,h.symm⟩
 |cons r rs ih=>
  intro b h;unfold mz at h;split at h
  ·rename_i n hr;cases hr
  ·rename_i n r' heq;obtain⟨rfl,rfl⟩:=List.cons.inj heq;cases hd:mz rs with
   |none=>rw[hd]at h;cases h
   |some c=>
    rw[hd]at h;obtain⟨ns,e1,e2⟩:=ih hd;simp only[Option.map_some,WG]at h;exact⟨n::ns,by rw[e1];rfl,by rw[<- h,e2];rfl⟩
  ·cases h
theorem Oa{P:Program}{w:World}{H:FH}{γ:Gam}{m:Mm}{F:Nm->Fp}(hm:Mem w H γ m F){su du:TypeId}{x:AV}{k:AV->Prop}{u:Value}(h:pS P su du x k)(hx:AR w H γ m x u) :
  ∃z d,∃B:Nat->Prop,(∀b,B b->∃o y,H b o=some y)/\(∀w2:World,(∀b,B b->w2.heap[b]? = w.heap[b]?)->(convert su du u).run P w2=.ok z w2)/\AR w H γ m d z/\k d:=by
 unfold pS at h;cases h1:(ty P su).k with
 |int κ0=>
  cases h2:(ty P du).k with
  |int κ=>
   rw[h1,h2]at h
   match x,h with
   |.one (.c (.d (.int κ1 n))),h=>
    obtain⟨rfl,_⟩:=ld hx;obtain⟨_,ds,_,e2,_,_⟩:=aP h1 (by simp);obtain⟨_,dd,_,e4,e5,_⟩:=aP h2 (by simp);obtain rfl:=GJ e5;refine⟨.int κ (κ.wrap n),_,fun _=>False,fun _ h=>h.elim,fun w _=>?_,ke (wf_wrap _ _),h⟩;have hk:P.intKind du=κ:=by simp[Program.intKind,e4]
    have:=run_convert_int (P:=P) (w:=w) su du κ1 n (by simp[e2]) (by rw[hk];exact e4)
    rw[hk]at this;exact this
  |_=>rw[h1,h2]at h;exact h.elim
 |sl e=>
  cases h2:(ty P du).k with
  |str=>
   rw[h1,h2]at h;obtain⟨_,ds,_,e2,e3,_⟩:=aP h1 (by simp);obtain rfl:=lZ e3;obtain⟨_,dd,_,e4,e5,_⟩:=aP h2 (by simp);obtain rfl:=Ak e5
   match x,h with
   |.one (.c (.d (.li l))),h=>
    obtain⟨h3,h⟩:=h;obtain⟨_,de,_,e6,e7,_⟩:=aP h3 (by simp);obtain rfl:=GJ e7;cases hd:mz l with
    |none=>rw[hd]at h;exact h.elim
    |some bs=>
     rw[hd]at h;obtain⟨ns,rfl,rfl⟩:=KV hd;obtain⟨a,c,rfl,hc,hb,h4⟩:=eK hx.2;rw[WJ]at hb hc⊢;by_cases h0:ns=[]
     ·subst h0;refine⟨.string ByteArray.empty,sc (.str []),fun _=>False,fun _ h=>h.elim,fun w _=>?_,m9 (l:=[]) (by simp),h⟩;cases a with
      |none=>exact run_convert_bytes_nil w su e e2 e6 _ _ du e4
      |some ad=>
       rw[run_convert_bytes_string w su du e _ _ c e2 e6 e4];exact run_bytesToString w ad 0 c [] (by simp[loadCells,loadCellsFrom])
     ·have hne:ns.length≠0:=by simpa using h0
      rcases h4 with h4|⟨b,o,es,kk,rfl,h5⟩
      ·simp at h4;exact absurd h4 h0
      have h5':∀i,i<ns.length->∃y:Value,H b (o+i)=some y/\y=.int .u8 (ns.getD i 0):=by
       intro i hi;obtain⟨g1,g2⟩:=h5 i (by simpa using hi);have hgi:(ns.map fun n=>[D.int .u8 n]).getD i []=[D.int .u8 (ns.getD i 0)]:=by
        simp[List.getD,WH hi]
       rw[hgi]at g1 g2;have hes:es=1:=g1.symm
       subst hes;obtain⟨y,hy,hf⟩:=g2 0 Z1;refine⟨y,by rw[<- hy];congr 1;omega,?_⟩;exact(dL ⟨_,hf⟩).1
      refine⟨.string (strOfNums ns),sc (.str _),fun b'=>b'=b,fun b' hb'=>?_,fun w2 hw2=>?_,?_,h⟩
      ·subst hb';obtain⟨y,hy,_⟩:=h5' 0 Z1;exact⟨_,y,hy⟩
      ·refine run_convert_bytes_arg w2 su e e2 e6 b o _ c ns rfl (fun i hi=>?_) du e4;obtain⟨y,hy,hyy⟩:=h5' i hi;have this:w.cell? ⟨b,o+i,none⟩=some y:=hm.agree b (o+i) y hy
       rw[World.cell?_of_block (w:=w) (hw2 b rfl),this,hyy]
      ·exact m9 (by rw[WJ];exact hb)
   |.one (.c .nil),h=>
    obtain⟨h3,h⟩:=h;obtain⟨_,de,_,e6,e7,_⟩:=aP h3 (by simp);obtain rfl:=GJ e7;obtain⟨_,rfl⟩:=hx;exact⟨.string ByteArray.empty,sc (.str []),fun _=>False,fun _ h=>h.elim,fun w _=>run_convert_bytes_nil w su e e2 e6 _ _ du e4,m9 (l:=[]) (by simp),h⟩
  |_=>rw[h1,h2]at h;exact h.elim
 |_=>rw[h1]at h;exact h.elim
def sI:TK->Bool->Bool
 |.str,b=>b
 |.sl _,b=>!b
 |_,_=>false
def opC(nt:Nat)(o:Oper):Bool:=
 okD nt o.dst&&match o.op with
 |.move x=>ax x
 |.assign x=>ax x
 |.pick c x y=>ax c&&ax x&&ax y
 |.binOp _ _ x y _=>ax x&&ax y
 |.unOp _ _ x=>ax x
 |.load _ x=>ax x
 |.field _ x _=>ax x
 |.fieldAddr _ x _=>ax x
 |.indexAddr _ x i=>ax x&&ax i
 |.index _ x i=>ax x&&ax i
 |.extract x _=>ax x
 |.convert _ _ x=>ax x
 |.slice _ x lo hi none=>ax x&&lo.all ax&&hi.all ax
 |.nilCheck x=>ax x
 |.build _ ps=>ps.toList.all fun x=>ax x.2
 |.store _ x v=>ax x&&ax v
 |.alloc _=>true
 |.box _ x=>ax x
 |.buildSlice _ _ ps=>ps.toList.all fun x=>ax x.2
 |.call c=>c.args.toList.all ax
 |.makeMap _ r=>match r with
  |some x=>ax x
  |none=>true
 |.lookup _ x i _=>ax x&&ax i
 |.mapUpdate _ m i v=>ax m&&ax i&&ax v
 |.makeSlice _ n c=>ax n&&ax c
 |.makeFunc _ _ ps=>ps.toList.all ax
 |.range _ x=>ax x
 |.next x _=>ax x
 |.entry x=>ax x
 |_=>false
def opK(P:Program)(cs:CT)(o:Oper)(s:S)(k:S->Prop):Prop:=
 match o.op with
 |.move x=>k (s.put o.dst (ev s x))
 |.assign x=>k (s.put o.dst (ev s x))
 |.pick c x y=>Di (ev s c) (ev s x) (ev s y) fun v=>k (s.put o.dst v)
 |.binOp op t x y _=>EM P op t (ev s x) (ev s y) fun v=>k (s.put o.dst v)
 |.unOp op _ x=>unK op (ev s x) fun v=>k (s.put o.dst v)
 |.load t x=>p5 P s.m t (ev s x) fun v=>k (s.put o.dst v)
 |.field t x i=>rz P t (ev s x) i fun v=>k (s.put o.dst v)
 |.fieldAddr t x i=>eQ P s.m t (ev s x) i fun v=>k (s.put o.dst v)
 |.indexAddr t x i=>eV P s.m t (ev s x) (ev s i) fun v=>k (s.put o.dst v)
 |.index t x i=>(ty P t).k=.str/\r8 (ev s x) (ev s i) fun v=>k (s.put o.dst v)
 |.extract x i=>iO (ev s x) i fun v=>k (s.put o.dst v)
 |.convert su du x=>pS P su du (ev s x) fun v=>k (s.put o.dst v)
 |.slice t x lo hi none=>kc P t (ev s x) (lo.map (ev s)) (hi.map (ev s)) fun v=>k (s.put o.dst v)
 |.nilCheck x=>kM (ev s x) fun v=>k (s.put o.dst v)
 |.build t ps=>oJ P t (iX s ps) fun v=>k (s.put o.dst v)
 |.store t x v=>r7 P s t (ev s x) (ev s v) fun s'=>k (s'.put o.dst .any)
 |.alloc t=>match o.dst with
  |some d=>qY P s t d k
  |none=>False
 |.box t x=>match o.dst with
  |some d=>Kq s x d k
  |none=>False
 |.buildSlice t n ps=>match o.dst with
  |some d=>fd P s t n ps d k
  |none=>False
 |.call c=>match c.callee,c.args.toList,c.argTypes.toList with
  |.builtin .len,[x],[t]=>sI (ty P t).k (nE (ev s x))=true/\CQ s.m (ev s x) fun n=>k (s.put o.dst (sc (.int .i64 (n:Int))))
  |.builtin .append,[x,y],[t,u]=>match o.dst with
   |some d=>nr P s t u x y d k
   |none=>False
  |.value (.func f),args,_=>match cs.get f with
   |some C=>C s args fun s' av=>k (s'.put o.dst av)
   |none=>False
  |_,_,_=>False
 |_=>False
def qK(P:Program)(o:Oper)(s:S)(k:AV->Prop):Prop:=
 match o.op with
 |.move x=>k (ev s x)
 |.assign x=>k (ev s x)
 |.pick c x y=>Di (ev s c) (ev s x) (ev s y) k
 |.binOp op t x y _=>EM P op t (ev s x) (ev s y) k
 |.unOp op _ x=>unK op (ev s x) k
 |.load t x=>p5 P s.m t (ev s x) k
 |.field t x i=>rz P t (ev s x) i k
 |.fieldAddr t x i=>eQ P s.m t (ev s x) i k
 |.indexAddr t x i=>eV P s.m t (ev s x) (ev s i) k
 |.index t x i=>(ty P t).k=.str/\r8 (ev s x) (ev s i) k
 |.extract x i=>iO (ev s x) i k
 |.convert su du x=>pS P su du (ev s x) k
 |.slice t x lo hi none=>kc P t (ev s x) (lo.map (ev s)) (hi.map (ev s)) k
 |.nilCheck x=>kM (ev s x) k
 |.build t ps=>oJ P t (iX s ps) k
 |.call c=>match c.callee,c.args.toList,c.argTypes.toList with
  |.builtin .len,[x],[t]=>sI (ty P t).k (nE (ev s x))=true/\CQ s.m (ev s x) fun n=>k (sc (.int .i64 (n:Int)))
  |_,_,_=>False
 |_=>False
def isQ(o:Oper):Bool:=
 match o.op with
 |.move _=>true
 |.assign _=>true
 |.pick _ _ _=>true
 |.binOp _ _ _ _ _=>true
 |.unOp _ _ _=>true
 |.load _ _=>true
 |.field _ _ _=>true
 |.fieldAddr _ _ _=>true
 |.indexAddr _ _ _=>true
 |.index _ _ _=>true
 |.extract _ _=>true
 |.convert _ _ _=>true
 |.slice _ _ _ _ none=>true
 |.nilCheck _=>true
 |.build _ _=>true
 |.call c=>match c.callee with
  |.builtin .len=>true
  |_=>false
 |_=>false
def eT(s:S)(o:Oper):Prop:=
 match o.op with
 |.load _ x=>Cu (ev s x)=true
 |_=>True
section
variable {P:Program} {cs:CT} {g:G} {Q:Exit->S->Prop} {s:S}
theorem pm{o:Oper}{K:S->Prop}
  (h:∀a w H γ F,RX g s a w H γ F->∃s' y w' H' γ' F',(execOp a.eval o).run P w=.ok (.value y) w'/\K s'/\RX g s' (a.put o.dst y) w' H' γ' F'):AO P g o K Q s:=by
 intro a w ⟨H,γ,F,hX⟩;obtain⟨s',y,w',H',γ',F',h1,h2,h3⟩:=h a w H γ F hX;unfold Oper.wp;rw[h1];exact⟨s',h2,H',γ',F',h3⟩
theorem Jj{o:Oper}{K:S->Prop}(hq:isQ o=true)(h:opK P cs o s K):qK P o s (fun v=>K (s.put o.dst v)):=by
 unfold isQ at hq;unfold opK at h;unfold qK;cases ho:o.op with
 |slice t x lo hi mx=>rw[ho]at h hq;cases mx with
  |none=>exact h
  |some _=>simp at hq
 |call c=>
  rw[ho]at h hq;dsimp only at h hq⊢;obtain⟨callee,args,argTypes⟩:=c;obtain⟨args⟩:=args;obtain⟨argTypes⟩:=argTypes;dsimp only at h hq⊢;cases callee with
  |builtin b=>
   cases b with
   |len=>match args,argTypes,h with
    |[x],[t],h=>exact h
   |_=>simp at hq
  |_=>simp at hq
 |_=>rw[ho]at h hq;first|exact h|simp at hq
theorem vT{o:Oper}{k:AV->Prop}{a:Act}{w:World}{H:FH}{γ:Gam}{F:Nm->Fp}(hX:RX g s a w H γ F)(hc:opC g.nt o=true)(h:qK P o s k) :
  ∃z d,∃B:Nat->Prop,(eT s o->∀b,B b->∃o y,H b o=some y)/\(∀w2:World,(∀b,B b->w2.heap[b]? = w.heap[b]?)->(execOp a.eval o).run P w2=.ok (.value z) w2)/\AR w H γ s.m d z/\k d:=by
 unfold opC at hc;unfold qK at h;unfold eT;rw[WI]at hc;obtain⟨hd,hc⟩:=hc;have none:∀{z d},(∀w2:World,(execOp a.eval o).run P w2=.ok (.value z) w2)->AR w H γ s.m d z->k d ->
   ∃z d,∃B:Nat->Prop,((match o.op with|.load _ x=>Cu (ev s x)=true|_=>True)->∀b,B b->∃o y,H b o=some y)/\(∀w2:World,(∀b,B b->w2.heap[b]? = w.heap[b]?)->(execOp a.eval o).run P w2=.ok (.value z) w2)/\AR w H γ s.m d z/\k d:=
  fun{z d}h1 h2 h3=>⟨z,d,fun _=>False,fun _ _ h=>h.elim,fun w2 _=>h1 w2,h2,h3⟩
 cases ho:o.op with
 |move x=>
  rw[ho]at h hc;rw[<- ho];exact none (fun w2=>by simp[execOp,ho]) (aA hX hc) h
 |assign x=>
  rw[ho]at h hc;rw[<- ho];exact none (fun w2=>by simp[execOp,ho]) (aA hX hc) h
 |pick c x y=>
  rw[ho]at h hc;rw[<- ho];dsimp only at hc;simp only[WI]at hc;obtain⟨b,v,e1,e2,e3⟩:=Pk h (aA hX hc.1.1) (aA hX hc.1.2) (aA hX hc.2);refine none (fun w2=>?_) e2 e3;simp only[execOp,ho,e1,asBool,Sem.run_bind,Sem.run_pure,Result.andThen_ok]
 |binOp op t x y z=>
  rw[ho]at h hc;rw[<- ho];dsimp only at hc;simp only[WI]at hc;obtain⟨z,d,e1,e2,e3⟩:=QE (P:=P) (xo:=x) (yo:=y) h (aA hX hc.1) (aA hX hc.2);refine none (fun w2=>?_) e2 e3;simp only[execOp,ho];rw[Sem.run_bind,e1];rfl
 |unOp op t x=>
  rw[ho]at h hc;rw[<- ho];obtain⟨z,d,e1,e2,e3⟩:=U0 (P:=P) h (aA hX hc);exact none (fun w2=>by simp only[execOp,ho];rw[Sem.run_bind,e1];rfl) e2 e3
 |load t x=>
  rw[ho]at h hc;obtain⟨z,d,B,e0,e1,e2,e3⟩:=vh (P:=P) hX.mem h (aA hX hc);exact⟨z,d,B,e0,fun w2 hw2=>by simp only[execOp,ho];rw[Sem.run_bind,e1 w2 hw2];rfl,e2,e3⟩
 |field t x i=>
  rw[ho]at h hc;rw[<- ho];obtain⟨z,d,e1,e2,e3⟩:=K3 (P:=P) h (aA hX hc);exact none (fun w2=>by simp only[execOp,ho];rw[Sem.run_bind,e1];rfl) e2 e3
 |fieldAddr t x i=>
  rw[ho]at h hc;rw[<- ho];obtain⟨z,d,e1,e2,e3⟩:=wI (P:=P) hX.mem h (aA hX hc);exact none (fun w2=>by simp only[execOp,ho];rw[Sem.run_bind,e1];rfl) e2 e3
 |indexAddr t x i=>
  rw[ho]at h hc;rw[<- ho];dsimp only at hc;simp only[WI]at hc;obtain⟨z,d,e1,e2,e3⟩:=wL (P:=P) hX.mem h (aA hX hc.1) (aA hX hc.2);exact none (fun w2=>by simp only[execOp,ho];rw[Sem.run_bind,e1];rfl) e2 e3
 |index t x i=>
  rw[ho]at h hc;rw[<- ho];obtain⟨hs,h⟩:=h;dsimp only at hc;simp only[WI]at hc;obtain⟨z,d,e1,e2,e3⟩:=Md (P:=P) hs h (aA hX hc.1) (aA hX hc.2);exact none (fun w2=>by simp only[execOp,ho];rw[Sem.run_bind,e1];rfl) e2 e3
 |extract x i=>
  rw[ho]at h hc;rw[<- ho];obtain⟨z,d,e1,e2,e3⟩:=BY (P:=P) h (aA hX hc);exact none (fun w2=>by simp only[execOp,ho];rw[Sem.run_bind,e1];rfl) e2 e3
 |convert su du x=>
  rw[ho]at h hc;rw[<- ho];obtain⟨z,d,B,e0,e1,e2,e3⟩:=Oa (P:=P) hX.mem h (aA hX hc);exact⟨z,d,B,fun _=>e0,fun w2 hw2=>by simp only[execOp,ho];rw[Sem.run_bind,e1 w2 hw2];rfl,e2,e3⟩
 |slice t x lo hi mx=>
  rw[ho]at h hc;cases mx with
  |some _=>exact h.elim
  |none=>
   rw[<- ho];dsimp only at hc;simp only[WI]at hc;have opt:∀(y:Option Operand),y.all ax=true->JL w H γ s.m (y.map (ev s)) (y.map a.eval):=by
    intro y hy;cases y with
    |none=>exact trivial
    |some y=>exact aA hX (by simpa using hy)
   obtain⟨z,d,e1,e2,e3⟩:=L6 (P:=P) h (aA hX hc.1.1) (opt lo hc.1.2) (opt hi hc.2);exact none (fun w2=>by simp only[execOp,ho,X3];rw[Sem.run_bind,e1];rfl) e2 e3
 |nilCheck x=>
  rw[ho]at h hc;rw[<- ho];obtain⟨⟨ad,e1⟩,e2⟩:=zL h (aA hX hc);refine none (z:=a.eval x) (d:=ev s x) (fun w2=>?_) (aA hX hc) e2;simp only[execOp,ho,e1,Sem.run_pure]
 |build t ps=>
  rw[ho]at h hc;rw[<- ho];obtain⟨z,d,e1,e2,e3⟩:=Ks (P:=P) hX.mem (vs:=ps.map fun(i,x)=>(i,a.eval x)) h (by rw[Array.toList_map];exact pD (m:=s.m) hX hc);exact none (fun w2=>by simp only[execOp,ho];rw[Sem.run_bind,e1];rfl) e2 e3
 |call c=>
  rw[ho]at h hc;rw[<- ho];obtain⟨callee,args,argTypes⟩:=c;obtain⟨args⟩:=args;obtain⟨argTypes⟩:=argTypes;dsimp only at h hc;cases callee with
  |builtin b=>
   cases b with
   |len=>
    match args,argTypes,h with
    |[x],[t],h=>
     obtain⟨h2,h3⟩:=h;have h1:ax x=true:=by simpa using hc
     obtain⟨n,e1,e2,e3⟩:=RR hX.mem h3 (aA hX h1);refine none (z:=.int .i64 n) (d:=sc (.int .i64 n)) (fun w2=>?_) (ke e2) e1;have hne:(ty P t).k≠.ot:=fun e=>by rw[e]at h2;simp[sI]at h2
     obtain⟨_,ud,_,u2,u3,_⟩:=aP rfl hne;rcases e3 with⟨l,u1,rfl,u4⟩|⟨b,c,u1,u4⟩
     ·rw[u4]at h2;have hk:(ty P t).k=.str:=by
       cases hk:(ty P t).k<;>rw[hk]at h2<;>first|rfl|(simp[sI]at h2)
      rw[hk]at u3;obtain rfl:=Ak u3;simp[execOp,ho,resolve,invoke,builtin,Builtin.len_,run_underlying u2,u1,goInt];rfl
     ·rw[u4]at h2;obtain⟨e,hk⟩:∃e,(ty P t).k=.sl e:=by
       cases hk:(ty P t).k<;>rw[hk]at h2<;>first|exact⟨_,rfl⟩|(simp[sI]at h2)
      rw[hk]at u3;obtain rfl:=lZ u3;simp[execOp,ho,resolve,invoke,builtin,Builtin.len_,run_underlying u2,u1,goInt]
   |_=>exact h.elim
  |_=>exact h.elim
 |_=>rw[ho]at h;exact h.elim
theorem dy{o:Oper}(hc:opC g.nt o=true):okD g.nt o.dst=true:=by
 unfold opC at hc;rw[WI]at hc;exact hc.1
theorem D4(hcs:cs.Ok P){o:Oper}{K:S->Prop}(hc:opC g.nt o=true)(h:opK P cs o s K):AO P g o K Q s:=by
 by_cases hq:isQ o=true
 ·have h:=Jj hq h
  refine Mn (dy hc) (fun a w H γ F hX=>?_);obtain⟨z,d,B,_,e1,e2,e3⟩:=vT hX hc h;exact⟨z,d,e1 w (fun _ _=>rfl),e2,e3⟩
 unfold opC at hc;unfold opK at h;rw[WI]at hc;obtain⟨hd,hc⟩:=hc;cases ho:o.op with
 |store t x v=>
  rw[ho]at h hc
  try dsimp only at hc
  have h1:=hc;have h2:=h
  simp only[WI]at h1;intro a w ⟨H,γ,F,hX⟩;obtain⟨s',w',γ',F',e1,e2,e3⟩:=Ma (P:=P) hX h2 (aA hX h1.1) (aA hX h1.2);unfold Oper.wp;have:(execOp a.eval o).run P w=.ok .skip w':=by simp only[execOp,ho];rw[Sem.run_bind,e1];rfl
  rw[this];exact⟨_,e2,H,γ',F',e3.put hd trivial⟩
 |alloc t=>
  rw[ho]at h hc
  try dsimp only at hc
  cases hdd:o.dst with
  |none=>rw[hdd]at h;exact h.elim
  |some d=>
   rw[hdd]at h hd;refine pm (fun a w H γ F hX=>?_);obtain⟨s',y,w',γ',F',e1,e2,e3⟩:=Kd (P:=P) hX hd h;exact⟨s',y,w',H,γ',F',by simp only[execOp,ho];rw[Sem.run_bind,e1];rfl,e2,by rw[hdd];exact e3⟩
 |box t x=>
  rw[ho]at h hc
  try dsimp only at hc
  cases hdd:o.dst with
  |none=>rw[hdd]at h;exact h.elim
  |some d=>
   rw[hdd]at h hd;refine pm (fun a w H γ F hX=>?_);obtain⟨s',y,w',H',γ',F',e1,e2,e3⟩:=QH (P:=P) (t:=t) hX hd hc h;exact⟨s',y,w',H',γ',F',by simp only[execOp,ho];rw[Sem.run_bind,e1];rfl,e2,by rw[hdd];exact e3⟩
 |buildSlice t n ps=>
  rw[ho]at h hc
  try dsimp only at hc
  cases hdd:o.dst with
  |none=>rw[hdd]at h;exact h.elim
  |some d=>
   rw[hdd]at h hd;refine pm (fun a w H γ F hX=>?_);obtain⟨s',y,w',H',γ',F',e1,e2,e3⟩:=uu (P:=P) hX hd hc h;exact⟨s',y,w',H',γ',F',by simp only[execOp,ho];rw[Sem.run_bind,e1];rfl,e2,by rw[hdd];exact e3⟩
 |call c=>
  rw[ho]at h hc
  try dsimp only at hc
  obtain⟨callee,args,argTypes⟩:=c;obtain⟨args⟩:=args;obtain⟨argTypes⟩:=argTypes;dsimp only at h;cases callee with
  |builtin b=>
   cases b with
   |append=>
    match args,argTypes,h with
    |[x,y],[t,u],h=>
     cases hdd:o.dst with
     |none=>rw[hdd]at h;exact h.elim
     |some d=>
      rw[hdd]at h hd;have h2:=h
      have h1:ax x=true/\ax y=true:=by simpa using hc
      refine pm (fun a w H γ F hX=>?_);obtain⟨s',y',w',H',γ',F',e1,e2,e3⟩:=EG (P:=P) (tt:=o.type) hX hd h1.1 h1.2 h2;refine⟨s',y',w',H',γ',F',?_,e2,by rw[hdd];exact e3⟩;simp only[execOp,ho,resolve,invoke,builtin,Sem.run_bind,Sem.run_pure,Result.andThen_ok,List.map_toArray,List.map_cons,List.map_nil];rw[e1];rfl
   |len=>exact absurd (by simp[isQ,ho]) hq
   |_=>exact h.elim
  |value v=>
   cases v with
   |func f=>
    dsimp only at h;have h1:=hc;have h2:=h
    cases hg:cs.get f with
    |none=>rw[hg]at h2;exact h2.elim
    |some C=>
     rw[hg]at h2;have hC:=CT.ok_get hcs hg
     intro a w ⟨H,γ,F,hX⟩;have hr:(execOp a.eval o).run P w=.ok (.enter f (args.map a.eval).toArray) w:=by
      simp only[execOp,ho,resolve,Act.eval,Deferred.ofValue,Sem.run_bind,Sem.run_pure,Result.andThen_ok,invoke];rw[hC.run];simp
     unfold Oper.wp;rw[hr];refine Calls.mono (hC.call g s a w H γ F args _ hX h1 h2) (fun e w'⟨r,s',av,H',γ',F',k1,k2,k3,k4⟩=>?_);subst k1;exact⟨_,k2,H',γ',F',k4.put hd k3⟩
   |_=>exact h.elim
  |invoke r n=>exact h.elim
 |slice t x lo hi mx=>rw[ho]at h;cases mx with
  |none=>exact absurd (by simp[isQ,ho]) hq
  |some _=>exact h.elim
 |_=>rw[ho]at h;first|exact h.elim|exact absurd (by simp[isQ,ho]) hq
end
def Sj(P:Program)(cs:CT)(all:List Oper):List Oper->S->(S->Prop)->Prop
 |[],s,k=>k s
 |o::r,s,k=>match o.guard with
  |none=>opK P cs o s fun s'=>Sj P cs all r s' k
  |some (j,want)=>match(all[j]?).bind (·.dst)with
   |some d=>match aL s.t d with
    |.one (.c (.d (.bool c)))=>
     gsel c want (opK P cs o (s.put (some d) (sc (.bool want))) fun s'=>Sj P cs all r s' k)
      (Sj P cs all r ((s.put (some d) (sc (.bool (!want)))).put o.dst (.tup [])) k)
    |.tup []=>Sj P cs all r (s.put o.dst (.tup [])) k
    |_=>False
   |none=>False
def Si(nt:Nat)(all:List Oper):List Oper->Bool
 |[]=>true
 |o::r=>opC nt o&&(match o.guard with
  |none=>true
  |some (j,_)=>match(all[j]?).bind (·.dst)with
   |some d=>decide (d<nt)
   |none=>true)&&Si nt all r
theorem AO.mono{P:Program}{g:G}{o:Oper}{K K':S->Prop}{Q:Exit->S->Prop}{s:S}(hk:∀s,K s->K' s)(h:AO P g o K Q s):AO P g o K' Q s:=fun a w hR=>
 bG (fun _ _⟨s',h1,h2⟩=>⟨s',hk _ h1,h2⟩) (fun _ _ _ h=>h) (h a w hR)
def S.keep(s:S)(ks:List Nat):S:=⟨s.t.filter fun x=>ks.contains x.1,s.m⟩
def T.isFz:T->Bool
 |.pl _=>false
 |.rf _=>false
 |.ow _ _=>false
 |.mp _=>false
 |.it _ _=>false
 |_=>true
def AV1.isFz:AV1->Bool
 |.c t=>t.isFz
 |.agg ts=>ts.all T.isFz
def AV.isFz:AV->Bool
 |.one x=>x.isFz
 |.tup xs=>xs.all AV1.isFz
 |.any=>true
section
variable {w w':World} {H H':FH} {γ γ':Gam} {m m':Mm}
theorem Tf(hH:∀b o y,H b o=some y->H' b o=some y){t:T}{f:Fp}{y:Value}(hz:t.isFz=true)(h:TR w H γ m t f y):TR w' H' γ' m' t f y:=by
 cases t with
 |d x=>exact⟨h.1,cr hH h.2⟩
 |nil=>exact h
 |el row off=>obtain⟨h0,b,o,k,h1,h2⟩:=h;exact⟨h0,b,o,k,h1,ki hH h2⟩
 |any=>exact h
 |_=>simp[T.isFz]at hz
theorem Th(hH:∀b o y,H b o=some y->H' b o=some y):∀{ts:List T}{f:Fp}{vs:List Value},ts.all T.isFz=true->Ts (TR w H γ m) ts f vs->Ts (TR w' H' γ' m') ts f vs
 |[],_,_,_,h=>h
 |t::ts,f,vs,hz,h=>by
  simp only[W0,WI]at hz;obtain⟨v,r,f1,f2,h1,h2,h3,h4⟩:=h;exact⟨v,r,f1,f2,h1,h2,Tf hH hz.1 h3,Th hH hz.2 h4⟩
theorem Mo(hH:∀b o y,H b o=some y->H' b o=some y){x:AV1}{y:Value}(hz:x.isFz=true)(h:AR1 w H γ m x y):AR1 w' H' γ' m' x y:=by
 cases x with
 |c t=>exact Tf hH hz h
 |agg ts=>obtain⟨cs,h1,h2,h3⟩:=h;exact⟨cs,h1,h2,Th hH hz h3⟩
theorem Mt(hH:∀b o y,H b o=some y->H' b o=some y):∀{xs:List AV1}{ys:List Value},xs.all AV1.isFz=true->ARs w H γ m xs ys->ARs w' H' γ' m' xs ys
 |[],[],_,_=>trivial
 |x::xs,y::ys,hz,h=>by
  simp only[W0,WI]at hz;exact⟨Mo hH hz.1 h.1,Mt hH hz.2 h.2⟩
 |[],_::_,_,h=>h.elim
 |_::_,[],_,h=>h.elim
theorem l7(hH:∀b o y,H b o=some y->H' b o=some y){x:AV}{y:Value}(hz:x.isFz=true)(h:AR w H γ m x y):AR w' H' γ' m' x y:=by
 cases x with
 |one x=>exact Mo hH hz h
 |tup xs=>obtain⟨l,h1,h2⟩:=h;exact⟨l,h1,Mt hH hz h2⟩
 |any=>trivial
end
def bv:Nat->List AV->List (Nat×AV)
 |_,[]=>[]
 |k,x::r=>(k,x)::bv (k+1) r
theorem dF:∀(k:Nat)(l:List AV)(i:Nat),aL (bv k l) i=if k<=i then(l[i-k]?).getD .any else .any
 |k,[],i=>by simp[bv,aL]
 |k,x::r,i=>by
  simp only[bv,aL,dF (k+1) r i];by_cases h:k=i
  ·subst h;simp
  ·rw[if_neg h];by_cases h2:k+1<=i
   ·rw[if_pos h2,if_pos Z1];have:i-k=(i - (k+1))+1:=by omega
    rw[this,Xx]
   ·rw[if_neg h2,if_neg Z1]
def T.canon:T->T
 |.nil=>.d (.li [])
 |.it _ l=>.it none l
 |t=>t
theorem Tg{w:World}{H:FH}{γ:Gam}{m m':Mm}{cur:Option (D×D)}{l:List (D×D)}{f:Fp}{y:Value}(h:TR w H γ m (.it cur l) f y):TR w H γ m' (.it none l) f y:=by
 obtain⟨r,q,a,s,c,h1,h2,h3,h4⟩:=h;refine⟨r,q,a,s,c,h1,h2,?_,h4⟩;cases q with
 |none=>exact⟨rfl,h3.2⟩
 |some b=>obtain⟨es,ck,k1,k2,k3,k4,_⟩:=h3;exact⟨es,ck,k1,k2,k3,k4,trivial⟩
theorem ct{w:World}{H:FH}{γ:Gam}{m:Mm}(t:T)(y:Value)(h:TR w H γ m t (fun _=>0) y):TR w H γ m t.canon (fun _=>0) y:=by
 cases t with
 |nil=>obtain⟨_,rfl⟩:=h;exact⟨fun _=>rfl,jj⟩
 |it cur rest=>exact Tg h
 |_=>exact h
def lA(s:S)(n:Nm):Nat->S
 |0=>s
 |i+1=>Ce (lA s n i) ⟨n,i,[]⟩
def mE(s:S):ResultVar->S
 |.tmp t=>Cf s (aL s.t t)
 |.cell a _=>match aL s.t a with
  |.one (.c (.pl p))=>match ab s.m p.root with
   |some r=>lA s p.root r.cells.length
   |none=>s
  |_=>s
def fB:S->List ResultVar->S
 |s,[]=>s
 |s,r::rs=>fB (mE s r) rs
def rZ(P:Program)(s:S):ResultVar->(AV->Prop)->Prop
 |.tmp t,k=>k (aL s.t t)
 |.cell a t,k=>p5 P s.m t (aL s.t a) k
def dS(P:Program)(s:S):List ResultVar->(List AV1->Prop)->Prop
 |[],k=>k []
 |r::rs,k=>rZ P s r fun
  |.one x=>dS P s rs fun xs=>k (x::xs)
  |_=>False
def qv(P:Program)(s:S)(rs:List ResultVar)(k:AV->Prop):Prop:=
 dS P (fB s rs) rs fun
  |[x]=>x.isFz=true/\k (.one (x.map T.canon))
  |xs=>xs.all AV1.isFz=true/\k (.tup (xs.map (·.map T.canon)))
section
variable {P:Program} {g:G} {s:S} {a:Act} {w:World} {H:FH} {γ:Gam} {F:Nm->Fp}
theorem uc(h:RX g s a w H γ F)(n:Nm):∀i,∃H' F',RX g (lA s n i) a w H' γ F'
 |0=>⟨H,F,h⟩
 |i+1=>by
  obtain⟨H1,F1,h1⟩:=uc h n i;exact Ek h1 _
theorem JN(h:RX g s a w H γ F)(r:ResultVar):∃H' F',RX g (mE s r) a w H' γ F':=by
 cases r with
 |tmp t=>exact yN h _
 |cell a' t=>
  simp only[mE];split
  ·split
   ·exact uc h _ _
   ·exact⟨H,F,h⟩
  ·exact⟨H,F,h⟩
theorem oG:∀(rs:List ResultVar)(s:S)(H:FH)(F:Nm->Fp),RX g s a w H γ F->∃H' F',RX g (fB s rs) a w H' γ F'
 |[],s,H,F,h=>⟨H,F,h⟩
 |r::rs,s,H,F,h=>by
  obtain⟨H1,F1,h1⟩:=JN h r;exact oG rs _ H1 F1 h1
def jb(tmps:Array Value):ResultVar->Sem Value
 |.tmp t=>pure (tmps.getD t undef)
 |.cell a t=>do loadVar t (<- asAddr (tmps.getD a undef))
theorem L2(h:RX g s a w H γ F)(hex:g.ex=none){r:ResultVar}{k:AV->Prop}(hk:rZ P s r k):∃y v,(jb a.tmps r).run P w=.ok y w/\AR w H γ s.m v y/\k v:=by
 cases r with
 |tmp t=>
  have ht:=h.t t
  rw[G.tv_none hex]at ht;exact⟨_,_,rfl,ht,hk⟩
 |cell a' t=>
  simp only[rZ]at hk;obtain⟨z,d,B,_,e1,e2,e3⟩:=vh (P:=P) h.mem hk (by have ht:=h.t a';rw[G.tv_none hex]at ht;exact ht)
  replace e1:=e1 w (fun _ _=>rfl)
  refine⟨z,d,?_,e2,e3⟩;simp only[jb];simp only[Instr.loadAt]at e1;generalize a.tmps.getD a' undef=u at e1;cases u with
  |pointer ad=>
   cases ad with
   |some ad=>simpa[asAddr,Instr.sureAddr]using e1
   |none=>simp[Instr.sureAddr]at e1
  |_=>simp[Instr.sureAddr]at e1
theorem pc(h:RX g s a w H γ F)(hex:g.ex=none):∀{rs:List ResultVar}{k:List AV1->Prop},dS P s rs k->∃ys xs,(rs.mapM (jb a.tmps)).run P w=.ok ys w/\ARs w H γ s.m xs ys/\k xs/\ys.length=rs.length
 |[],k,hk=>⟨[],[],rfl,trivial,hk,rfl⟩
 |r::rs,k,hk=>by
  obtain⟨y,v,e1,e2,e3⟩:=L2 h hex hk;cases v with
  |one x=>
   obtain⟨ys,xs,f1,f2,f3,f4⟩:=pc h hex e3;refine⟨y::ys,x::xs,?_,⟨e2,f2⟩,f3,by simp[f4]⟩;simp[List.mapM_cons,e1,f1]
  |tup _=>exact e3.elim
  |any=>exact e3.elim
theorem gc(fn:Func)(tmps:Array Value):results fn tmps=(do
  let vs <- fn.results.mapM (jb tmps)
  pure (if h:vs.size=1 then vs[0]else .tuple vs)):=by
 unfold results
 congr 1
theorem tC(h:RX g s a w H γ F)(hex:g.ex=none){fn:Func}{k:AV->Prop}(hk:qv P s fn.results.toList k) :
  ∃y v s' H' F',(results fn a.tmps).run P w=.ok y w/\RX g s' a w H' γ F'/\AR w H' γ s'.m v y/\v.isFz=true/\k (v.map T.canon):=by
 unfold qv at hk;obtain⟨H1,F1,h1⟩:=oG fn.results.toList s H F h;obtain⟨ys,xs,e1,e2,e3,e4⟩:=pc h1 hex hk;have hrun:(results fn a.tmps).run P w=.ok (if h:ys.toArray.size=1 then ys.toArray[0]else .tuple ys.toArray) w:=by
  rw[gc,Ya];simp[e1]
 refine⟨_,(match xs with|[x]=>.one x|xs=>.tup xs),_,H1,F1,hrun,h1,?_⟩
 match xs,ys,e2,e3 with
 |[],[],e2,e3=>exact⟨⟨#[],by simp,trivial⟩,e3.1,e3.2⟩
 |[x],[y],e2,e3=>exact⟨e2.1,e3.1,e3.2⟩
 |x1::x2::xs,y1::y2::ys,e2,e3=>exact⟨⟨(y1::y2::ys).toArray,by simp,by simpa using e2⟩,e3.1,e3.2⟩
def Sz(P:Program)(rs:List ResultVar)(K:AV->Prop):Exit->S->Prop
 |.normal,s=>qv P s rs K
 |.ret,s=>qv P s rs K
 |_,_=>False
def mQ(φ:List AV->(AV->Prop)->Prop):CK1:=fun s ops k=>
 let s1:=iQ s (ops.map (ev s))
 (ops.map (ev s1)).all AV.isFz=true/\φ (ops.map fun x=>(ev s1 x).map T.canon) (fun r=>k s1 r)
theorem tP{f:Nat}{fn:Func}{c:Code}(hf:P.funcs[f]? = some fn) (hname:(fn.name == "runtime.NumGoroutine")=false) (hb:fn.body=some c) (φ:List AV->(AV->Prop)->Prop)
  (hlen:∀avs K,φ avs K->avs.length<=fn.ntmps)
  (hbody:∀(g:G)avs K,g.nt=fn.ntmps->φ avs K->AW P g c (Sz P fn.results.toList K) ⟨bv 0 avs,[]⟩):Con P f (mQ φ):=by
 refine⟨fun args w=>?_,?_⟩
 ·have h1:fn.name ≠ "runtime.NumGoroutine" := by simpa using hname
  simp[callFunc,hf,h1,hb]
 ·intro g s a w H γ F ops k hX hops hK;unfold mQ at hK;dsimp only at hK;obtain⟨H1,F1,h1⟩:=km (ops.map (ev s)) s H F hX;generalize iQ s (ops.map (ev s))=s1 at hK h1;obtain⟨hfz,hφ⟩:=hK
  let g1:G:=⟨fn.ntmps,w,H1,fun _=>0,fun _=>none,none,[]⟩
  have hle:=hlen _ _ hφ
  rw[WJ]at hle;refine calls_of_wp hf hb (Code.wp_mono (fun e a' w' hl=>?_) (hbody g1 _ _ rfl hφ _ w ⟨H1,γ,F1,?_⟩))
  ·obtain⟨s',hq,H',γ',F',hX'⟩:=hl;have fin:qv P s' fn.results.toList (fun r=>k s1 r)->a'.defers=[]/\∃v,(results fn a'.tmps).run P w'=.ok v w'/\∃r s'' av H'' γ'' F'',Ending.returned v=.returned r/\k s'' av/\AR w' H'' γ'' s''.m av r/\RX g s'' a w' H'' γ'' F'':=by
    intro hq;obtain⟨y,v,s2,H2,F2,e1,e2,e3,e4,e5⟩:=tC hX' rfl hq;have hfr:=e2.fr
    dsimp only[g1]at hfr;have hold:∀b,b<w.heap.size->w'.heap[b]? = w.heap[b]? := fun b hb=>hfr.block b hb rfl
    have hnew:∀b,b<w.heap.size->H1 b=H2 b:=by
     intro b hb
     funext o
     cases hc:H1 b o with
     |some y=>rw[hfr.hold b o y hc]
     |none=>
      cases hc2:H2 b o with
      |none=>rfl
      |some y=>
       rcases hfr.hnew b o (by rw[hc2];simp) hc with h'|h'
       ·exact absurd rfl h'
       ·omega
    have hsame:∀b,tot F1 s1.m b≠0->w'.heap[b]? = w.heap[b]? := fun b hb=>hold b (h1.mem.lt b hb)
    have hKp:=cD (w':=w') h1.mem hsame
    have hmem:Mem w' H2 γ s1.m F1:=by
     refine⟨e2.mem.agree,fun x hx=>aN hKp hfr.hold rfl (fun b hb=>hsame b (by have:=aW (F:=F1) hx b;omega)) (h1.mem.roots x hx),h1.mem.keys,h1.mem.le1,fun b hb=>by have:=h1.mem.lt b hb;have:=hfr.size;omega,fun b hb o=>?_⟩;rw[<- hnew b (h1.mem.lt b hb)];exact h1.mem.nofz b hb o
    have hFr:Fr w H1 (tot F1 s1.m) w' H2 (tot F1 s1.m):=
     ⟨hfr.size,hfr.os,hfr.tape,hfr.output,fun b hb _=>hold b hb,hfr.hold,fun b o h2 h3=>by
      right
      rcases W4 b w.heap.size with h'|h'
      ·rw[<- hnew b h']at h2;exact absurd h3 h2
      ·exact h',fun b hb=>.inl hb,hfr.nz⟩
    exact⟨e2.df.1,y,e1,y,s1,v.map T.canon,H2,γ,F1,rfl,e5,dW ct (l7 (fun _ _ _ h=>h) e4 e3),fp h1 hmem hFr (fun i=>bV hKp hfr.hold (h1.t i)) (fun _=>rfl)⟩
   cases e with
   |normal=>exact fin hq
   |ret=>exact fin hq
   |_=>exact hq.elim
  ·refine⟨⟨h1.mem.agree,fun x hx=>by simp at hx,by simp,fun b=>Xq _,fun b hb=>absurd rfl hb,fun b hb=>absurd rfl hb⟩,⟨WN _,rfl,rfl,rfl,fun _ _ _=>rfl,fun _ _ _ h=>h,fun b o h2 h3=>absurd h3 h2,fun b hb=>absurd rfl hb,jE⟩,?_,⟨rfl,fun j b e=>by simp[g1]at e,ea h1⟩,fun i=>?_⟩
   ·simp[g1];omega
   ·rw[dF];simp only[Xq,if_true,Yp,WK];cases hi:ops[i]? with
    |none=>simp only[X3,Yh];trivial
    |some x=>
     have hx:=aA h1 (WY.1 hops x (W9 hi))
     simp only[Option.map_some,Xb];have hz:(ev s1 x).isFz=true:=by
      have:=WY.1 hfz (ev s1 x) (Xg (W9 hi))
      exact this
     have hget:((ops.map a.eval).toArray++Array.replicate (fn.ntmps - (ops.map a.eval).toArray.size) undef).getD i undef=a.eval x:=by
      rw[Xf,XD (by simp;exact ah hi)];simp[hi]
     rw[G.tv_none rfl,hget];exact dW ct (l7 (fun _ _ _ h=>h) hz hx)
end
end Go.Am
end
