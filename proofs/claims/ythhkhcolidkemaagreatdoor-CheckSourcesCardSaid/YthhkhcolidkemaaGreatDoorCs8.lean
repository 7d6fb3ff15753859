/-
  Part 8: AmStep · AmPure.
-/
import Derived.Test.YthhkhcolidkemaaGreatDoorCs7
import Derived.Laws.BytesArg
set_option linter.unusedSimpArgs false
set_option linter.unusedVariables false
set_option linter.unusedSectionVars false
set_option linter.unnecessarySimpa false
section
namespace Go.Am
abbrev CK1:=S->List Operand->(S->AV->Prop)->Prop
abbrev CT:=List (Nat×CK1)
def CT.get:CT->Nat->Option CK1
 |[],_=>none
 |(f,c)::r,i=>if f=i then some c else CT.get r i
structure Con (P:Program) (f:Nat) (C:CK1):Prop where
 run:∀args w,(callFunc f args).run P w=.ok (.enter f args) w
 call:∀(g:G)(s:S)(a:Act)(w:World)(H:FH)(γ:Gam)(F:Nm->Fp)(ops:List Operand)(k:S->AV->Prop),RX g s a w H γ F->ops.all aF=true->C s ops k ->
  Calls P f (ops.map a.eval).toArray w (fun e w'=>∃r s' av H' γ' F',e=.returned r/\k s' av/\AR w' H' γ' s'.m av r/\RX g s' a w' H' γ' F')
def CT.Ok(P:Program)(cs:CT):Prop:=∀x∈cs,Con P x.1 x.2
theorem CT.ok_get{P:Program}{cs:CT}(h:cs.Ok P){f:Nat}{C:CK1}(hg:cs.get f=some C):Con P f C:=by
 induction cs with
 |nil=>grind [CT.get]
 |cons x cs ih=>
  obtain⟨f',c⟩:=x;simp only[CT.get]at hg;split at hg
  ·rename_i e;subst e;obtain rfl:=Option.some.inj hg;exact h (f',c) (by simp)
  exact ih (fun y hy=>h y (aj1 _ hy)) hg
def uc:List (List D)->Option a8
 |[]=>some []
 |[.int .u8 n]::r=>(uc r).map fun l=>UInt8.ofNat n.toNat::l
 |_=>none
def ub(P:Program)(f a:TypeId)(x:AV)(k:AV->Prop):Prop:=
 match(ty P f).k,(ty P a).k,x with
 |.int _,.int κ,.one (.c (.d (.int _ n)))=>k (sc (.int κ (κ.wrap n)))
 |.sl e,.str,.one (.c (.d (.li l)))=>(ty P e).k=.int .u8/\match uc l with
  |some b=>k (sc (.str b))
  |none=>False
 |.sl e,.str,.one (.c .nil)=>(ty P e).k=.int .u8/\k (sc (.str []))
 |_,_,_=>False
theorem Sd:∀{l:List (List D)}{b:a8},uc l=some b->∃a:List Int,l=a.map (fun n=>[D.int .u8 n])/\b=a.map fun n=>UInt8.ofNat n.toNat:=by
 intro l;induction l with
 |nil=>simp_all[uc]
 |cons r rs ih=>
  intro b h;unfold uc at h;split at h
  ·grind
  ·rename_i n g d;obtain⟨rfl,rfl⟩:=List.cons.inj d;cases hd:uc rs with
   |none=>grind
   |some c=>
    rw[hd]at h;obtain⟨a,f,e⟩:=ih hd;simp only[Option.map_some,ai8]at h;exact⟨n::a,by grind,by grind⟩
  grind
theorem Ww{P:Program}{w:World}{H:FH}{γ:Gam}{m:Mm}{F:Nm->Fp}(hm:Mem w H γ m F){j g:TypeId}{x:AV}{k:AV->Prop}{u:Value}(h:ub P j g x k)(hx:AR w H γ m x u) :
  ∃z d,∃B:Nat->Prop,(∀b,B b->∃o y,H b o=some y)/\(∀w2:World,(∀b,B b->w2.heap[b]? = w.heap[b]?)->(convert j g u).run P w2=.ok z w2)/\AR w H γ m d z/\k d:=by
 unfold ub at h;cases h1:(ty P j).k with
 |int L=>
  cases h2:(ty P g).k with
  |int κ=>
   rw[h1,h2]at h
   match x,h with
   |.one (.c (.d (.int J n))),h=>
    obtain⟨rfl,_⟩:=nM hx;obtain⟨_,ds,_,E,_,_⟩:=aS h1 (by simp);obtain⟨_,N,_,s,A,_⟩:=aS h2 (by simp);obtain rfl:=OA A;refine⟨.int κ (κ.wrap n),_,fun _=>False,fun _ h=>h.elim,fun w _=>?_,mL (wf_wrap _ _),h⟩
    grind [Program.intKind,run_convert_int]
  |_=>grind
 |sl e=>
  cases h2:(ty P g).k with
  |str=>
   rw[h1,h2]at h;obtain⟨_,ds,_,E,G,_⟩:=aS h1 (by simp);obtain rfl:=oX G;obtain⟨_,N,_,s,A,_⟩:=aS h2 (by simp);obtain rfl:=FO A
   match x,h with
   |.one (.c (.d (.li l))),h=>
    obtain⟨h3,h⟩:=h;obtain⟨_,I,_,v,C,_⟩:=aS h3 (by simp);obtain rfl:=OA C;cases hd:uc l with
    |none=>grind
    |some bs=>
     rw[hd]at h;obtain⟨f,rfl,rfl⟩:=Sd hd;obtain⟨a,c,rfl,hc,hb,h4⟩:=gq hx.2;rw[ajH]at hb hc⊢;by_cases h0:f=[]
     ·subst h0;refine⟨.string ByteArray.empty,sc (.str []),fun _=>False,fun _ h=>h.elim,fun w _=>?_,qw (l:=[]) (by simp),h⟩;cases a with
      |none=>grind [run_convert_bytes_nil]
      |some ad=>
       simp_all[run_convert_bytes_string,run_bytesToString,loadCells,loadCellsFrom]
     have M:f.length≠0:=by grind
     rcases h4 with h4|⟨b,o,es,kk,rfl,h5⟩
     ·grind
     have p:∀i,i<f.length->∃y:Value,H b (o+i)=some y/\y=.int .u8 (f.getD i 0):=by
      intro i hi;obtain⟨g1,g2⟩:=h5 i (by grind);have q:(f.map fun n=>[D.int .u8 n]).getD i []=[D.int .u8 (f.getD i 0)]:=by
       grind
      rw[q]at g1 g2;have r:es=1:=g1.symm
      subst r;obtain⟨y,hy,hf⟩:=g2 0 kQ1;refine⟨y,by grind,?_⟩;exact(fC ⟨_,hf⟩).1
     refine⟨.string (strOfNums f),sc (.str _),fun b'=>b'=b,fun b' t=>?_,fun w2 O=>?_,?_,h⟩
     ·subst t;obtain⟨y,hy,_⟩:=p 0 kQ1
      grind
     ·refine run_convert_bytes_arg w2 j e E v b o _ c f rfl (fun i hi=>?_) g s;obtain⟨y,hy,K⟩:=p i hi;have this:w.cell? ⟨b,o+i,none⟩=some y:=hm.agree b (o+i) y hy
      grind [World.cell?_of_block]
     exact qw (by grind)
   |.one (.c .nil),h=>
    obtain⟨h3,h⟩:=h;obtain⟨_,I,_,v,C,_⟩:=aS h3 (by simp);obtain rfl:=OA C;obtain⟨_,rfl⟩:=hx;exact⟨.string ByteArray.empty,sc (.str []),fun _=>False,fun _ h=>h.elim,fun w _=>run_convert_bytes_nil w j e E v _ _ g s,qw (l:=[]) (by simp),h⟩
  |_=>grind
 |_=>grind
def xi:TK->Bool->Bool
 |.str,b=>b
 |.sl _,b=>!b
 |_,_=>false
def opC(nt:Nat)(o:Oper):Bool:=
 okD nt o.dst&&match o.op with
 |.move x=>aF x
 |.assign x=>aF x
 |.pick c x y=>aF c&&aF x&&aF y
 |.binOp _ _ x y _=>aF x&&aF y
 |.unOp _ _ x=>aF x
 |.load _ x=>aF x
 |.field _ x _=>aF x
 |.fieldAddr _ x _=>aF x
 |.indexAddr _ x i=>aF x&&aF i
 |.index _ x i=>aF x&&aF i
 |.extract x _=>aF x
 |.convert _ _ x=>aF x
 |.slice _ x lo hi none=>aF x&&lo.all aF&&hi.all aF
 |.nilCheck x=>aF x
 |.build _ ps=>ps.toList.all fun x=>aF x.2
 |.store _ x v=>aF x&&aF v
 |.alloc _=>true
 |.box _ x=>aF x
 |.buildSlice _ _ ps=>ps.toList.all fun x=>aF x.2
 |.call c=>c.args.toList.all aF
 |.makeMap _ r=>match r with
  |some x=>aF x
  |none=>true
 |.lookup _ x i _=>aF x&&aF i
 |.mapUpdate _ m i v=>aF m&&aF i&&aF v
 |.makeSlice _ n c=>aF n&&aF c
 |.makeFunc _ _ ps=>ps.toList.all aF
 |.range _ x=>aF x
 |.next x _=>aF x
 |.entry x=>aF x
 |_=>false
def opK(P:Program)(cs:CT)(o:Oper)(s:S)(k:S->Prop):Prop:=
 match o.op with
 |.move x=>k (s.put o.dst (ev s x))
 |.assign x=>k (s.put o.dst (ev s x))
 |.pick c x y=>Ky (ev s c) (ev s x) (ev s y) fun v=>k (s.put o.dst v)
 |.binOp op t x y _=>L6 P op t (ev s x) (ev s y) fun v=>k (s.put o.dst v)
 |.unOp op _ x=>unK op (ev s x) fun v=>k (s.put o.dst v)
 |.load t x=>uu P s.m t (ev s x) fun v=>k (s.put o.dst v)
 |.field t x i=>vS P t (ev s x) i fun v=>k (s.put o.dst v)
 |.fieldAddr t x i=>gy P s.m t (ev s x) i fun v=>k (s.put o.dst v)
 |.indexAddr t x i=>gA P s.m t (ev s x) (ev s i) fun v=>k (s.put o.dst v)
 |.index t x i=>(ty P t).k=.str/\wF (ev s x) (ev s i) fun v=>k (s.put o.dst v)
 |.extract x i=>kO (ev s x) i fun v=>k (s.put o.dst v)
 |.convert b a x=>ub P b a (ev s x) fun v=>k (s.put o.dst v)
 |.slice t x lo hi none=>mJ P t (ev s x) (lo.map (ev s)) (hi.map (ev s)) fun v=>k (s.put o.dst v)
 |.nilCheck x=>nv (ev s x) fun v=>k (s.put o.dst v)
 |.build t ps=>sw P t (lb s ps) fun v=>k (s.put o.dst v)
 |.store t x v=>wE P s t (ev s x) (ev s v) fun s'=>k (s'.put o.dst .any)
 |.alloc t=>match o.dst with
  |some d=>vF P s t d k
  |none=>False
 |.box t x=>match o.dst with
  |some d=>Ro s x d k
  |none=>False
 |.buildSlice t n ps=>match o.dst with
  |some d=>gL P s t n ps d k
  |none=>False
 |.call c=>match c.callee,c.args.toList,c.argTypes.toList with
  |.builtin .len,[x],[t]=>xi (ty P t).k (qR (ev s x))=true/\JT s.m (ev s x) fun n=>k (s.put o.dst (sc (.int .i64 (n:Int))))
  |.builtin .append,[x,y],[t,u]=>match o.dst with
   |some d=>qH P s t u x y d k
   |none=>False
  |.value (.func f),args,_=>match cs.get f with
   |some C=>C s args fun s' av=>k (s'.put o.dst av)
   |none=>False
  |_,_,_=>False
 |_=>False
def qK(P:Program)(o:Oper)(s:S)(k:AV->Prop):Prop:=
 match o.op with
 |.move x=>k (ev s x)
 |.assign x=>k (ev s x)
 |.pick c x y=>Ky (ev s c) (ev s x) (ev s y) k
 |.binOp op t x y _=>L6 P op t (ev s x) (ev s y) k
 |.unOp op _ x=>unK op (ev s x) k
 |.load t x=>uu P s.m t (ev s x) k
 |.field t x i=>vS P t (ev s x) i k
 |.fieldAddr t x i=>gy P s.m t (ev s x) i k
 |.indexAddr t x i=>gA P s.m t (ev s x) (ev s i) k
 |.index t x i=>(ty P t).k=.str/\wF (ev s x) (ev s i) k
 |.extract x i=>kO (ev s x) i k
 |.convert b a x=>ub P b a (ev s x) k
 |.slice t x lo hi none=>mJ P t (ev s x) (lo.map (ev s)) (hi.map (ev s)) k
 |.nilCheck x=>nv (ev s x) k
 |.build t ps=>sw P t (lb s ps) k
 |.call c=>match c.callee,c.args.toList,c.argTypes.toList with
  |.builtin .len,[x],[t]=>xi (ty P t).k (qR (ev s x))=true/\JT s.m (ev s x) fun n=>k (sc (.int .i64 (n:Int)))
  |_,_,_=>False
 |_=>False
def isQ(o:Oper):Bool:=
 match o.op with
 |.move _=>true
 |.assign _=>true
 |.pick _ _ _=>true
 |.binOp _ _ _ _ _=>true
 |.unOp _ _ _=>true
 |.load _ _=>true
 |.field _ _ _=>true
 |.fieldAddr _ _ _=>true
 |.indexAddr _ _ _=>true
 |.index _ _ _=>true
 |.extract _ _=>true
 |.convert _ _ _=>true
 |.slice _ _ _ _ none=>true
 |.nilCheck _=>true
 |.build _ _=>true
 |.call c=>match c.callee with
  |.builtin .len=>true
  |_=>false
 |_=>false
def gz(s:S)(o:Oper):Prop:=
 match o.op with
 |.load _ x=>Jp (ev s x)=true
 |_=>True
variable{o:Oper}
section
variable {P:Program} {cs:CT} {g:G} {Q:Exit->S->Prop} {s:S}
theorem tj{K:S->Prop}
  (h:∀a w H γ F,RX g s a w H γ F->∃s' y w' H' γ' F',(execOp a.eval o).run P w=.ok (.value y) w'/\K s'/\RX g s' (a.put o.dst y) w' H' γ' F'):AO P g o K Q s:=by
 intro a w ⟨H,γ,F,b⟩;obtain⟨s',y,w',H',γ',F',h1,h2,h3⟩:=h a w H γ F b;unfold Oper.wp;rw[h1];exact⟨s',h2,H',γ',F',h3⟩
theorem Qd{K:S->Prop}(hq:isQ o=true)(h:opK P cs o s K):qK P o s (fun v=>K (s.put o.dst v)):=by
 grind [isQ,opK,qK]
theorem A3{k:AV->Prop}{a:Act}{w:World}{H:FH}{γ:Gam}{F:Nm->Fp}(j:RX g s a w H γ F)(hc:opC g.nt o=true)(h:qK P o s k) :
  ∃z d,∃B:Nat->Prop,(gz s o->∀b,B b->∃o y,H b o=some y)/\(∀w2:World,(∀b,B b->w2.heap[b]? = w.heap[b]?)->(execOp a.eval o).run P w2=.ok (.value z) w2)/\AR w H γ s.m d z/\k d:=by
 unfold opC at hc;unfold qK at h;unfold gz;rw[ai9]at hc;obtain⟨hd,hc⟩:=hc;have none:∀{z d},(∀w2:World,(execOp a.eval o).run P w2=.ok (.value z) w2)->AR w H γ s.m d z->k d ->
   ∃z d,∃B:Nat->Prop,((match o.op with|.load _ x=>Jp (ev s x)=true|_=>True)->∀b,B b->∃o y,H b o=some y)/\(∀w2:World,(∀b,B b->w2.heap[b]? = w.heap[b]?)->(execOp a.eval o).run P w2=.ok (.value z) w2)/\AR w H γ s.m d z/\k d:=
  fun{z d}h1 h2 h3=>⟨z,d,fun _=>False,fun _ _ h=>h.elim,fun w2 _=>h1 w2,h2,h3⟩
 cases f:o.op with
 |move x=>
  rw[f]at h hc;rw[<- f];exact none (fun w2=>by simp[execOp,f]) (aH j hc) h
 |assign x=>
  rw[f]at h hc;rw[<- f];exact none (fun w2=>by simp[execOp,f]) (aH j hc) h
 |pick c x y=>
  rw[f]at h hc;rw[<- f];dsimp only at hc;simp only[ai9]at hc;obtain⟨b,v,u,p,r⟩:=XW h (aH j hc.1.1) (aH j hc.1.2) (aH j hc.2);refine none (fun w2=>?_) p r
  grind [execOp,asBool,Sem.run_pure]
 |binOp op t x y z=>
  rw[f]at h hc;rw[<- f];dsimp only at hc;simp only[ai9]at hc;obtain⟨z,d,u,p,r⟩:=Zv (P:=P) (xo:=x) (yo:=y) h (aH j hc.1) (aH j hc.2);refine none (fun w2=>?_) p r;simp only[execOp,f];rw[Sem.run_bind,u];rfl
 |unOp op t x=>
  rw[f]at h hc;rw[<- f];obtain⟨z,d,u,p,r⟩:=agI (P:=P) h (aH j hc);exact none (fun w2=>by simp_all[execOp]) p r
 |load t x=>
  rw[f]at h hc;obtain⟨z,d,B,e0,u,p,r⟩:=Aq (P:=P) j.mem h (aH j hc);exact⟨z,d,B,e0,fun w2 G=>by simp_all[execOp],p,r⟩
 |field t x i=>
  rw[f]at h hc;rw[<- f];obtain⟨z,d,u,p,r⟩:=Sq (P:=P) h (aH j hc);exact none (fun w2=>by simp_all[execOp]) p r
 |fieldAddr t x i=>
  rw[f]at h hc;rw[<- f];obtain⟨z,d,u,p,r⟩:=BM (P:=P) j.mem h (aH j hc);exact none (fun w2=>by simp_all[execOp]) p r
 |indexAddr t x i=>
  rw[f]at h hc;rw[<- f];dsimp only at hc;simp only[ai9]at hc;obtain⟨z,d,u,p,r⟩:=BP (P:=P) j.mem h (aH j hc.1) (aH j hc.2);exact none (fun w2=>by simp_all[execOp]) p r
 |index t x i=>
  rw[f]at h hc;rw[<- f];obtain⟨hs,h⟩:=h;dsimp only at hc;simp only[ai9]at hc;obtain⟨z,d,u,p,r⟩:=T7 (P:=P) hs h (aH j hc.1) (aH j hc.2);exact none (fun w2=>by simp_all[execOp]) p r
 |extract x i=>
  rw[f]at h hc;rw[<- f];obtain⟨z,d,u,p,r⟩:=IS (P:=P) h (aH j hc);exact none (fun w2=>by simp_all[execOp]) p r
 |convert L M x=>
  rw[f]at h hc;rw[<- f];obtain⟨z,d,B,e0,u,p,r⟩:=Ww (P:=P) j.mem h (aH j hc);exact⟨z,d,B,fun _=>e0,fun w2 G=>by simp_all[execOp],p,r⟩
 |slice t x lo hi J=>
  rw[f]at h hc;cases J with
  |some _=>grind
  |none=>
   rw[<- f];dsimp only at hc;simp only[ai9]at hc;have C:∀(y:Option Operand),y.all aF=true->QR w H γ s.m (y.map (ev s)) (y.map a.eval):=by
    intro y hy;cases y with
    |none=>exact trivial
    |some y=>exact aH j (by grind)
   obtain⟨z,d,u,p,r⟩:=TW (P:=P) h (aH j hc.1.1) (C lo hc.1.2) (C hi hc.2);exact none (fun w2=>by simp_all[execOp]) p r
 |nilCheck x=>
  rw[f]at h hc;rw[<- f];obtain⟨⟨ad,u⟩,p⟩:=Fe h (aH j hc);refine none (z:=a.eval x) (d:=ev s x) (fun w2=>?_) (aH j hc) p
  grind [execOp,Sem.run_pure]
 |build t ps=>
  rw[f]at h hc;rw[<- f];obtain⟨z,d,u,p,r⟩:=Rq (P:=P) j.mem (vs:=ps.map fun(i,x)=>(i,a.eval x)) h (by rw[Array.toList_map];exact tJ (m:=s.m) j hc);exact none (fun w2=>by simp_all[execOp]) p r
 |call c=>
  rw[f]at h hc;rw[<- f];obtain⟨A,args,q⟩:=c;obtain⟨args⟩:=args;obtain⟨q⟩:=q;dsimp only at h hc;cases A with
  |builtin b=>
   cases b with
   |len=>
    match args,q,h with
    |[x],[t],h=>
     obtain⟨h2,h3⟩:=h;have h1:aF x=true:=by grind
     obtain⟨n,u,p,r⟩:=abE j.mem h3 (aH j h1);refine none (z:=.int .i64 n) (d:=sc (.int .i64 n)) (fun w2=>?_) (mL p) u;have E:(ty P t).k≠.ot:=fun e=>by grind [xi]
     obtain⟨_,K,_,I,D,_⟩:=aS rfl E;rcases r with⟨l,u1,rfl,u4⟩|⟨b,c,u1,u4⟩
     ·rw[u4]at h2;have hk:(ty P t).k=.str:=by
       cases hk:(ty P t).k<;>rw[hk]at h2<;>first|rfl|grind [xi]
      rw[hk]at D;obtain rfl:=FO D;simp[execOp,f,resolve,invoke,builtin,Builtin.len_,run_underlying I,u1,goInt];rfl
     rw[u4]at h2;obtain⟨e,hk⟩:∃e,(ty P t).k=.sl e:=by
      cases hk:(ty P t).k<;>rw[hk]at h2<;>first|exact⟨_,rfl⟩|grind [xi]
     rw[hk]at D;obtain rfl:=oX D;simp[execOp,f,resolve,invoke,builtin,Builtin.len_,run_underlying I,u1,goInt]
   |_=>grind
  |_=>grind
 |_=>grind
theorem fH(hc:opC g.nt o=true):okD g.nt o.dst=true:=by
 grind [opC]
theorem Lp(A:cs.Ok P){K:S->Prop}(hc:opC g.nt o=true)(h:opK P cs o s K):AO P g o K Q s:=by
 by_cases hq:isQ o=true
 ·have h:=Qd hq h
  grind [Ui,fH,A3]
 unfold opC at hc;unfold opK at h;rw[ai9]at hc;obtain⟨hd,hc⟩:=hc;cases q:o.op with
 |store t x v=>
  rw[q]at h hc
  try dsimp only at hc
  have h1:=hc;have h2:=h
  simp only[ai9]at h1;intro a w ⟨H,γ,F,k⟩;obtain⟨s',w',γ',F',z,l,p⟩:=T4 (P:=P) k h2 (aH k h1.1) (aH k h1.2);unfold Oper.wp;have:(execOp a.eval o).run P w=.ok .skip w':=by simp_all[execOp]
  rw[this];exact⟨_,l,H,γ',F',p.put hd trivial⟩
 |alloc t=>
  rw[q]at h hc
  try dsimp only at hc
  cases j:o.dst with
  |none=>grind
  |some d=>
   rw[j]at h hd;refine tj (fun a w H γ F k=>?_);obtain⟨s',y,w',γ',F',z,l,p⟩:=Ra (P:=P) k hd h;exact⟨s',y,w',H,γ',F',by simp_all[execOp],l,by grind⟩
 |box t x=>
  rw[q]at h hc
  try dsimp only at hc
  cases j:o.dst with
  |none=>grind
  |some d=>
   rw[j]at h hd;refine tj (fun a w H γ F k=>?_);obtain⟨s',y,w',H',γ',F',z,l,p⟩:=Zz (P:=P) (t:=t) k hd hc h;exact⟨s',y,w',H',γ',F',by simp_all[execOp],l,by grind⟩
 |buildSlice t n ps=>
  rw[q]at h hc
  try dsimp only at hc
  cases j:o.dst with
  |none=>grind
  |some d=>
   rw[j]at h hd;refine tj (fun a w H γ F k=>?_);obtain⟨s',y,w',H',γ',F',z,l,p⟩:=zn (P:=P) k hd hc h;exact⟨s',y,w',H',γ',F',by simp_all[execOp],l,by grind⟩
 |call c=>
  rw[q]at h hc
  try dsimp only at hc
  obtain⟨m,args,i⟩:=c;obtain⟨args⟩:=args;obtain⟨i⟩:=i;dsimp only at h;cases m with
  |builtin b=>
   cases b with
   |append=>
    match args,i,h with
    |[x,y],[t,u],h=>
     cases j:o.dst with
     |none=>grind
     |some d=>
      rw[j]at h hd;have h2:=h
      have h1:aF x=true/\aF y=true:=by grind
      refine tj (fun a w H γ F k=>?_);obtain⟨s',E,w',H',γ',F',z,l,p⟩:=L0 (P:=P) (tt:=o.type) k hd h1.1 h1.2 h2;refine⟨s',E,w',H',γ',F',?_,l,by grind⟩
      simp_all[execOp,resolve,invoke,builtin]
   |len=>grind [isQ]
   |_=>grind
  |value v=>
   cases v with
   |func f=>
    dsimp only at h;have h1:=hc;have h2:=h
    cases B:cs.get f with
    |none=>grind
    |some C=>
     rw[B]at h2;have D:=CT.ok_get A B
     intro a w ⟨H,γ,F,k⟩;have hr:(execOp a.eval o).run P w=.ok (.enter f (args.map a.eval).toArray) w:=by
      grind [execOp,resolve,Act.eval,Deferred.ofValue,invoke,Con.run]
     unfold Oper.wp;rw[hr];refine Calls.mono (D.call g s a w H γ F args _ k h1 h2) (fun e w'⟨r,s',av,H',γ',F',k1,k2,k3,k4⟩=>?_);subst k1;exact⟨_,k2,H',γ',F',k4.put hd k3⟩
   |_=>grind
  |invoke r n=>grind
 |slice t x lo hi G=>grind [isQ]
 |_=>grind [isQ]
end
def abV(P:Program)(cs:CT)(all:List Oper):List Oper->S->(S->Prop)->Prop
 |[],s,k=>k s
 |o::r,s,k=>match o.guard with
  |none=>opK P cs o s fun s'=>abV P cs all r s' k
  |some (j,want)=>match(all[j]?).bind (·.dst)with
   |some d=>match aV s.t d with
    |.one (.c (.d (.bool c)))=>
     gsel c want (opK P cs o (s.put (some d) (sc (.bool want))) fun s'=>abV P cs all r s' k)
      (abV P cs all r ((s.put (some d) (sc (.bool (!want)))).put o.dst (.tup [])) k)
    |.tup []=>abV P cs all r (s.put o.dst (.tup [])) k
    |_=>False
   |none=>False
def abU(nt:Nat)(all:List Oper):List Oper->Bool
 |[]=>true
 |o::r=>opC nt o&&(match o.guard with
  |none=>true
  |some (j,_)=>match(all[j]?).bind (·.dst)with
   |some d=>decide (d<nt)
   |none=>true)&&abU nt all r
theorem AO.mono{P:Program}{g:G}{K K':S->Prop}{Q:Exit->S->Prop}{s:S}(hk:∀s,K s->K' s)(h:AO P g o K Q s):AO P g o K' Q s:=fun a w hR=>
 bY (fun _ _⟨s',h1,h2⟩=>⟨s',hk _ h1,h2⟩) (fun _ _ _ h=>h) (h a w hR)
def S.keep(s:S)(ks:List Nat):S:=⟨s.t.filter fun x=>ks.contains x.1,s.m⟩
def T.isFz:T->Bool
 |.pl _=>false
 |.rf _=>false
 |.ow _ _=>false
 |.mp _=>false
 |.it _ _=>false
 |_=>true
def AV1.isFz:AV1->Bool
 |.c t=>t.isFz
 |.agg ts=>ts.all T.isFz
def AV.isFz:AV->Bool
 |.one x=>x.isFz
 |.tup xs=>xs.all AV1.isFz
 |.any=>true
variable{y:Value}
section
variable {w w':World} {H H':FH} {γ γ':Gam} {m m':Mm}
theorem adA(a:∀b o y,H b o=some y->H' b o=some y){t:T}{f:Fp}(c:t.isFz=true)(h:TR w H γ m t f y):TR w' H' γ' m' t f y:=by
 cases t with
 |d x=>exact⟨h.1,eF a h.2⟩
 |nil=>exact h
 |el row off=>obtain⟨h0,b,o,k,h1,h2⟩:=h;exact⟨h0,b,o,k,h1,mP a h2⟩
 |any=>exact h
 |_=>grind [T.isFz]
theorem adC(c:∀b o y,H b o=some y->H' b o=some y):∀{ts:List T}{f:Fp}{vs:List Value},ts.all T.isFz=true->Ts (TR w H γ m) ts f vs->Ts (TR w' H' γ' m') ts f vs
 |[],_,_,_,h=>h
 |t::ts,f,vs,a,h=>by
  simp only[ajJ,ai9]at a;obtain⟨v,r,f1,d,h1,h2,h3,h4⟩:=h;exact⟨v,r,f1,d,h1,h2,adA c a.1 h3,adC c a.2 h4⟩
theorem Uj(d:∀b o y,H b o=some y->H' b o=some y){x:AV1}(a:x.isFz=true)(h:AR1 w H γ m x y):AR1 w' H' γ' m' x y:=by
 cases x with
 |c t=>exact adA d a h
 |agg ts=>obtain⟨cs,h1,h2,h3⟩:=h;exact⟨cs,h1,h2,adC d a h3⟩
theorem Uo(c:∀b o y,H b o=some y->H' b o=some y):∀{xs:List AV1}{ys:List Value},xs.all AV1.isFz=true->ARs w H γ m xs ys->ARs w' H' γ' m' xs ys
 |[],[],_,_=>trivial
 |x::xs,y::ys,a,h=>by
  simp only[ajJ,ai9]at a;exact⟨Uj c a.1 h.1,Uo c a.2 h.2⟩
 |[],_::_,_,h=>h.elim
 |_::_,[],_,h=>h.elim
theorem wK(c:∀b o y,H b o=some y->H' b o=some y){x:AV}(a:x.isFz=true)(h:AR w H γ m x y):AR w' H' γ' m' x y:=by
 cases x with
 |one x=>exact Uj c a h
 |tup xs=>obtain⟨l,h1,h2⟩:=h;exact⟨l,h1,Uo c a h2⟩
 |any=>trivial
end
def cJ:Nat->List AV->List (Nat×AV)
 |_,[]=>[]
 |k,x::r=>(k,x)::cJ (k+1) r
theorem gN:∀(k:Nat)(l:List AV)(i:Nat),aV (cJ k l) i=if k<=i then(l[i-k]?).getD .any else .any
 |k,[],i=>by simp[cJ,aV]
 |k,x::r,i=>by
  simp only[cJ,aV,gN (k+1) r i]
  grind
def T.canon:T->T
 |.nil=>.d (.li [])
 |.it _ l=>.it none l
 |t=>t
theorem adB{w:World}{H:FH}{γ:Gam}{m m':Mm}{cur:Option (D×D)}{l:List (D×D)}{f:Fp}(h:TR w H γ m (.it cur l) f y):TR w H γ m' (.it none l) f y:=by
 obtain⟨r,q,a,s,c,h1,h2,h3,h4⟩:=h;refine⟨r,q,a,s,c,h1,h2,?_,h4⟩;cases q with
 |none=>exact⟨rfl,h3.2⟩
 |some b=>obtain⟨es,ck,k1,k2,k3,k4,_⟩:=h3;exact⟨es,ck,k1,k2,k3,k4,trivial⟩
theorem fe{w:World}{H:FH}{γ:Gam}{m:Mm}(t:T)(y:Value)(h:TR w H γ m t (fun _=>0) y):TR w H γ m t.canon (fun _=>0) y:=by
 cases t with
 |nil=>obtain⟨_,rfl⟩:=h;exact⟨fun _=>rfl,lJ⟩
 |it cur rest=>exact adB h
 |_=>exact h
def oe(s:S)(n:Nm):Nat->S
 |0=>s
 |i+1=>I8 (oe s n i) ⟨n,i,[]⟩
def pK(s:S):ResultVar->S
 |.tmp t=>I9 s (aV s.t t)
 |.cell a _=>match aV s.t a with
  |.one (.c (.pl p))=>match af s.m p.root with
   |some r=>oe s p.root r.cells.length
   |none=>s
  |_=>s
def ig:S->List ResultVar->S
 |s,[]=>s
 |s,r::rs=>ig (pK s r) rs
def wz(P:Program)(s:S):ResultVar->(AV->Prop)->Prop
 |.tmp t,k=>k (aV s.t t)
 |.cell a t,k=>uu P s.m t (aV s.t a) k
def fK(P:Program)(s:S):List ResultVar->(List AV1->Prop)->Prop
 |[],k=>k []
 |r::rs,k=>wz P s r fun
  |.one x=>fK P s rs fun xs=>k (x::xs)
  |_=>False
def wA(P:Program)(s:S)(rs:List ResultVar)(k:AV->Prop):Prop:=
 fK P (ig s rs) rs fun
  |[x]=>x.isFz=true/\k (.one (x.map T.canon))
  |xs=>xs.all AV1.isFz=true/\k (.tup (xs.map (·.map T.canon)))
variable{k:AV->Prop}
section
variable {P:Program} {g:G} {s:S} {a:Act} {w:World} {H:FH} {γ:Gam} {F:Nm->Fp}
theorem yU(h:RX g s a w H γ F)(n:Nm):∀i,∃H' F',RX g (oe s n i) a w H' γ F'
 |0=>⟨H,F,h⟩
 |i+1=>by
  obtain⟨H1,F1,h1⟩:=yU h n i;exact LH h1 _
theorem QT(h:RX g s a w H γ F)(r:ResultVar):∃H' F',RX g (pK s r) a w H' γ F':=by
 cases r with
 |tmp t=>exact Eb h _
 |cell a' t=>
  simp only[pK];split
  ·split
   ·exact yU h _ _
   grind
  grind
theorem so:∀(rs:List ResultVar)(s:S)(H:FH)(F:Nm->Fp),RX g s a w H γ F->∃H' F',RX g (ig s rs) a w H' γ F'
 |[],s,H,F,h=>⟨H,F,h⟩
 |r::rs,s,H,F,h=>by
  obtain⟨H1,F1,h1⟩:=QT h r;exact so rs _ H1 F1 h1
def lk(tmps:Array Value):ResultVar->Sem Value
 |.tmp t=>pure (tmps.getD t undef)
 |.cell a t=>do loadVar t (<- asAddr (tmps.getD a undef))
theorem TP(h:RX g s a w H γ F)(c:g.ex=none){r:ResultVar}(hk:wz P s r k):∃y v,(lk a.tmps r).run P w=.ok y w/\AR w H γ s.m v y/\k v:=by
 cases r with
 |tmp t=>
  have e:=h.t t
  rw[G.tv_none c]at e;exact⟨_,_,rfl,e,hk⟩
 |cell a' t=>
  simp only[wz]at hk;obtain⟨z,d,B,_,b,i,f⟩:=Aq (P:=P) h.mem hk (by have e:=h.t a';rw[G.tv_none c]at e;exact e)
  replace b:=b w (fun _ _=>rfl)
  refine⟨z,d,?_,i,f⟩;simp only[lk];simp only[Instr.loadAt]at b;generalize a.tmps.getD a' undef=u at b;cases u with
  |pointer ad=>
   cases ad with
   |some ad=>grind [asAddr,Instr.sureAddr]
   |none=>simp[Instr.sureAddr]at b
  |_=>simp[Instr.sureAddr]at b
theorem s4(h:RX g s a w H γ F)(b:g.ex=none):∀{rs:List ResultVar}{k:List AV1->Prop},fK P s rs k->∃ys xs,(rs.mapM (lk a.tmps)).run P w=.ok ys w/\ARs w H γ s.m xs ys/\k xs/\ys.length=rs.length
 |[],k,hk=>⟨[],[],rfl,trivial,hk,rfl⟩
 |r::rs,k,hk=>by
  obtain⟨y,v,i,e,d⟩:=TP h b hk;cases v with
  |one x=>
   obtain⟨ys,xs,f1,f,f3,c⟩:=s4 h b d;refine⟨y::ys,x::xs,?_,⟨e,f⟩,f3,by simp[c]⟩
   simp_all
  |tup _=>grind
  |any=>grind
theorem ll(fn:Func)(tmps:Array Value):results fn tmps=(do
  let vs <- fn.results.mapM (lk tmps)
  pure (if h:vs.size=1 then vs[0]else .tuple vs)):=by
 rfl
theorem FF(h:RX g s a w H γ F)(e:g.ex=none){fn:Func}(hk:wA P s fn.results.toList k) :
  ∃y v s' H' F',(results fn a.tmps).run P w=.ok y w/\RX g s' a w H' γ F'/\AR w H' γ s'.m v y/\v.isFz=true/\k (v.map T.canon):=by
 unfold wA at hk;obtain⟨H1,F1,h1⟩:=so fn.results.toList s H F h;obtain⟨ys,xs,l,d,b,j⟩:=s4 h1 e hk;have c:(results fn a.tmps).run P w=.ok (if h:ys.toArray.size=1 then ys.toArray[0]else .tuple ys.toArray) w:=by
  simp_all[ll,Array.mapM_eq_mapM_toList]
 refine⟨_,(match xs with|[x]=>.one x|xs=>.tup xs),_,H1,F1,c,h1,?_⟩
 match xs,ys,d,b with
 |[],[],d,b=>exact⟨⟨#[],by simp,trivial⟩,b.1,b.2⟩
 |[x],[y],d,b=>exact⟨d.1,b.1,b.2⟩
 |n::o::xs,i::f::ys,d,b=>exact⟨⟨(i::f::ys).toArray,by simp,by omega⟩,b.1,b.2⟩
def agB(P:Program)(rs:List ResultVar)(K:AV->Prop):Exit->S->Prop
 |.normal,s=>wA P s rs K
 |.ret,s=>wA P s rs K
 |_,_=>False
end
end Go.Am
end
