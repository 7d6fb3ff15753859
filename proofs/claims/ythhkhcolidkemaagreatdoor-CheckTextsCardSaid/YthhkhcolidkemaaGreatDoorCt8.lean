/-
  Part 8: AmStep · AmPure.
-/
import Derived.Test.YthhkhcolidkemaaGreatDoorCt7
import Derived.Laws.BytesArg
set_option linter.unusedSimpArgs false
set_option linter.unusedVariables false
set_option linter.unusedSectionVars false
set_option linter.unnecessarySimpa false
section
namespace Go.Am
abbrev CK1:=S->List Operand->(S->AV->Prop)->Prop
abbrev CT:=List (Nat×CK1)
def CT.get:CT->Nat->Option CK1
 |[],_=>none
 |(f,c)::r,i=>if f=i then some c else CT.get r i
structure Con (P:Program) (f:Nat) (C:CK1):Prop where
 run:∀args w,(callFunc f args).run P w=.ok (.enter f args) w
 call:∀(g:G)(s:S)(a:Act)(w:World)(H:FH)(γ:Gam)(F:Nm->Fp)(ops:List Operand)(k:S->AV->Prop),RX g s a w H γ F->ops.all aH=true->C s ops k ->
  Calls P f (ops.map a.eval).toArray w (λe w'=>∃r s' av H' γ' F',e=.returned r/\k s' av/\AR w' H' γ' s'.m av r/\RX g s' a w' H' γ' F')
def CT.Ok(P:Program)(cs:CT):Prop:=∀x∈cs,Con P x.1 x.2
theorem CT.ok_get{P:Program}{cs:CT}(h:cs.Ok P){f:Nat}{C:CK1}(hg:cs.get f=some C):Con P f C:=by
 induction cs with
 |nil=>grind [CT.get]
 |cons x cs ih=>
  obtain⟨f',c⟩:=x;simp only[CT.get]at hg;split at hg
  .rename_i e;subst e;obtain rfl:=Option.some.inj hg;exact h (f',c) (by simp)
  exact ih (λy hy=>h y (alF _ hy)) hg
def uK:List (List D)->Option (List UInt8)
 |[]=>some []
 |[.int .u8 n]::r=>(uK r).map λl=>UInt8.ofNat n.toNat::l
 |_=>none
def uH(P:Program)(f a:TypeId)(x:AV)(k:AV->Prop):Prop:=
 match(ty P f).k,(ty P a).k,x with
 |.int _,.int κ,.one (.c (.d (.int _ n)))=>k (sc (.int κ (κ.wrap n)))
 |.sl e,.str,.one (.c (.d (.li l)))=>(ty P e).k=.int .u8/\match uK l with
  |some b=>k (sc (.str b))
  |none=>False
 |.sl e,.str,.one (.c .nil)=>(ty P e).k=.int .u8/\k (sc (.str []))
 |_,_,_=>False
theorem S4:∀{l:List (List D)}{b:List UInt8},uK l=some b->∃a:List Int,l=a.map (λn=>[D.int .u8 n])/\b=a.map λn=>UInt8.ofNat n.toNat:=by
 intro l;induction l with
 |nil=>simp_all[uK]
 |cons r rs ih=>
  intro b h;unfold uK at h;split at h
  .grind
  .rename_i n f d;obtain⟨rfl,rfl⟩:=List.cons.inj d;cases hd:uK rs with
   |none=>grind
   |some c=>obtain⟨a,e,g⟩:=ih hd;exact⟨n::a,by grind,by grind⟩
  grind
theorem XF{P:Program}{w:World}{H:FH}{γ:Gam}{m:Mm}{F:Nm->Fp}(hm:Mem w H γ m F){p g:TypeId}{x:AV}{k:AV->Prop}{u:Value}(h:uH P p g x k)(hx:AR w H γ m x u) :
  ∃z d,∃B:Nat->Prop,(∀b,B b->∃o y,H b o=some y)/\(∀w2:World,(∀b,B b->w2.heap[b]? = w.heap[b]?)->(convert p g u).run P w2=.ok z w2)/\AR w H γ m d z/\k d:=by
 unfold uH at h;cases h1:(ty P p).k with
 |int C=>
  cases h2:(ty P g).k with
  |int κ=>
   rw[h1,h2]at h
   match x,h with
   |.one (.c (.d (.int K n))),h=>
    obtain⟨rfl,_⟩:=oh hx;obtain⟨_,ds,_,t,_,_⟩:=bh h1 (by simp);obtain⟨_,J,_,s,q,_⟩:=bh h2 (by simp);obtain rfl:=O2 q;refine⟨.int κ (κ.wrap n),_,λ_=>False,λ_ h=>h.elim,λw _=>?_,mS (wf_wrap _ _),h⟩
    grind [Program.intKind,run_convert_int]
  |_=>grind
 |sl e=>
  cases h2:(ty P g).k with
  |str=>
   rw[h1,h2]at h;obtain⟨_,ds,_,t,L,_⟩:=bh h1 (by simp);obtain rfl:=pJ L;obtain⟨_,J,_,s,q,_⟩:=bh h2 (by simp);obtain rfl:=F9 q
   match x,h with
   |.one (.c (.d (.li l))),h=>
    obtain⟨h3,h⟩:=h;obtain⟨_,G,_,r,A,_⟩:=bh h3 (by simp);obtain rfl:=O2 A;cases hd:uK l with
    |none=>grind
    |some bs=>
     rw[hd]at h;obtain⟨f,rfl,rfl⟩:=S4 hd;obtain⟨a,c,rfl,hc,hb,h4⟩:=gS hx.2;rw[akT]at hb hc|-;by_cases h0:f=[]
     .subst h0;refine⟨.string ByteArray.empty,sc (.str []),λ_=>False,λ_ h=>h.elim,λw _=>?_,mT (l:=[]) (by simp),h⟩;cases a with
      |none=>grind [run_convert_bytes_nil]
      |some ad=>simp_all[run_convert_bytes_string,run_bytesToString,loadCells,loadCellsFrom]
     have M:f.length≠0:=by grind
     rcases h4 with h4|⟨b,o,es,kk,rfl,h5⟩
     .grind
     have j:∀i,i<f.length->∃y:Value,H b (o+i)=some y/\y=.int .u8 (f.getD i 0):=by
      intro i hi;obtain⟨g1,g2⟩:=h5 i (by grind);have v:(f.map λn=>[D.int .u8 n]).getD i []=[D.int .u8 (f.getD i 0)]:=by grind
      rw[v]at g1 g2;have N:es=1:=g1.symm
      obtain⟨y,hy,hf⟩:=g2 0 kQ1;refine⟨y,by grind,?_⟩;exact(fX ⟨_,hf⟩).1
     refine⟨.string (strOfNums f),sc (.str _),λb'=>b'=b,λb' I=>?_,λw2 O=>?_,?_,h⟩
     .obtain⟨y,hy,_⟩:=j 0 kQ1
      grind
     .refine run_convert_bytes_arg w2 p e t r b o _ c f rfl (λi hi=>?_) g s;obtain⟨y,hy,E⟩:=j i hi;have this:w.cell? ⟨b,o+i,none⟩=some y:=hm.agree b (o+i) y hy
      grind [World.cell?_of_block]
     exact mT (by grind)
   |.one (.c .nil),h=>obtain⟨h3,h⟩:=h;obtain⟨_,G,_,r,A,_⟩:=bh h3 (by simp);obtain rfl:=O2 A;obtain⟨_,rfl⟩:=hx;exact⟨.string ByteArray.empty,sc (.str []),λ_=>False,λ_ h=>h.elim,λw _=>run_convert_bytes_nil w p e t r _ _ g s,mT (l:=[]) (by simp),h⟩
  |_=>grind
 |_=>grind
def AA:TK->Bool->Bool
 |.str,b=>b
 |.sl _,b=>!b
 |_,_=>false
def opC(nt:Nat)(o:Oper):Bool:=
 okD nt o.dst&&match o.op with
 |.move x=>aH x
 |.assign x=>aH x
 |.pick c x y=>aH c&&aH x&&aH y
 |.binOp _ _ x y _=>aH x&&aH y
 |.unOp _ _ x=>aH x
 |.load _ x=>aH x
 |.field _ x _=>aH x
 |.fieldAddr _ x _=>aH x
 |.indexAddr _ x i=>aH x&&aH i
 |.index _ x i=>aH x&&aH i
 |.extract x _=>aH x
 |.convert _ _ x=>aH x
 |.slice _ x lo hi none=>aH x&&lo.all aH&&hi.all aH
 |.nilCheck x=>aH x
 |.build _ ps=>ps.toList.all λx=>aH x.2
 |.store _ x v=>aH x&&aH v
 |.alloc _=>true
 |.box _ x=>aH x
 |.buildSlice _ _ ps=>ps.toList.all λx=>aH x.2
 |.call c=>c.args.toList.all aH
 |.makeMap _ r=>match r with
  |some x=>aH x
  |none=>true
 |.lookup _ x i _=>aH x&&aH i
 |.mapUpdate _ m i v=>aH m&&aH i&&aH v
 |.makeSlice _ n c=>aH n&&aH c
 |.makeFunc _ _ ps=>ps.toList.all aH
 |.range _ x=>aH x
 |.next x _=>aH x
 |.entry x=>aH x
 |_=>false
def opK(P:Program)(cs:CT)(o:Oper)(s:S)(k:S->Prop):Prop:=
 match o.op with
 |.move x=>k (s.put o.dst (ev s x))
 |.assign x=>k (s.put o.dst (ev s x))
 |.pick c x y=>KO (ev s c) (ev s x) (ev s y) λv=>k (s.put o.dst v)
 |.binOp op t x y _=>Ms P op t (ev s x) (ev s y) λv=>k (s.put o.dst v)
 |.unOp op _ x=>unK op (ev s x) λv=>k (s.put o.dst v)
 |.load t x=>uZ P s.m t (ev s x) λv=>k (s.put o.dst v)
 |.field t x i=>wz P t (ev s x) i λv=>k (s.put o.dst v)
 |.fieldAddr t x i=>gV P s.m t (ev s x) i λv=>k (s.put o.dst v)
 |.indexAddr t x i=>gY P s.m t (ev s x) (ev s i) λv=>k (s.put o.dst v)
 |.index t x i=>(ty P t).k=.str/\xh (ev s x) (ev s i) λv=>k (s.put o.dst v)
 |.extract x i=>lq (ev s x) i λv=>k (s.put o.dst v)
 |.convert b a x=>uH P b a (ev s x) λv=>k (s.put o.dst v)
 |.slice t x lo hi none=>mQ P t (ev s x) (lo.map (ev s)) (hi.map (ev s)) λv=>k (s.put o.dst v)
 |.nilCheck x=>nN (ev s x) λv=>k (s.put o.dst v)
 |.build t ps=>sX P t (lC s ps) λv=>k (s.put o.dst v)
 |.store t x v=>xf P s t (ev s x) (ev s v) λs'=>k (s'.put o.dst .any)
 |.alloc t=>match o.dst with
  |some d=>wd P s t d k
  |none=>False
 |.box t x=>match o.dst with
  |some d=>Sk s x d k
  |none=>False
 |.buildSlice t n ps=>match o.dst with
  |some d=>iq P s t n ps d k
  |none=>False
 |.call c=>match c.callee,c.args.toList,c.argTypes.toList with
  |.builtin .len,[x],[t]=>AA (ty P t).k (rA (ev s x))=true/\Km s.m (ev s x) λn=>k (s.put o.dst (sc (.int .i64 (n:Int))))
  |.builtin .append,[x,y],[t,u]=>match o.dst with
   |some d=>q7 P s t u x y d k
   |none=>False
  |.value (.func f),args,_=>match cs.get f with
   |some C=>C s args λs' av=>k (s'.put o.dst av)
   |none=>False
  |_,_,_=>False
 |_=>False
def qK(P:Program)(o:Oper)(s:S)(k:AV->Prop):Prop:=
 match o.op with
 |.move x=>k (ev s x)
 |.assign x=>k (ev s x)
 |.pick c x y=>KO (ev s c) (ev s x) (ev s y) k
 |.binOp op t x y _=>Ms P op t (ev s x) (ev s y) k
 |.unOp op _ x=>unK op (ev s x) k
 |.load t x=>uZ P s.m t (ev s x) k
 |.field t x i=>wz P t (ev s x) i k
 |.fieldAddr t x i=>gV P s.m t (ev s x) i k
 |.indexAddr t x i=>gY P s.m t (ev s x) (ev s i) k
 |.index t x i=>(ty P t).k=.str/\xh (ev s x) (ev s i) k
 |.extract x i=>lq (ev s x) i k
 |.convert b a x=>uH P b a (ev s x) k
 |.slice t x lo hi none=>mQ P t (ev s x) (lo.map (ev s)) (hi.map (ev s)) k
 |.nilCheck x=>nN (ev s x) k
 |.build t ps=>sX P t (lC s ps) k
 |.call c=>match c.callee,c.args.toList,c.argTypes.toList with
  |.builtin .len,[x],[t]=>AA (ty P t).k (rA (ev s x))=true/\Km s.m (ev s x) λn=>k (sc (.int .i64 (n:Int)))
  |_,_,_=>False
 |_=>False
def isQ(o:Oper):Bool:=
 match o.op with
 |.move _=>true
 |.assign _=>true
 |.pick _ _ _=>true
 |.binOp _ _ _ _ _=>true
 |.unOp _ _ _=>true
 |.load _ _=>true
 |.field _ _ _=>true
 |.fieldAddr _ _ _=>true
 |.indexAddr _ _ _=>true
 |.index _ _ _=>true
 |.extract _ _=>true
 |.convert _ _ _=>true
 |.slice _ _ _ _ none=>true
 |.nilCheck _=>true
 |.build _ _=>true
 |.call c=>match c.callee with
  |.builtin .len=>true
  |_=>false
 |_=>false
def gX(s:S)(o:Oper):Prop:=
 match o.op with
 |.load _ x=>JD (ev s x)=true
 |_=>True
variable{o:Oper}
section
variable {P:Program} {cs:CT} {g:G} {Q:Exit->S->Prop} {s:S}
theorem t8{K:S->Prop}
  (h:∀a w H γ F,RX g s a w H γ F->∃s' y w' H' γ' F',(execOp a.eval o).run P w=.ok (.value y) w'/\K s'/\RX g s' (a.put o.dst y) w' H' γ' F'):AO P g o K Q s:=by
 intro a w ⟨H,γ,F,b⟩;obtain⟨s',y,w',H',γ',F',h1,h2,h3⟩:=h a w H γ F b;unfold Oper.wp;rw[h1];exact⟨s',h2,H',γ',F',h3⟩
theorem QO{K:S->Prop}(hq:isQ o=true)(h:opK P cs o s K):qK P o s (λv=>K (s.put o.dst v)):=by grind [isQ,opK,qK]
theorem Bh{k:AV->Prop}{a:Act}{w:World}{H:FH}{γ:Gam}{F:Nm->Fp}(f:RX g s a w H γ F)(hc:opC g.nt o=true)(h:qK P o s k) :
  ∃z d,∃B:Nat->Prop,(gX s o->∀b,B b->∃o y,H b o=some y)/\(∀w2:World,(∀b,B b->w2.heap[b]? = w.heap[b]?)->(execOp a.eval o).run P w2=.ok (.value z) w2)/\AR w H γ s.m d z/\k d:=by
 unfold opC at hc;unfold qK at h;unfold gX;rw[akI]at hc;obtain⟨hd,hc⟩:=hc;have none:∀{z d},(∀w2:World,(execOp a.eval o).run P w2=.ok (.value z) w2)->AR w H γ s.m d z->k d ->
   ∃z d,∃B:Nat->Prop,((match o.op with|.load _ x=>JD (ev s x)=true|_=>True)->∀b,B b->∃o y,H b o=some y)/\(∀w2:World,(∀b,B b->w2.heap[b]? = w.heap[b]?)->(execOp a.eval o).run P w2=.ok (.value z) w2)/\AR w H γ s.m d z/\k d:=
  λ{z d}h1 h2 h3=>⟨z,d,λ_=>False,λ_ _ h=>h.elim,λw2 _=>h1 w2,h2,h3⟩
 cases ho:o.op with
 |move x=>rw[ho]at h hc;rw[<- ho];exact none (λw2=>by simp[execOp,ho]) (aJ f hc) h
 |assign x=>rw[ho]at h hc;rw[<- ho];exact none (λw2=>by simp[execOp,ho]) (aJ f hc) h
 |pick c x y=>
  rw[ho]at h hc;rw[<- ho];simp only[akI]at hc;obtain⟨b,v,r,p,q⟩:=Zf h (aJ f hc.1.1) (aJ f hc.1.2) (aJ f hc.2);refine none (λw2=>?_) p q
  grind [execOp,asBool,Sem.run_pure]
 |binOp op t x y z=>rw[ho]at h hc;rw[<- ho];simp only[akI]at hc;obtain⟨z,d,r,p,q⟩:=aa5 (P:=P) (xo:=x) (yo:=y) h (aJ f hc.1) (aJ f hc.2);refine none (λw2=>?_) p q;simp only[execOp,ho];rw[Sem.run_bind,r];rfl
 |unOp op t x=>rw[ho]at h hc;rw[<- ho];obtain⟨z,d,r,p,q⟩:=aiA (P:=P) h (aJ f hc);exact none (λw2=>by simp_all[execOp]) p q
 |load t x=>rw[ho]at h hc;obtain⟨z,d,B,e0,r,p,q⟩:=AF (P:=P) f.mem h (aJ f hc);exact⟨z,d,B,e0,λw2 D=>by simp_all[execOp],p,q⟩
 |field t x i=>rw[ho]at h hc;rw[<- ho];obtain⟨z,d,r,p,q⟩:=Tb (P:=P) h (aJ f hc);exact none (λw2=>by simp_all[execOp]) p q
 |fieldAddr t x i=>rw[ho]at h hc;rw[<- ho];obtain⟨z,d,r,p,q⟩:=B0 (P:=P) f.mem h (aJ f hc);exact none (λw2=>by simp_all[execOp]) p q
 |indexAddr t x i=>rw[ho]at h hc;rw[<- ho];simp only[akI]at hc;obtain⟨z,d,r,p,q⟩:=B2 (P:=P) f.mem h (aJ f hc.1) (aJ f hc.2);exact none (λw2=>by simp_all[execOp]) p q
 |index t x i=>rw[ho]at h hc;rw[<- ho];obtain⟨hs,h⟩:=h;simp only[akI]at hc;obtain⟨z,d,r,p,q⟩:=UY (P:=P) hs h (aJ f hc.1) (aJ f hc.2);exact none (λw2=>by simp_all[execOp]) p q
 |extract x i=>rw[ho]at h hc;rw[<- ho];obtain⟨z,d,r,p,q⟩:=I3 (P:=P) h (aJ f hc);exact none (λw2=>by simp_all[execOp]) p q
 |convert K L x=>rw[ho]at h hc;obtain⟨z,d,B,e0,r,p,q⟩:=XF (P:=P) f.mem h (aJ f hc);exact⟨z,d,B,λ_=>e0,λw2 D=>by simp_all[execOp],p,q⟩
 |slice t x lo hi I=>
  rw[ho]at h hc;cases I with
  |some _=>grind
  |none=>
   rw[<- ho];simp only[akI]at hc;have A:(y:Option Operand)->y.all aH=true->RE w H γ s.m (y.map (ev s)) (y.map a.eval):=by
    intro y hy;cases y with
    |none=>exact trivial
    |some y=>exact aJ f (by grind)
   obtain⟨z,d,r,p,q⟩:=UO (P:=P) h (aJ f hc.1.1) (A lo hc.1.2) (A hi hc.2);exact none (λw2=>by simp_all[execOp]) p q
 |nilCheck x=>
  rw[ho]at h hc;rw[<- ho];obtain⟨⟨ad,r⟩,p⟩:=FB h (aJ f hc);refine none (z:=a.eval x) (d:=ev s x) (λw2=>?_) (aJ f hc) p
  grind [execOp,Sem.run_pure]
 |build t ps=>rw[ho]at h hc;rw[<- ho];obtain⟨z,d,r,p,q⟩:=Sm (P:=P) f.mem (vs:=ps.map λ(i,x)=>(i,a.eval x)) h (by rw[Array.toList_map];exact ul (m:=s.m) f hc);exact none (λw2=>by simp_all[execOp]) p q
 |call c=>
  rw[ho]at h hc;rw[<- ho];obtain⟨u,args,j⟩:=c;obtain⟨args⟩:=args;obtain⟨j⟩:=j;dsimp only at h hc;cases u with
  |builtin b=>
   cases b with
   |len=>
    match args,j,h with
    |[x],[t],h=>
     obtain⟨h2,h3⟩:=h;have h1:aH x=true:=by grind
     obtain⟨n,r,p,q⟩:=ac9 f.mem h3 (aJ f h1);refine none (z:=.int .i64 n) (d:=sc (.int .i64 n)) (λw2=>?_) (mS p) r;have E:(ty P t).k≠.ot:=λe=>by grind [AA]
     obtain⟨_,J,_,G,C,_⟩:=bh rfl E;rcases q with⟨l,u1,rfl,u4⟩|⟨b,c,u1,u4⟩
     .rw[u4]at h2;have hk:(ty P t).k=.str:=by cases hk:(ty P t).k<;>rw[hk]at h2<;>first|rfl|grind [AA]
      rw[hk]at C;obtain rfl:=F9 C;simp[execOp,ho,resolve,invoke,builtin,Builtin.len_,run_underlying G,u1];rfl
     rw[u4]at h2;obtain⟨e,hk⟩:∃e,(ty P t).k=.sl e:=by cases hk:(ty P t).k<;>rw[hk]at h2<;>first|exact⟨_,rfl⟩|grind [AA]
     rw[hk]at C;obtain rfl:=pJ C;simp[execOp,ho,resolve,invoke,builtin,Builtin.len_,run_underlying G,u1,goInt]
   |_=>grind
  |_=>grind
 |_=>grind
theorem gl(hc:opC g.nt o=true):okD g.nt o.dst=true:=by grind [opC]
theorem LL(z:cs.Ok P){K:S->Prop}(hc:opC g.nt o=true)(h:opK P cs o s K):AO P g o K Q s:=by
 by_cases hq:isQ o=true
 .have h:=QO hq h
  grind [Vd,gl,Bh]
 unfold opC at hc;unfold opK at h;rw[akI]at hc;obtain⟨hd,hc⟩:=hc;cases ho:o.op with
 |store t x v=>
  rw[ho]at h hc;have h1:=hc;have h2:=h
  simp only[akI]at h1;intro a w ⟨H,γ,F,k⟩;obtain⟨s',w',γ',F',q,m,p⟩:=UW (P:=P) k h2 (aJ k h1.1) (aJ k h1.2);unfold Oper.wp;have:(execOp a.eval o).run P w=.ok .skip w':=by simp_all[execOp]
  rw[this];exact⟨_,m,H,γ',F',p.put hd trivial⟩
 |alloc t=>
  rw[ho]at h hc;cases j:o.dst with
  |none=>grind
  |some d=>rw[j]at h hd;refine t8 (λa w H γ F k=>?_);obtain⟨s',y,w',γ',F',q,m,p⟩:=RZ (P:=P) k hd h;exact⟨s',y,w',H,γ',F',by simp_all[execOp],m,by grind⟩
 |box t x=>
  rw[ho]at h hc;cases j:o.dst with
  |none=>grind
  |some d=>rw[j]at h hd;refine t8 (λa w H γ F k=>?_);obtain⟨s',y,w',H',γ',F',q,m,p⟩:=aa7 (P:=P) (t:=t) k hd hc h;exact⟨s',y,w',H',γ',F',by simp_all[execOp],m,by grind⟩
 |buildSlice t n ps=>
  rw[ho]at h hc;cases j:o.dst with
  |none=>grind
  |some d=>rw[j]at h hd;refine t8 (λa w H γ F k=>?_);obtain⟨s',y,w',H',γ',F',q,m,p⟩:=zB (P:=P) k hd hc h;exact⟨s',y,w',H',γ',F',by simp_all[execOp],m,by grind⟩
 |call c=>
  rw[ho]at h hc
  try dsimp only at hc
  obtain⟨l,args,i⟩:=c;obtain⟨args⟩:=args;obtain⟨i⟩:=i;dsimp only at h;cases l with
  |builtin b=>
   cases b with
   |append=>
    match args,i,h with
    |[x,y],[t,u],h=>
     cases j:o.dst with
     |none=>grind
     |some d=>
      rw[j]at h hd;have h2:=h
      have h1:aH x=true/\aH y=true:=by grind
      refine t8 (λa w H γ F k=>?_);obtain⟨s',D,w',H',γ',F',q,m,p⟩:=Mk (P:=P) (tt:=o.type) k hd h1.1 h1.2 h2;refine⟨s',D,w',H',γ',F',?_,m,by grind⟩
      simp_all[execOp,resolve,invoke,builtin]
   |len=>grind [isQ]
   |_=>grind
  |value v=>
   cases v with
   |func f=>
    dsimp only at h;have h1:=hc;have h2:=h
    cases A:cs.get f with
    |none=>grind
    |some C=>
     rw[A]at h2;have B:=CT.ok_get z A
     intro a w ⟨H,γ,F,k⟩;have hr:(execOp a.eval o).run P w=.ok (.enter f (args.map a.eval).toArray) w:=by grind [execOp,resolve,Act.eval,Deferred.ofValue,invoke,Con.run]
     unfold Oper.wp;rw[hr];refine Calls.mono (B.call g s a w H γ F args _ k h1 h2) (λe w'⟨r,s',av,H',γ',F',k1,k2,k3,k4⟩=>?_);subst k1;exact⟨_,k2,H',γ',F',k4.put hd k3⟩
   |_=>grind
  |invoke r n=>grind
 |_=>grind [isQ]
end
def adR(P:Program)(cs:CT)(all:List Oper):List Oper->S->(S->Prop)->Prop
 |[],s,k=>k s
 |o::r,s,k=>match o.guard with
  |none=>opK P cs o s λs'=>adR P cs all r s' k
  |some (j,want)=>match(all[j]?).bind (·.dst)with
   |some d=>match bB s.t d with
    |.one (.c (.d (.bool c)))=>
     gsel c want (opK P cs o (s.put (some d) (sc (.bool want))) λs'=>adR P cs all r s' k)
      (adR P cs all r ((s.put (some d) (sc (.bool (!want)))).put o.dst (.tup [])) k)
    |.tup []=>adR P cs all r (s.put o.dst (.tup [])) k
    |_=>False
   |none=>False
def adQ(nt:Nat)(all:List Oper):List Oper->Bool
 |[]=>true
 |o::r=>opC nt o&&(match o.guard with
  |none=>true
  |some (j,_)=>match(all[j]?).bind (·.dst)with
   |some d=>decide (d<nt)
   |none=>true)&&adQ nt all r
theorem AO.mono{P:Program}{g:G}{K K':S->Prop}{Q:Exit->S->Prop}{s:S}(hk:∀s,K s->K' s)(h:AO P g o K Q s):AO P g o K' Q s:=λa w hR=>cD (λ_ _⟨s',h1,h2⟩=>⟨s',hk _ h1,h2⟩) (λ_ _ _ h=>h) (h a w hR)
def S.keep(s:S)(ks:List Nat):S:=⟨s.t.filter λx=>ks.contains x.1,s.m⟩
def T.isFz:T->Bool
 |.pl _=>false
 |.rf _=>false
 |.ow _ _=>false
 |.mp _=>false
 |.it _ _=>false
 |_=>true
def AV1.isFz:AV1->Bool
 |.c t=>t.isFz
 |.agg ts=>ts.all T.isFz
def AV.isFz:AV->Bool
 |.one x=>x.isFz
 |.tup xs=>xs.all AV1.isFz
 |.any=>true
variable{y:Value}
section
variable {w w':World} {H H':FH} {γ γ':Gam} {m m':Mm}
theorem ae0(a:∀b o y,H b o=some y->H' b o=some y){t:T}{f:Fp}(hz:t.isFz=true)(h:TR w H γ m t f y):TR w' H' γ' m' t f y:=by
 cases t with
 |d x=>exact⟨h.1,fq a h.2⟩
 |nil=>exact h
 |el row off=>obtain⟨h0,b,o,k,h1,h2⟩:=h;exact⟨h0,b,o,k,h1,mW a h2⟩
 |any=>exact h
 |_=>grind [T.isFz]
theorem ae2(a:∀b o y,H b o=some y->H' b o=some y):∀{ts:List T}{f:Fp}{vs:List Value},ts.all T.isFz=true->Ts (TR w H γ m) ts f vs->Ts (TR w' H' γ' m') ts f vs
 |[],_,_,_,h=>h
 |t::ts,f,vs,hz,h=>by simp only[akW,akI]at hz;obtain⟨v,r,f1,c,h1,h2,h3,h4⟩:=h;exact⟨v,r,f1,c,h1,h2,ae0 a hz.1 h3,ae2 a hz.2 h4⟩
theorem Ve(a:∀b o y,H b o=some y->H' b o=some y){x:AV1}(hz:x.isFz=true)(h:AR1 w H γ m x y):AR1 w' H' γ' m' x y:=by
 cases x with
 |c t=>exact ae0 a hz h
 |agg ts=>obtain⟨cs,h1,h2,h3⟩:=h;exact⟨cs,h1,h2,ae2 a hz h3⟩
theorem Vj(a:∀b o y,H b o=some y->H' b o=some y):∀{xs:List AV1}{ys:List Value},xs.all AV1.isFz=true->ARs w H γ m xs ys->ARs w' H' γ' m' xs ys
 |[],[],_,_=>trivial
 |x::xs,y::ys,hz,h=>by simp only[akW,akI]at hz;exact⟨Ve a hz.1 h.1,Vj a hz.2 h.2⟩
 |[],_::_,_,h=>h.elim
 |_::_,[],_,h=>h.elim
theorem xl(a:∀b o y,H b o=some y->H' b o=some y){x:AV}(hz:x.isFz=true)(h:AR w H γ m x y):AR w' H' γ' m' x y:=by
 cases x with
 |one x=>exact Ve a hz h
 |tup xs=>obtain⟨l,h1,h2⟩:=h;exact⟨l,h1,Vj a hz h2⟩
 |any=>trivial
end
def eH:Nat->List AV->List (Nat×AV)
 |_,[]=>[]
 |k,x::r=>(k,x)::eH (k+1) r
theorem iw:∀(k:Nat)(l:List AV)(i:Nat),bB (eH k l) i=if k<=i then(l[i-k]?).getD .any else .any
 |k,[],i=>by simp[eH,bB]
 |k,x::r,i=>by
  simp only[eH,bB,iw (k+1) r i]
  grind
def T.canon:T->T
 |.nil=>.d (.li [])
 |.it _ l=>.it none l
 |t=>t
theorem ae1{w:World}{H:FH}{γ:Gam}{m m':Mm}{cur:Option (D×D)}{l:List (D×D)}{f:Fp}(h:TR w H γ m (.it cur l) f y):TR w H γ m' (.it none l) f y:=by
 obtain⟨r,q,a,s,c,h1,h2,h3,h4⟩:=h;refine⟨r,q,a,s,c,h1,h2,?_,h4⟩;cases q with
 |none=>exact⟨rfl,h3.2⟩
 |some b=>obtain⟨es,ck,k1,k2,k3,k4,_⟩:=h3;exact⟨es,ck,k1,k2,k3,k4,trivial⟩
theorem fw{w:World}{H:FH}{γ:Gam}{m:Mm}(t:T)(y:Value)(h:TR w H γ m t (λ_=>0) y):TR w H γ m t.canon (λ_=>0) y:=by
 cases t with
 |nil=>obtain⟨_,rfl⟩:=h;exact⟨λ_=>rfl,oq⟩
 |it cur rest=>exact ae1 h
 |_=>exact h
def oM(s:S)(n:Nm):Nat->S
 |0=>s
 |i+1=>Jk (oM s n i) ⟨n,i,[]⟩
def qc(s:S):ResultVar->S
 |.tmp t=>Jm s (bB s.t t)
 |.cell a _=>match bB s.t a with
  |.one (.c (.pl p))=>match ah s.m p.root with
   |some r=>oM s p.root r.cells.length
   |none=>s
  |_=>s
def iN:S->List ResultVar->S
 |s,[]=>s
 |s,r::rs=>iN (qc s r) rs
def wZ(P:Program)(s:S):ResultVar->(AV->Prop)->Prop
 |.tmp t,k=>k (bB s.t t)
 |.cell a t,k=>uZ P s.m t (bB s.t a) k
def gn(P:Program)(s:S):List ResultVar->(List AV1->Prop)->Prop
 |[],k=>k []
 |r::rs,k=>wZ P s r λ
  |.one x=>gn P s rs λxs=>k (x::xs)
  |_=>False
def Bn(P:Program)(s:S)(rs:List ResultVar)(k:AV->Prop):Prop:=
 gn P (iN s rs) rs λ
  |[x]=>x.isFz=true/\k (.one (x.map T.canon))
  |xs=>xs.all AV1.isFz=true/\k (.tup (xs.map (·.map T.canon)))
variable{k:AV->Prop}
section
variable {P:Program} {g:G} {s:S} {a:Act} {w:World} {H:FH} {γ:Gam} {F:Nm->Fp}
theorem zm(h:RX g s a w H γ F)(n:Nm):∀i,∃H' F',RX g (oM s n i) a w H' γ F'
 |0=>⟨H,F,h⟩
 |i+1=>by obtain⟨H1,F1,h1⟩:=zm h n i;exact Mb h1 _
theorem RG(h:RX g s a w H γ F)(r:ResultVar):∃H' F',RX g (qc s r) a w H' γ F':=by
 cases r with
 |tmp t=>exact ED h _
 |cell a' t=>
  simp only[qc];split
  .split
   .exact zm h _ _
   grind
  grind
theorem sT:∀(rs:List ResultVar)(s:S)(H:FH)(F:Nm->Fp),RX g s a w H γ F->∃H' F',RX g (iN s rs) a w H' γ F'
 |[],s,H,F,h=>⟨H,F,h⟩
 |r::rs,s,H,F,h=>by obtain⟨H1,F1,h1⟩:=RG h r;exact sT rs _ H1 F1 h1
def pg(tmps:Array Value):ResultVar->Sem Value
 |.tmp t=>pure (tmps.getD t undef)
 |.cell a t=>do loadVar t (<- asAddr (tmps.getD a undef))
theorem UI(h:RX g s a w H γ F)(e:g.ex=none){r:ResultVar}(hk:wZ P s r k):∃y v,(pg a.tmps r).run P w=.ok y w/\AR w H γ s.m v y/\k v:=by
 cases r with
 |tmp t=>
  have c:=h.t t
  rw[G.tv_none e]at c;exact⟨_,_,rfl,c,hk⟩
 |cell a' t=>
  simp only[wZ]at hk;obtain⟨z,d,B,_,b,i,f⟩:=AF (P:=P) h.mem hk (by have c:=h.t a';rw[G.tv_none e]at c;exact c)
  replace b:=b w (λ_ _=>rfl)
  refine⟨z,d,?_,i,f⟩;simp only[pg];simp only[Instr.loadAt]at b;generalize a.tmps.getD a' undef=u at b;cases u with
  |pointer ad=>
   cases ad with
   |some ad=>grind [asAddr,Instr.sureAddr]
   |none=>simp[Instr.sureAddr]at b
  |_=>simp[Instr.sureAddr]at b
theorem tO(h:RX g s a w H γ F)(b:g.ex=none):∀{rs:List ResultVar}{k:List AV1->Prop},gn P s rs k->∃ys xs,(rs.mapM (pg a.tmps)).run P w=.ok ys w/\ARs w H γ s.m xs ys/\k xs/\ys.length=rs.length
 |[],k,hk=>⟨[],[],rfl,trivial,hk,rfl⟩
 |r::rs,k,hk=>by
  obtain⟨y,v,i,f,e⟩:=UI h b hk;cases v with
  |one x=>
   obtain⟨ys,xs,f1,c,d,f4⟩:=tO h b e;refine⟨y::ys,x::xs,?_,⟨f,c⟩,d,by simp[f4]⟩
   simp_all
  |_=>grind
theorem jy(fn:Func)(tmps:Array Value):results fn tmps=(do
  let vs <- fn.results.mapM (pg tmps)
  pure (if h:vs.size=1 then vs[0]else .tuple vs)):=by
 rfl
theorem FV(h:RX g s a w H γ F)(e:g.ex=none){fn:Func}(hk:Bn P s fn.results.toList k) :
  ∃y v s' H' F',(results fn a.tmps).run P w=.ok y w/\RX g s' a w H' γ F'/\AR w H' γ s'.m v y/\v.isFz=true/\k (v.map T.canon):=by
 obtain⟨H1,F1,h1⟩:=sT fn.results.toList s H F h;obtain⟨ys,xs,j,d,b,n⟩:=tO h1 e hk;have c:(results fn a.tmps).run P w=.ok (if h:ys.toArray.size=1 then ys.toArray[0]else .tuple ys.toArray) w:=by simp_all[jy,Array.mapM_eq_mapM_toList]
 refine⟨_,(match xs with|[x]=>.one x|xs=>.tup xs),_,H1,F1,c,h1,?_⟩
 match xs,ys,d,b with
 |[],[],d,b=>exact⟨⟨#[],by simp,trivial⟩,b.1,b.2⟩
 |[x],[y],d,b=>exact⟨d.1,b.1,b.2⟩
 |l::o::xs,f::i::ys,d,b=>exact⟨⟨(f::i::ys).toArray,by simp,by omega⟩,b.1,b.2⟩
def ah4(P:Program)(rs:List ResultVar)(K:AV->Prop):Exit->S->Prop
 |.normal,s=>Bn P s rs K
 |.ret,s=>Bn P s rs K
 |_,_=>False
end
end Go.Am
end
