/-
  Part 8: AmStep · AmPure.
-/
import Derived.Test.YteooihiebpbaiaaGreatDoorVp7
import Derived.Laws.BytesArg
set_option linter.unusedSimpArgs false
set_option linter.unusedVariables false
set_option linter.unusedSectionVars false
set_option linter.unnecessarySimpa false
section
namespace Go.Am
abbrev CK1:=S->List Operand->(S->AV->Prop)->Prop
abbrev CT:=List (Nat×CK1)
def CT.get:CT->Nat->Option CK1
 |[],_=>none
 |(f,c)::r,i=>if f=i then some c else CT.get r i
structure Con (P:Program) (f:Nat) (C:CK1):Prop where
 run:∀args w,(callFunc f args).run P w=.ok (.enter f args) w
 call:∀(g:G)(s:S)(a:Act)(w:World)(H:FH)(γ:Gam)(F:Nm->Fp)(ops:List Operand)(k:S->AV->Prop),RX g s a w H γ F->ops.all aI=true->C s ops k ->
  Calls P f (ops.map a.eval).toArray w (λe w'=>∃r s' av H' γ' F',e=.returned r/\k s' av/\AR w' H' γ' s'.m av r/\RX g s' a w' H' γ' F')
def CT.Ok(P:Program)(cs:CT):Prop:=∀x∈cs,Con P x.1 x.2
theorem CT.ok_get{P:Program}{cs:CT}(h:cs.Ok P){f:Nat}{C:CK1}(hg:cs.get f=some C):Con P f C:=by
 induction cs with
 |nil=>grind [CT.get]
 |cons x cs ih=>
  obtain⟨f',c⟩:=x;simp only[CT.get]at hg;split at hg
  .rename_i e;subst e;obtain rfl:=Option.some.inj hg;exact h (f',c) (by simp)
  exact ih (λy hy=>h y (alJ _ hy)) hg
def ut:List (List D)->Option a8
 |[]=>some []
 |[.int .u8 n]::r=>(ut r).map λl=>UInt8.ofNat n.toNat::l
 |_=>none
def ur(P:Program)(f a:TypeId)(x:AV)(k:AV->Prop):Prop:=
 match(ty P f).k,(ty P a).k,x with
 |.int _,.int κ,.one (.c (.d (.int _ n)))=>k (sc (.int κ (κ.wrap n)))
 |.sl e,.str,.one (.c (.d (.li l)))=>(ty P e).k=.int .u8/\match ut l with
  |some b=>k (sc (.str b))
  |none=>False
 |.sl e,.str,.one (.c .nil)=>(ty P e).k=.int .u8/\k (sc (.str []))
 |_,_,_=>False
theorem SY:∀{l:List (List D)}{b:a8},ut l=some b->∃a:List Int,l=a.map (λn=>[D.int .u8 n])/\b=a.map λn=>UInt8.ofNat n.toNat:=by
 intro l;induction l with
 |nil=>simp_all[ut]
 |cons r rs ih=>
  intro b h;unfold ut at h;split at h
  .grind
  .rename_i n e d;obtain⟨rfl,rfl⟩:=List.cons.inj d;cases hd:ut rs with
   |none=>grind
   |some c=>rw[hd]at h;obtain⟨a,g,f⟩:=ih hd;simp only[Option.map_some,akO]at h;exact⟨n::a,by grind,by grind⟩
  grind
theorem Xe{P:Program}{w:World}{H:FH}{γ:Gam}{m:Mm}{F:Nm->Fp}(hm:Mem w H γ m F){p g:TypeId}{x:AV}{k:AV->Prop}{u:Value}(h:ur P p g x k)(hx:AR w H γ m x u) :
  ∃z d,∃B:Nat->Prop,(∀b,B b->∃o y,H b o=some y)/\(∀w2:World,(∀b,B b->w2.heap[b]? = w.heap[b]?)->(convert p g u).run P w2=.ok z w2)/\AR w H γ m d z/\k d:=by
 unfold ur at h;cases h1:(ty P p).k with
 |int O=>
  cases h2:(ty P g).k with
  |int κ=>
   rw[h1,h2]at h
   match x,h with
   |.one (.c (.d (.int M n))),h=>
    obtain⟨rfl,_⟩:=nV hx;obtain⟨_,ds,_,r,_,_⟩:=aT h1 (by simp);obtain⟨_,I,_,q,E,_⟩:=aT h2 (by simp);obtain rfl:=O4 E;refine⟨.int κ (κ.wrap n),_,λ_=>False,λ_ h=>h.elim,λw _=>?_,mP (wf_wrap _ _),h⟩
    grind [Program.intKind,run_convert_int]
  |_=>grind
 |sl e=>
  cases h2:(ty P g).k with
  |str=>
   rw[h1,h2]at h;obtain⟨_,ds,_,r,L,_⟩:=aT h1 (by simp);obtain rfl:=pg L;obtain⟨_,I,_,q,E,_⟩:=aT h2 (by simp);obtain rfl:=Gi E
   match x,h with
   |.one (.c (.d (.li l))),h=>
    obtain⟨h3,h⟩:=h;obtain⟨_,G,_,A,t,_⟩:=aT h3 (by simp);obtain rfl:=O4 t;cases hd:ut l with
    |none=>grind
    |some bs=>
     rw[hd]at h;obtain⟨f,rfl,rfl⟩:=SY hd;obtain⟨a,c,rfl,hc,hb,h4⟩:=gC hx.2;rw[akV]at hb hc|-;by_cases h0:f=[]
     .subst h0;refine⟨.string ByteArray.empty,sc (.str []),λ_=>False,λ_ h=>h.elim,λw _=>?_,qH (l:=[]) (by simp),h⟩;cases a with
      |none=>grind [run_convert_bytes_nil]
      |some ad=>simp_all[run_convert_bytes_string,run_bytesToString,loadCells,loadCellsFrom]
     have N:f.length≠0:=by grind
     rcases h4 with h4|⟨b,o,es,kk,rfl,h5⟩
     .grind
     have j:∀i,i<f.length->∃y:Value,H b (o+i)=some y/\y=.int .u8 (f.getD i 0):=by
      intro i hi;obtain⟨g1,g2⟩:=h5 i (by grind);have s:(f.map λn=>[D.int .u8 n]).getD i []=[D.int .u8 (f.getD i 0)]:=by grind
      rw[s]at g1 g2;have C:es=1:=g1.symm
      subst C;obtain⟨y,hy,hf⟩:=g2 0 kQ1;refine⟨y,by grind,?_⟩;exact(fJ ⟨_,hf⟩).1
     refine⟨.string (strOfNums f),sc (.str _),λb'=>b'=b,λb' v=>?_,λw2 J=>?_,?_,h⟩
     .subst v;obtain⟨y,hy,_⟩:=j 0 kQ1
      grind
     .refine run_convert_bytes_arg w2 p e r A b o _ c f rfl (λi hi=>?_) g q;obtain⟨y,hy,K⟩:=j i hi;have this:w.cell? ⟨b,o+i,none⟩=some y:=hm.agree b (o+i) y hy
      grind [World.cell?_of_block]
     exact qH (by grind)
   |.one (.c .nil),h=>obtain⟨h3,h⟩:=h;obtain⟨_,G,_,A,t,_⟩:=aT h3 (by simp);obtain rfl:=O4 t;obtain⟨_,rfl⟩:=hx;exact⟨.string ByteArray.empty,sc (.str []),λ_=>False,λ_ h=>h.elim,λw _=>run_convert_bytes_nil w p e r A _ _ g q,qH (l:=[]) (by simp),h⟩
  |_=>grind
 |_=>grind
def xy:TK->Bool->Bool
 |.str,b=>b
 |.sl _,b=>!b
 |_,_=>false
def opC(nt:Nat)(o:Oper):Bool:=
 okD nt o.dst&&match o.op with
 |.move x=>aI x
 |.assign x=>aI x
 |.pick c x y=>aI c&&aI x&&aI y
 |.binOp _ _ x y _=>aI x&&aI y
 |.unOp _ _ x=>aI x
 |.load _ x=>aI x
 |.field _ x _=>aI x
 |.fieldAddr _ x _=>aI x
 |.indexAddr _ x i=>aI x&&aI i
 |.index _ x i=>aI x&&aI i
 |.extract x _=>aI x
 |.convert _ _ x=>aI x
 |.slice _ x lo hi none=>aI x&&lo.all aI&&hi.all aI
 |.nilCheck x=>aI x
 |.build _ ps=>ps.toList.all λx=>aI x.2
 |.store _ x v=>aI x&&aI v
 |.alloc _=>true
 |.box _ x=>aI x
 |.buildSlice _ _ ps=>ps.toList.all λx=>aI x.2
 |.call c=>c.args.toList.all aI
 |.makeMap _ r=>match r with
  |some x=>aI x
  |none=>true
 |.lookup _ x i _=>aI x&&aI i
 |.mapUpdate _ m i v=>aI m&&aI i&&aI v
 |.makeSlice _ n c=>aI n&&aI c
 |.makeFunc _ _ ps=>ps.toList.all aI
 |.range _ x=>aI x
 |.next x _=>aI x
 |.entry x=>aI x
 |_=>false
def opK(P:Program)(cs:CT)(o:Oper)(s:S)(k:S->Prop):Prop:=
 match o.op with
 |.move x=>k (s.put o.dst (ev s x))
 |.assign x=>k (s.put o.dst (ev s x))
 |.pick c x y=>K0 (ev s c) (ev s x) (ev s y) λv=>k (s.put o.dst v)
 |.binOp op t x y _=>Mz P op t (ev s x) (ev s y) λv=>k (s.put o.dst v)
 |.unOp op _ x=>unK op (ev s x) λv=>k (s.put o.dst v)
 |.load t x=>uJ P s.m t (ev s x) λv=>k (s.put o.dst v)
 |.field t x i=>wh P t (ev s x) i λv=>k (s.put o.dst v)
 |.fieldAddr t x i=>gF P s.m t (ev s x) i λv=>k (s.put o.dst v)
 |.indexAddr t x i=>gH P s.m t (ev s x) (ev s i) λv=>k (s.put o.dst v)
 |.index t x i=>(ty P t).k=.str/\wU (ev s x) (ev s i) λv=>k (s.put o.dst v)
 |.extract x i=>kU (ev s x) i λv=>k (s.put o.dst v)
 |.convert b a x=>ur P b a (ev s x) λv=>k (s.put o.dst v)
 |.slice t x lo hi none=>mN P t (ev s x) (lo.map (ev s)) (hi.map (ev s)) λv=>k (s.put o.dst v)
 |.nilCheck x=>nE (ev s x) λv=>k (s.put o.dst v)
 |.build t ps=>sJ P t (lg s ps) λv=>k (s.put o.dst v)
 |.store t x v=>wT P s t (ev s x) (ev s v) λs'=>k (s'.put o.dst .any)
 |.alloc t=>match o.dst with
  |some d=>vS P s t d k
  |none=>False
 |.box t x=>match o.dst with
  |some d=>Sf s x d k
  |none=>False
 |.buildSlice t n ps=>match o.dst with
  |some d=>gR P s t n ps d k
  |none=>False
 |.call c=>match c.callee,c.args.toList,c.argTypes.toList with
  |.builtin .len,[x],[t]=>xy (ty P t).k (q9 (ev s x))=true/\Ks s.m (ev s x) λn=>k (s.put o.dst (sc (.int .i64 (n:Int))))
  |.builtin .append,[x,y],[t,u]=>match o.dst with
   |some d=>qU P s t u x y d k
   |none=>False
  |.value (.func f),args,_=>match cs.get f with
   |some C=>C s args λs' av=>k (s'.put o.dst av)
   |none=>False
  |_,_,_=>False
 |_=>False
def qK(P:Program)(o:Oper)(s:S)(k:AV->Prop):Prop:=
 match o.op with
 |.move x=>k (ev s x)
 |.assign x=>k (ev s x)
 |.pick c x y=>K0 (ev s c) (ev s x) (ev s y) k
 |.binOp op t x y _=>Mz P op t (ev s x) (ev s y) k
 |.unOp op _ x=>unK op (ev s x) k
 |.load t x=>uJ P s.m t (ev s x) k
 |.field t x i=>wh P t (ev s x) i k
 |.fieldAddr t x i=>gF P s.m t (ev s x) i k
 |.indexAddr t x i=>gH P s.m t (ev s x) (ev s i) k
 |.index t x i=>(ty P t).k=.str/\wU (ev s x) (ev s i) k
 |.extract x i=>kU (ev s x) i k
 |.convert b a x=>ur P b a (ev s x) k
 |.slice t x lo hi none=>mN P t (ev s x) (lo.map (ev s)) (hi.map (ev s)) k
 |.nilCheck x=>nE (ev s x) k
 |.build t ps=>sJ P t (lg s ps) k
 |.call c=>match c.callee,c.args.toList,c.argTypes.toList with
  |.builtin .len,[x],[t]=>xy (ty P t).k (q9 (ev s x))=true/\Ks s.m (ev s x) λn=>k (sc (.int .i64 (n:Int)))
  |_,_,_=>False
 |_=>False
def isQ(o:Oper):Bool:=
 match o.op with
 |.move _=>true
 |.assign _=>true
 |.pick _ _ _=>true
 |.binOp _ _ _ _ _=>true
 |.unOp _ _ _=>true
 |.load _ _=>true
 |.field _ _ _=>true
 |.fieldAddr _ _ _=>true
 |.indexAddr _ _ _=>true
 |.index _ _ _=>true
 |.extract _ _=>true
 |.convert _ _ _=>true
 |.slice _ _ _ _ none=>true
 |.nilCheck _=>true
 |.build _ _=>true
 |.call c=>match c.callee with
  |.builtin .len=>true
  |_=>false
 |_=>false
def gG(s:S)(o:Oper):Prop:=
 match o.op with
 |.load _ x=>JO (ev s x)=true
 |_=>True
variable{o:Oper}
section
variable {P:Program} {cs:CT} {g:G} {Q:Exit->S->Prop} {s:S}
theorem tK{K:S->Prop}
  (h:∀a w H γ F,RX g s a w H γ F->∃s' y w' H' γ' F',(execOp a.eval o).run P w=.ok (.value y) w'/\K s'/\RX g s' (a.put o.dst y) w' H' γ' F'):AO P g o K Q s:=by
 intro a w ⟨H,γ,F,b⟩;obtain⟨s',y,w',H',γ',F',h1,h2,h3⟩:=h a w H γ F b;unfold Oper.wp;rw[h1];exact⟨s',h2,H',γ',F',h3⟩
theorem QO{K:S->Prop}(hq:isQ o=true)(h:opK P cs o s K):qK P o s (λv=>K (s.put o.dst v)):=by grind [isQ,opK,qK]
theorem Bh{k:AV->Prop}{a:Act}{w:World}{H:FH}{γ:Gam}{F:Nm->Fp}(j:RX g s a w H γ F)(hc:opC g.nt o=true)(h:qK P o s k) :
  ∃z d,∃B:Nat->Prop,(gG s o->∀b,B b->∃o y,H b o=some y)/\(∀w2:World,(∀b,B b->w2.heap[b]? = w.heap[b]?)->(execOp a.eval o).run P w2=.ok (.value z) w2)/\AR w H γ s.m d z/\k d:=by
 unfold opC at hc;unfold qK at h;unfold gG;rw[akP]at hc;obtain⟨hd,hc⟩:=hc;have none:∀{z d},(∀w2:World,(execOp a.eval o).run P w2=.ok (.value z) w2)->AR w H γ s.m d z->k d ->
   ∃z d,∃B:Nat->Prop,((match o.op with|.load _ x=>JO (ev s x)=true|_=>True)->∀b,B b->∃o y,H b o=some y)/\(∀w2:World,(∀b,B b->w2.heap[b]? = w.heap[b]?)->(execOp a.eval o).run P w2=.ok (.value z) w2)/\AR w H γ s.m d z/\k d:=
  λ{z d}h1 h2 h3=>⟨z,d,λ_=>False,λ_ _ h=>h.elim,λw2 _=>h1 w2,h2,h3⟩
 cases f:o.op with
 |move x=>rw[f]at h hc;rw[<- f];exact none (λw2=>by simp[execOp,f]) (aL j hc) h
 |assign x=>rw[f]at h hc;rw[<- f];exact none (λw2=>by simp[execOp,f]) (aL j hc) h
 |pick c x y=>
  rw[f]at h hc;rw[<- f];dsimp only at hc;simp only[akP]at hc;obtain⟨b,v,u,p,r⟩:=YG h (aL j hc.1.1) (aL j hc.1.2) (aL j hc.2);refine none (λw2=>?_) p r
  grind [execOp,asBool,Sem.run_pure]
 |binOp op t x y z=>rw[f]at h hc;rw[<- f];dsimp only at hc;simp only[akP]at hc;obtain⟨z,d,u,p,r⟩:=aaG (P:=P) (xo:=x) (yo:=y) h (aL j hc.1) (aL j hc.2);refine none (λw2=>?_) p r;simp only[execOp,f];rw[Sem.run_bind,u];rfl
 |unOp op t x=>rw[f]at h hc;rw[<- f];obtain⟨z,d,u,p,r⟩:=ah3 (P:=P) h (aL j hc);exact none (λw2=>by simp_all[execOp]) p r
 |load t x=>rw[f]at h hc;obtain⟨z,d,B,e0,u,p,r⟩:=AF (P:=P) j.mem h (aL j hc);exact⟨z,d,B,e0,λw2 G=>by simp_all[execOp],p,r⟩
 |field t x i=>rw[f]at h hc;rw[<- f];obtain⟨z,d,u,p,r⟩:=S6 (P:=P) h (aL j hc);exact none (λw2=>by simp_all[execOp]) p r
 |fieldAddr t x i=>rw[f]at h hc;rw[<- f];obtain⟨z,d,u,p,r⟩:=BZ (P:=P) j.mem h (aL j hc);exact none (λw2=>by simp_all[execOp]) p r
 |indexAddr t x i=>rw[f]at h hc;rw[<- f];dsimp only at hc;simp only[akP]at hc;obtain⟨z,d,u,p,r⟩:=B3 (P:=P) j.mem h (aL j hc.1) (aL j hc.2);exact none (λw2=>by simp_all[execOp]) p r
 |index t x i=>rw[f]at h hc;rw[<- f];obtain⟨hs,h⟩:=h;dsimp only at hc;simp only[akP]at hc;obtain⟨z,d,u,p,r⟩:=UR (P:=P) hs h (aL j hc.1) (aL j hc.2);exact none (λw2=>by simp_all[execOp]) p r
 |extract x i=>rw[f]at h hc;rw[<- f];obtain⟨z,d,u,p,r⟩:=Jh (P:=P) h (aL j hc);exact none (λw2=>by simp_all[execOp]) p r
 |convert M L x=>rw[f]at h hc;rw[<- f];obtain⟨z,d,B,e0,u,p,r⟩:=Xe (P:=P) j.mem h (aL j hc);exact⟨z,d,B,λ_=>e0,λw2 G=>by simp_all[execOp],p,r⟩
 |slice t x lo hi J=>
  rw[f]at h hc;cases J with
  |some _=>grind
  |none=>
   rw[<- f];dsimp only at hc;simp only[akP]at hc;have C:(y:Option Operand)->y.all aI=true->Rv w H γ s.m (y.map (ev s)) (y.map a.eval):=by
    intro y hy;cases y with
    |none=>exact trivial
    |some y=>exact aL j (by grind)
   obtain⟨z,d,u,p,r⟩:=UG (P:=P) h (aL j hc.1.1) (C lo hc.1.2) (C hi hc.2);exact none (λw2=>by simp_all[execOp]) p r
 |nilCheck x=>
  rw[f]at h hc;rw[<- f];obtain⟨⟨ad,u⟩,p⟩:=FG h (aL j hc);refine none (z:=a.eval x) (d:=ev s x) (λw2=>?_) (aL j hc) p
  grind [execOp,Sem.run_pure]
 |build t ps=>rw[f]at h hc;rw[<- f];obtain⟨z,d,u,p,r⟩:=Sj (P:=P) j.mem (vs:=ps.map λ(i,x)=>(i,a.eval x)) h (by rw[Array.toList_map];exact tX (m:=s.m) j hc);exact none (λw2=>by simp_all[execOp]) p r
 |call c=>
  rw[f]at h hc;rw[<- f];obtain⟨A,args,q⟩:=c;obtain⟨args⟩:=args;obtain⟨q⟩:=q;dsimp only at h hc;cases A with
  |builtin b=>
   cases b with
   |len=>
    match args,q,h with
    |[x],[t],h=>
     obtain⟨h2,h3⟩:=h;have h1:aI x=true:=by grind
     obtain⟨n,u,p,r⟩:=acT j.mem h3 (aL j h1);refine none (z:=.int .i64 n) (d:=sc (.int .i64 n)) (λw2=>?_) (mP p) u;have E:(ty P t).k≠.ot:=λe=>by grind [xy]
     obtain⟨_,K,_,I,D,_⟩:=aT rfl E;rcases r with⟨l,u1,rfl,u4⟩|⟨b,c,u1,u4⟩
     .rw[u4]at h2;have hk:(ty P t).k=.str:=by cases hk:(ty P t).k<;>rw[hk]at h2<;>first|rfl|grind [xy]
      rw[hk]at D;obtain rfl:=Gi D;simp[execOp,f,resolve,invoke,builtin,Builtin.len_,run_underlying I,u1,goInt];rfl
     rw[u4]at h2;obtain⟨e,hk⟩:∃e,(ty P t).k=.sl e:=by cases hk:(ty P t).k<;>rw[hk]at h2<;>first|exact⟨_,rfl⟩|grind [xy]
     rw[hk]at D;obtain rfl:=pg D;simp[execOp,f,resolve,invoke,builtin,Builtin.len_,run_underlying I,u1,goInt]
   |_=>grind
  |_=>grind
 |_=>grind
theorem fO(hc:opC g.nt o=true):okD g.nt o.dst=true:=by grind [opC]
theorem LU(A:cs.Ok P){K:S->Prop}(hc:opC g.nt o=true)(h:opK P cs o s K):AO P g o K Q s:=by
 by_cases hq:isQ o=true
 .have h:=QO hq h
  grind [U2,fO,Bh]
 unfold opC at hc;unfold opK at h;rw[akP]at hc;obtain⟨hd,hc⟩:=hc;cases p:o.op with
 |store t x v=>
  rw[p]at h hc
  try dsimp only at hc
  have h1:=hc;have h2:=h
  simp only[akP]at h1;intro a w ⟨H,γ,F,k⟩;obtain⟨s',w',γ',F',z,m,q⟩:=UO (P:=P) k h2 (aL k h1.1) (aL k h1.2);unfold Oper.wp;have:(execOp a.eval o).run P w=.ok .skip w':=by simp_all[execOp]
  rw[this];exact⟨_,m,H,γ',F',q.put hd trivial⟩
 |alloc t=>
  rw[p]at h hc
  try dsimp only at hc
  cases j:o.dst with
  |none=>grind
  |some d=>rw[j]at h hd;refine tK (λa w H γ F k=>?_);obtain⟨s',y,w',γ',F',z,m,q⟩:=RS (P:=P) k hd h;exact⟨s',y,w',H,γ',F',by simp_all[execOp],m,by grind⟩
 |box t x=>
  rw[p]at h hc
  try dsimp only at hc
  cases j:o.dst with
  |none=>grind
  |some d=>rw[j]at h hd;refine tK (λa w H γ F k=>?_);obtain⟨s',y,w',H',γ',F',z,m,q⟩:=aaJ (P:=P) (t:=t) k hd hc h;exact⟨s',y,w',H',γ',F',by simp_all[execOp],m,by grind⟩
 |buildSlice t n ps=>
  rw[p]at h hc
  try dsimp only at hc
  cases j:o.dst with
  |none=>grind
  |some d=>rw[j]at h hd;refine tK (λa w H γ F k=>?_);obtain⟨s',y,w',H',γ',F',z,m,q⟩:=zC (P:=P) k hd hc h;exact⟨s',y,w',H',γ',F',by simp_all[execOp],m,by grind⟩
 |call c=>
  rw[p]at h hc
  try dsimp only at hc
  obtain⟨l,args,i⟩:=c;obtain⟨args⟩:=args;obtain⟨i⟩:=i;dsimp only at h;cases l with
  |builtin b=>
   cases b with
   |append=>
    match args,i,h with
    |[x,y],[t,u],h=>
     cases j:o.dst with
     |none=>grind
     |some d=>
      rw[j]at h hd;have h2:=h
      have h1:aI x=true/\aI y=true:=by grind
      refine tK (λa w H γ F k=>?_);obtain⟨s',E,w',H',γ',F',z,m,q⟩:=Mt (P:=P) (tt:=o.type) k hd h1.1 h1.2 h2;refine⟨s',E,w',H',γ',F',?_,m,by grind⟩
      simp_all[execOp,resolve,invoke,builtin]
   |len=>grind [isQ]
   |_=>grind
  |value v=>
   cases v with
   |func f=>
    dsimp only at h;have h1:=hc;have h2:=h
    cases B:cs.get f with
    |none=>grind
    |some C=>
     rw[B]at h2;have D:=CT.ok_get A B
     intro a w ⟨H,γ,F,k⟩;have hr:(execOp a.eval o).run P w=.ok (.enter f (args.map a.eval).toArray) w:=by grind [execOp,resolve,Act.eval,Deferred.ofValue,invoke,Con.run]
     unfold Oper.wp;rw[hr];refine Calls.mono (D.call g s a w H γ F args _ k h1 h2) (λe w'⟨r,s',av,H',γ',F',k1,k2,k3,k4⟩=>?_);subst k1;exact⟨_,k2,H',γ',F',k4.put hd k3⟩
   |_=>grind
  |invoke r n=>grind
 |slice t x lo hi G=>grind [isQ]
 |_=>grind [isQ]
end
def adA(P:Program)(cs:CT)(all:List Oper):List Oper->S->(S->Prop)->Prop
 |[],s,k=>k s
 |o::r,s,k=>match o.guard with
  |none=>opK P cs o s λs'=>adA P cs all r s' k
  |some (j,want)=>match(all[j]?).bind (·.dst)with
   |some d=>match aW s.t d with
    |.one (.c (.d (.bool c)))=>
     gsel c want (opK P cs o (s.put (some d) (sc (.bool want))) λs'=>adA P cs all r s' k)
      (adA P cs all r ((s.put (some d) (sc (.bool (!want)))).put o.dst (.tup [])) k)
    |.tup []=>adA P cs all r (s.put o.dst (.tup [])) k
    |_=>False
   |none=>False
def ac9(nt:Nat)(all:List Oper):List Oper->Bool
 |[]=>true
 |o::r=>opC nt o&&(match o.guard with
  |none=>true
  |some (j,_)=>match(all[j]?).bind (·.dst)with
   |some d=>decide (d<nt)
   |none=>true)&&ac9 nt all r
theorem AO.mono{P:Program}{g:G}{K K':S->Prop}{Q:Exit->S->Prop}{s:S}(hk:∀s,K s->K' s)(h:AO P g o K Q s):AO P g o K' Q s:=λa w hR=>bY (λ_ _⟨s',h1,h2⟩=>⟨s',hk _ h1,h2⟩) (λ_ _ _ h=>h) (h a w hR)
def S.keep(s:S)(ks:List Nat):S:=⟨s.t.filter λx=>ks.contains x.1,s.m⟩
def T.isFz:T->Bool
 |.pl _=>false
 |.rf _=>false
 |.ow _ _=>false
 |.mp _=>false
 |.it _ _=>false
 |_=>true
def AV1.isFz:AV1->Bool
 |.c t=>t.isFz
 |.agg ts=>ts.all T.isFz
def AV.isFz:AV->Bool
 |.one x=>x.isFz
 |.tup xs=>xs.all AV1.isFz
 |.any=>true
variable{y:Value}
section
variable {w w':World} {H H':FH} {γ γ':Gam} {m m':Mm}
theorem aeT(a:∀b o y,H b o=some y->H' b o=some y){t:T}{f:Fp}(c:t.isFz=true)(h:TR w H γ m t f y):TR w' H' γ' m' t f y:=by
 cases t with
 |d x=>exact⟨h.1,eL a h.2⟩
 |nil=>exact h
 |el row off=>obtain⟨h0,b,o,k,h1,h2⟩:=h;exact⟨h0,b,o,k,h1,mS a h2⟩
 |any=>exact h
 |_=>grind [T.isFz]
theorem aeV(c:∀b o y,H b o=some y->H' b o=some y):∀{ts:List T}{f:Fp}{vs:List Value},ts.all T.isFz=true->Ts (TR w H γ m) ts f vs->Ts (TR w' H' γ' m') ts f vs
 |[],_,_,_,h=>h
 |t::ts,f,vs,a,h=>by simp only[ak2,akP]at a;obtain⟨v,r,f1,d,h1,h2,h3,h4⟩:=h;exact⟨v,r,f1,d,h1,h2,aeT c a.1 h3,aeV c a.2 h4⟩
theorem U3(d:∀b o y,H b o=some y->H' b o=some y){x:AV1}(a:x.isFz=true)(h:AR1 w H γ m x y):AR1 w' H' γ' m' x y:=by
 cases x with
 |c t=>exact aeT d a h
 |agg ts=>obtain⟨cs,h1,h2,h3⟩:=h;exact⟨cs,h1,h2,aeV d a h3⟩
theorem U8(d:∀b o y,H b o=some y->H' b o=some y):∀{xs:List AV1}{c:List Value},xs.all AV1.isFz=true->ARs w H γ m xs c->ARs w' H' γ' m' xs c
 |[],[],_,_=>trivial
 |x::xs,y::c,a,h=>by simp only[ak2,akP]at a;exact⟨U3 d a.1 h.1,U8 d a.2 h.2⟩
 |[],_::_,_,h=>h.elim
 |_::_,[],_,h=>h.elim
theorem wZ(c:∀b o y,H b o=some y->H' b o=some y){x:AV}(a:x.isFz=true)(h:AR w H γ m x y):AR w' H' γ' m' x y:=by
 cases x with
 |one x=>exact U3 c a h
 |tup xs=>obtain⟨l,h1,h2⟩:=h;exact⟨l,h1,U8 c a h2⟩
 |any=>trivial
end
def cO:Nat->List AV->List (Nat×AV)
 |_,[]=>[]
 |k,x::r=>(k,x)::cO (k+1) r
theorem gU:∀(k:Nat)(l:List AV)(i:Nat),aW (cO k l) i=if k<=i then(l[i-k]?).getD .any else .any
 |k,[],i=>by simp[cO,aW]
 |k,x::r,i=>by
  simp only[cO,aW,gU (k+1) r i]
  grind
def T.canon:T->T
 |.nil=>.d (.li [])
 |.it _ l=>.it none l
 |t=>t
theorem aeU{w:World}{H:FH}{γ:Gam}{m m':Mm}{cur:Option (D×D)}{l:List (D×D)}{f:Fp}(h:TR w H γ m (.it cur l) f y):TR w H γ m' (.it none l) f y:=by
 obtain⟨r,q,a,s,c,h1,h2,h3,h4⟩:=h;refine⟨r,q,a,s,c,h1,h2,?_,h4⟩;cases q with
 |none=>exact⟨rfl,h3.2⟩
 |some b=>obtain⟨es,ck,k1,k2,k3,k4,_⟩:=h3;exact⟨es,ck,k1,k2,k3,k4,trivial⟩
theorem fp{w:World}{H:FH}{γ:Gam}{m:Mm}(t:T)(y:Value)(h:TR w H γ m t (λ_=>0) y):TR w H γ m t.canon (λ_=>0) y:=by
 cases t with
 |nil=>obtain⟨_,rfl⟩:=h;exact⟨λ_=>rfl,lN⟩
 |it cur rest=>exact aeU h
 |_=>exact h
def oz(s:S)(n:Nm):Nat->S
 |0=>s
 |i+1=>Jw (oz s n i) ⟨n,i,[]⟩
def p5(s:S):ResultVar->S
 |.tmp t=>Jx s (aW s.t t)
 |.cell a _=>match aW s.t a with
  |.one (.c (.pl p))=>match ah s.m p.root with
   |some r=>oz s p.root r.cells.length
   |none=>s
  |_=>s
def il:S->List ResultVar->S
 |s,[]=>s
 |s,r::rs=>il (p5 s r) rs
def wN(P:Program)(s:S):ResultVar->(AV->Prop)->Prop
 |.tmp t,k=>k (aW s.t t)
 |.cell a t,k=>uJ P s.m t (aW s.t a) k
def fR(P:Program)(s:S):List ResultVar->(List AV1->Prop)->Prop
 |[],k=>k []
 |r::rs,k=>wN P s r λ
  |.one x=>fR P s rs λxs=>k (x::xs)
  |_=>False
def wO(P:Program)(s:S)(rs:List ResultVar)(k:AV->Prop):Prop:=
 fR P (il s rs) rs λ
  |[x]=>x.isFz=true/\k (.one (x.map T.canon))
  |xs=>xs.all AV1.isFz=true/\k (.tup (xs.map (·.map T.canon)))
variable{k:AV->Prop}
section
variable {P:Program} {g:G} {s:S} {a:Act} {w:World} {H:FH} {γ:Gam} {F:Nm->Fp}
theorem zh(h:RX g s a w H γ F)(n:Nm):∀i,∃H' F',RX g (oz s n i) a w H' γ F'
 |0=>⟨H,F,h⟩
 |i+1=>by obtain⟨H1,F1,h1⟩:=zh h n i;exact Ma h1 _
theorem Ry(h:RX g s a w H γ F)(r:ResultVar):∃H' F',RX g (p5 s r) a w H' γ F':=by
 cases r with
 |tmp t=>exact Ex h _
 |cell a' t=>
  simp only[p5];split
  .split
   .exact zh h _ _
   grind
  grind
theorem sF:∀(rs:List ResultVar)(s:S)(H:FH)(F:Nm->Fp),RX g s a w H γ F->∃H' F',RX g (il s rs) a w H' γ F'
 |[],s,H,F,h=>⟨H,F,h⟩
 |r::rs,s,H,F,h=>by obtain⟨H1,F1,h1⟩:=Ry h r;exact sF rs _ H1 F1 h1
def lq(tmps:Array Value):ResultVar->Sem Value
 |.tmp t=>pure (tmps.getD t undef)
 |.cell a t=>do loadVar t (<- asAddr (tmps.getD a undef))
theorem UA(h:RX g s a w H γ F)(c:g.ex=none){r:ResultVar}(hk:wN P s r k):∃y v,(lq a.tmps r).run P w=.ok y w/\AR w H γ s.m v y/\k v:=by
 cases r with
 |tmp t=>
  have e:=h.t t
  rw[G.tv_none c]at e;exact⟨_,_,rfl,e,hk⟩
 |cell a' t=>
  simp only[wN]at hk;obtain⟨z,d,B,_,b,f,i⟩:=AF (P:=P) h.mem hk (by have e:=h.t a';rw[G.tv_none c]at e;exact e)
  replace b:=b w (λ_ _=>rfl)
  refine⟨z,d,?_,f,i⟩;simp only[lq];simp only[Instr.loadAt]at b;generalize a.tmps.getD a' undef=u at b;cases u with
  |pointer ad=>
   cases ad with
   |some ad=>grind [asAddr,Instr.sureAddr]
   |none=>simp[Instr.sureAddr]at b
  |_=>simp[Instr.sureAddr]at b
theorem th(h:RX g s a w H γ F)(b:g.ex=none):∀{rs:List ResultVar}{k:List AV1->Prop},fR P s rs k->∃c xs,(rs.mapM (lq a.tmps)).run P w=.ok c w/\ARs w H γ s.m xs c/\k xs/\c.length=rs.length
 |[],k,hk=>⟨[],[],rfl,trivial,hk,rfl⟩
 |r::rs,k,hk=>by
  obtain⟨y,v,j,d,i⟩:=UA h b hk;cases v with
  |one x=>
   obtain⟨c,xs,f1,e,f3,f⟩:=th h b i;refine⟨y::c,x::xs,?_,⟨d,e⟩,f3,by simp[f]⟩
   simp_all
  |tup _=>grind
  |any=>grind
theorem lr(fn:Func)(tmps:Array Value):results fn tmps=(do
  let vs <- fn.results.mapM (lq tmps)
  pure (if h:vs.size=1 then vs[0]else .tuple vs)):=by
 rfl
theorem F9(h:RX g s a w H γ F)(f:g.ex=none){fn:Func}(hk:wO P s fn.results.toList k) :
  ∃y v s' H' F',(results fn a.tmps).run P w=.ok y w/\RX g s' a w H' γ F'/\AR w H' γ s'.m v y/\v.isFz=true/\k (v.map T.canon):=by
 unfold wO at hk;obtain⟨H1,F1,h1⟩:=sF fn.results.toList s H F h;obtain⟨c,xs,p,d,b,l⟩:=th h1 f hk;have e:(results fn a.tmps).run P w=.ok (if h:c.toArray.size=1 then c.toArray[0]else .tuple c.toArray) w:=by simp_all[lr,Array.mapM_eq_mapM_toList]
 refine⟨_,(match xs with|[x]=>.one x|xs=>.tup xs),_,H1,F1,e,h1,?_⟩
 match xs,c,d,b with
 |[],[],d,b=>exact⟨⟨#[],by simp,trivial⟩,b.1,b.2⟩
 |[x],[y],d,b=>exact⟨d.1,b.1,b.2⟩
 |n::o::xs,i::j::c,d,b=>exact⟨⟨(i::j::c).toArray,by simp,by omega⟩,b.1,b.2⟩
def ahW(P:Program)(rs:List ResultVar)(K:AV->Prop):Exit->S->Prop
 |.normal,s=>wO P s rs K
 |.ret,s=>wO P s rs K
 |_,_=>False
end
end Go.Am
end
