/-
  Part 8: AmStep · AmPure.
-/
import Derived.Test.YtgpedlcblhiklaaGreatDoorVo7
import Derived.Laws.BytesArg
set_option linter.unusedSimpArgs false
set_option linter.unusedVariables false
set_option linter.unusedSectionVars false
set_option linter.unnecessarySimpa false
section
namespace Go.Am
abbrev CK1:=S->List Operand->(S->AV->Prop)->Prop
abbrev CT:=List (Nat×CK1)
def CT.get:CT->Nat->Option CK1
 |[],_=>none
 |(f,c)::r,i=>if f=i then some c else CT.get r i
structure Con (P:Program) (f:Nat) (C:CK1):Prop where
 run:∀args w,(callFunc f args).run P w=.ok (.enter f args) w
 call:∀(g:G)(s:S)(a:Act)(w:World)(H:FH)(γ:Gam)(F:Nm->Fp)(ops:List Operand)(k:S->AV->Prop),RX g s a w H γ F->ops.all aH=true->C s ops k ->
  Calls P f (ops.map a.eval).toArray w (fun e w'=>∃r s' av H' γ' F',e=.returned r/\k s' av/\AR w' H' γ' s'.m av r/\RX g s' a w' H' γ' F')
def CT.Ok(P:Program)(cs:CT):Prop:=∀x∈cs,Con P x.1 x.2
theorem CT.ok_get{P:Program}{cs:CT}(h:cs.Ok P){f:Nat}{C:CK1}(hg:cs.get f=some C):Con P f C:=by
 induction cs with
 |nil=>grind [CT.get]
 |cons x cs ih=>
  obtain⟨f',c⟩:=x;simp only[CT.get]at hg;split at hg
  ·rename_i e;subst e;obtain rfl:=Option.some.inj hg;exact h (f',c) (by simp)
  ·exact ih (fun y hy=>h y (ajM _ hy)) hg
def uj:List (List D)->Option (List UInt8)
 |[]=>some []
 |[.int .u8 n]::r=>(uj r).map fun l=>UInt8.ofNat n.toNat::l
 |_=>none
def uh(P:Program)(f a:TypeId)(x:AV)(k:AV->Prop):Prop:=
 match(ty P f).k,(ty P a).k,x with
 |.int _,.int κ,.one (.c (.d (.int _ n)))=>k (sc (.int κ (κ.wrap n)))
 |.sl e,.str,.one (.c (.d (.li l)))=>(ty P e).k=.int .u8/\match uj l with
  |some b=>k (sc (.str b))
  |none=>False
 |.sl e,.str,.one (.c .nil)=>(ty P e).k=.int .u8/\k (sc (.str []))
 |_,_,_=>False
theorem Sy:∀{l:List (List D)}{b:List UInt8},uj l=some b->∃a:List Int,l=a.map (fun n=>[D.int .u8 n])/\b=a.map fun n=>UInt8.ofNat n.toNat:=by
 intro l;induction l with
 |nil=>simp_all[uj]
 |cons r rs ih=>
  intro b h;unfold uj at h;split at h
  ·grind
  ·rename_i n f d;obtain⟨rfl,rfl⟩:=List.cons.inj d;cases hd:uj rs with
   |none=>grind
   |some c=>
    rw[hd]at h;obtain⟨a,g,e⟩:=ih hd;simp only[Option.map_some,aiX]at h;exact⟨n::a,by grind,by grind⟩
  grind
theorem WG{P:Program}{w:World}{H:FH}{γ:Gam}{m:Mm}{F:Nm->Fp}(G:Mem w H γ m F){j g:TypeId}{x:AV}{k:AV->Prop}{u:Value}(h:uh P j g x k)(hx:AR w H γ m x u) :
  ∃z d,∃B:Nat->Prop,(∀b,B b->∃o y,H b o=some y)/\(∀w2:World,(∀b,B b->w2.heap[b]? = w.heap[b]?)->(convert j g u).run P w2=.ok z w2)/\AR w H γ m d z/\k d:=by
 unfold uh at h;cases h1:(ty P j).k with
 |int L=>
  cases h2:(ty P g).k with
  |int κ=>
   rw[h1,h2]at h
   match x,h with
   |.one (.c (.d (.int O n))),h=>
    obtain⟨rfl,_⟩:=nl hx;obtain⟨_,ds,_,q,_,_⟩:=aY h1 (by simp);obtain⟨_,I,_,C,E,_⟩:=aY h2 (by simp);obtain rfl:=OH E;refine⟨.int κ (κ.wrap n),_,fun _=>False,fun _ h=>h.elim,fun w _=>?_,mh (wf_wrap _ _),h⟩
    grind [Program.intKind,run_convert_int]
  |_=>grind
 |sl e=>
  cases h2:(ty P g).k with
  |str=>
   rw[h1,h2]at h;obtain⟨_,ds,_,q,J,_⟩:=aY h1 (by simp);obtain rfl:=oS J;obtain⟨_,I,_,C,E,_⟩:=aY h2 (by simp);obtain rfl:=Gh E
   match x,h with
   |.one (.c (.d (.li l))),h=>
    obtain⟨h3,h⟩:=h;obtain⟨_,K,_,t,A,_⟩:=aY h3 (by simp);obtain rfl:=OH A;cases hd:uj l with
    |none=>grind
    |some bs=>
     rw[hd]at h;obtain⟨f,rfl,rfl⟩:=Sy hd;obtain⟨a,c,rfl,hc,hb,h4⟩:=gG hx.2;rw[ai2]at hb hc⊢;by_cases h0:f=[]
     ·subst h0;refine⟨.string ByteArray.empty,sc (.str []),fun _=>False,fun _ h=>h.elim,fun w _=>?_,qg (l:=[]) (by simp),h⟩;cases a with
      |none=>grind [run_convert_bytes_nil]
      |some ad=>
       simp_all[run_convert_bytes_string,run_bytesToString,loadCells,loadCellsFrom]
     ·have Q:f.length≠0:=by grind
      rcases h4 with h4|⟨b,o,es,kk,rfl,h5⟩
      ·grind
      have p:∀i,i<f.length->∃y:Value,H b (o+i)=some y/\y=.int .u8 (f.getD i 0):=by
       intro i hi;obtain⟨g1,g2⟩:=h5 i (by grind);have r:(f.map fun n=>[D.int .u8 n]).getD i []=[D.int .u8 (f.getD i 0)]:=by
        grind
       rw[r]at g1 g2;have v:es=1:=g1.symm
       subst v;obtain⟨y,hy,hf⟩:=g2 0 kQ1;refine⟨y,by grind,?_⟩;exact(fH ⟨_,hf⟩).1
      refine⟨.string (strOfNums f),sc (.str _),fun b'=>b'=b,fun b' s=>?_,fun w2 M=>?_,?_,h⟩
      ·subst s;obtain⟨y,hy,_⟩:=p 0 kQ1
       grind
      ·refine run_convert_bytes_arg w2 j e q t b o _ c f rfl (fun i hi=>?_) g C;obtain⟨y,hy,N⟩:=p i hi;have this:w.cell? ⟨b,o+i,none⟩=some y:=G.agree b (o+i) y hy
       grind [World.cell?_of_block]
      ·exact qg (by grind)
   |.one (.c .nil),h=>
    obtain⟨h3,h⟩:=h;obtain⟨_,K,_,t,A,_⟩:=aY h3 (by simp);obtain rfl:=OH A;obtain⟨_,rfl⟩:=hx;exact⟨.string ByteArray.empty,sc (.str []),fun _=>False,fun _ h=>h.elim,fun w _=>run_convert_bytes_nil w j e q t _ _ g C,qg (l:=[]) (by simp),h⟩
  |_=>grind
 |_=>grind
def AA:TK->Bool->Bool
 |.str,b=>b
 |.sl _,b=>!b
 |_,_=>false
def opC(nt:Nat)(o:Oper):Bool:=
 okD nt o.dst&&match o.op with
 |.move x=>aH x
 |.assign x=>aH x
 |.pick c x y=>aH c&&aH x&&aH y
 |.binOp _ _ x y _=>aH x&&aH y
 |.unOp _ _ x=>aH x
 |.load _ x=>aH x
 |.field _ x _=>aH x
 |.fieldAddr _ x _=>aH x
 |.indexAddr _ x i=>aH x&&aH i
 |.index _ x i=>aH x&&aH i
 |.extract x _=>aH x
 |.convert _ _ x=>aH x
 |.slice _ x lo hi none=>aH x&&lo.all aH&&hi.all aH
 |.nilCheck x=>aH x
 |.build _ ps=>ps.toList.all fun x=>aH x.2
 |.store _ x v=>aH x&&aH v
 |.alloc _=>true
 |.box _ x=>aH x
 |.buildSlice _ _ ps=>ps.toList.all fun x=>aH x.2
 |.call c=>c.args.toList.all aH
 |.makeMap _ r=>match r with
  |some x=>aH x
  |none=>true
 |.lookup _ x i _=>aH x&&aH i
 |.mapUpdate _ m i v=>aH m&&aH i&&aH v
 |.makeSlice _ n c=>aH n&&aH c
 |.makeFunc _ _ ps=>ps.toList.all aH
 |.range _ x=>aH x
 |.next x _=>aH x
 |.entry x=>aH x
 |_=>false
def opK(P:Program)(cs:CT)(o:Oper)(s:S)(k:S->Prop):Prop:=
 match o.op with
 |.move x=>k (s.put o.dst (ev s x))
 |.assign x=>k (s.put o.dst (ev s x))
 |.pick c x y=>KM (ev s c) (ev s x) (ev s y) fun v=>k (s.put o.dst v)
 |.binOp op t x y _=>Mt P op t (ev s x) (ev s y) fun v=>k (s.put o.dst v)
 |.unOp op _ x=>unK op (ev s x) fun v=>k (s.put o.dst v)
 |.load t x=>uC P s.m t (ev s x) fun v=>k (s.put o.dst v)
 |.field t x i=>vW P t (ev s x) i fun v=>k (s.put o.dst v)
 |.fieldAddr t x i=>gL P s.m t (ev s x) i fun v=>k (s.put o.dst v)
 |.indexAddr t x i=>gO P s.m t (ev s x) (ev s i) fun v=>k (s.put o.dst v)
 |.index t x i=>(ty P t).k=.str/\wT (ev s x) (ev s i) fun v=>k (s.put o.dst v)
 |.extract x i=>kB (ev s x) i fun v=>k (s.put o.dst v)
 |.convert b a x=>uh P b a (ev s x) fun v=>k (s.put o.dst v)
 |.slice t x lo hi none=>mg P t (ev s x) (lo.map (ev s)) (hi.map (ev s)) fun v=>k (s.put o.dst v)
 |.nilCheck x=>mV (ev s x) fun v=>k (s.put o.dst v)
 |.build t ps=>so P t (kI s ps) fun v=>k (s.put o.dst v)
 |.store t x v=>wQ P s t (ev s x) (ev s v) fun s'=>k (s'.put o.dst .any)
 |.alloc t=>match o.dst with
  |some d=>vE P s t d k
  |none=>False
 |.box t x=>match o.dst with
  |some d=>RB s x d k
  |none=>False
 |.buildSlice t n ps=>match o.dst with
  |some d=>gV P s t n ps d k
  |none=>False
 |.call c=>match c.callee,c.args.toList,c.argTypes.toList with
  |.builtin .len,[x],[t]=>AA (ty P t).k (qH (ev s x))=true/\Ki s.m (ev s x) fun n=>k (s.put o.dst (sc (.int .i64 (n:Int))))
  |.builtin .append,[x,y],[t,u]=>match o.dst with
   |some d=>qv P s t u x y d k
   |none=>False
  |.value (.func f),args,_=>match cs.get f with
   |some C=>C s args fun s' av=>k (s'.put o.dst av)
   |none=>False
  |_,_,_=>False
 |_=>False
def qK(P:Program)(o:Oper)(s:S)(k:AV->Prop):Prop:=
 match o.op with
 |.move x=>k (ev s x)
 |.assign x=>k (ev s x)
 |.pick c x y=>KM (ev s c) (ev s x) (ev s y) k
 |.binOp op t x y _=>Mt P op t (ev s x) (ev s y) k
 |.unOp op _ x=>unK op (ev s x) k
 |.load t x=>uC P s.m t (ev s x) k
 |.field t x i=>vW P t (ev s x) i k
 |.fieldAddr t x i=>gL P s.m t (ev s x) i k
 |.indexAddr t x i=>gO P s.m t (ev s x) (ev s i) k
 |.index t x i=>(ty P t).k=.str/\wT (ev s x) (ev s i) k
 |.extract x i=>kB (ev s x) i k
 |.convert b a x=>uh P b a (ev s x) k
 |.slice t x lo hi none=>mg P t (ev s x) (lo.map (ev s)) (hi.map (ev s)) k
 |.nilCheck x=>mV (ev s x) k
 |.build t ps=>so P t (kI s ps) k
 |.call c=>match c.callee,c.args.toList,c.argTypes.toList with
  |.builtin .len,[x],[t]=>AA (ty P t).k (qH (ev s x))=true/\Ki s.m (ev s x) fun n=>k (sc (.int .i64 (n:Int)))
  |_,_,_=>False
 |_=>False
def isQ(o:Oper):Bool:=
 match o.op with
 |.move _=>true
 |.assign _=>true
 |.pick _ _ _=>true
 |.binOp _ _ _ _ _=>true
 |.unOp _ _ _=>true
 |.load _ _=>true
 |.field _ _ _=>true
 |.fieldAddr _ _ _=>true
 |.indexAddr _ _ _=>true
 |.index _ _ _=>true
 |.extract _ _=>true
 |.convert _ _ _=>true
 |.slice _ _ _ _ none=>true
 |.nilCheck _=>true
 |.build _ _=>true
 |.call c=>match c.callee with
  |.builtin .len=>true
  |_=>false
 |_=>false
def gN(s:S)(o:Oper):Prop:=
 match o.op with
 |.load _ x=>JG (ev s x)=true
 |_=>True
variable{o:Oper}
section
variable {P:Program} {cs:CT} {g:G} {Q:Exit->S->Prop} {s:S}
theorem tw{K:S->Prop}
  (h:∀a w H γ F,RX g s a w H γ F->∃s' y w' H' γ' F',(execOp a.eval o).run P w=.ok (.value y) w'/\K s'/\RX g s' (a.put o.dst y) w' H' γ' F'):AO P g o K Q s:=by
 intro a w ⟨H,γ,F,hX⟩;obtain⟨s',y,w',H',γ',F',h1,h2,h3⟩:=h a w H γ F hX;unfold Oper.wp;rw[h1];exact⟨s',h2,H',γ',F',h3⟩
theorem Qq{K:S->Prop}(hq:isQ o=true)(h:opK P cs o s K):qK P o s (fun v=>K (s.put o.dst v)):=by
 grind [isQ,opK,qK]
theorem Bf{k:AV->Prop}{a:Act}{w:World}{H:FH}{γ:Gam}{F:Nm->Fp}(hX:RX g s a w H γ F)(hc:opC g.nt o=true)(h:qK P o s k) :
  ∃z d,∃B:Nat->Prop,(gN s o->∀b,B b->∃o y,H b o=some y)/\(∀w2:World,(∀b,B b->w2.heap[b]? = w.heap[b]?)->(execOp a.eval o).run P w2=.ok (.value z) w2)/\AR w H γ s.m d z/\k d:=by
 unfold opC at hc;unfold qK at h;unfold gN;rw[aiW]at hc;obtain⟨hd,hc⟩:=hc;have none:∀{z d},(∀w2:World,(execOp a.eval o).run P w2=.ok (.value z) w2)->AR w H γ s.m d z->k d ->
   ∃z d,∃B:Nat->Prop,((match o.op with|.load _ x=>JG (ev s x)=true|_=>True)->∀b,B b->∃o y,H b o=some y)/\(∀w2:World,(∀b,B b->w2.heap[b]? = w.heap[b]?)->(execOp a.eval o).run P w2=.ok (.value z) w2)/\AR w H γ s.m d z/\k d:=
  fun{z d}h1 h2 h3=>⟨z,d,fun _=>False,fun _ _ h=>h.elim,fun w2 _=>h1 w2,h2,h3⟩
 cases ho:o.op with
 |move x=>
  rw[ho]at h hc;rw[<- ho];exact none (fun w2=>by simp[execOp,ho]) (aL hX hc) h
 |assign x=>
  rw[ho]at h hc;rw[<- ho];exact none (fun w2=>by simp[execOp,ho]) (aL hX hc) h
 |pick c x y=>
  rw[ho]at h hc;rw[<- ho];dsimp only at hc;simp only[aiW]at hc;obtain⟨b,v,q,f,p⟩:=X9 h (aL hX hc.1.1) (aL hX hc.1.2) (aL hX hc.2);refine none (fun w2=>?_) f p
  grind [execOp,asBool,Sem.run_pure]
 |binOp op t x y z=>
  rw[ho]at h hc;rw[<- ho];dsimp only at hc;simp only[aiW]at hc;obtain⟨z,d,q,f,p⟩:=ZF (P:=P) (xo:=x) (yo:=y) h (aL hX hc.1) (aL hX hc.2);refine none (fun w2=>?_) f p;simp only[execOp,ho];rw[Sem.run_bind,q];rfl
 |unOp op t x=>
  rw[ho]at h hc;rw[<- ho];obtain⟨z,d,q,f,p⟩:=agT (P:=P) h (aL hX hc);exact none (fun w2=>by simp_all[execOp]) f p
 |load t x=>
  rw[ho]at h hc;obtain⟨z,d,B,e0,q,f,p⟩:=AB (P:=P) hX.mem h (aL hX hc);exact⟨z,d,B,e0,fun w2 C=>by simp_all[execOp],f,p⟩
 |field t x i=>
  rw[ho]at h hc;rw[<- ho];obtain⟨z,d,q,f,p⟩:=SG (P:=P) h (aL hX hc);exact none (fun w2=>by simp_all[execOp]) f p
 |fieldAddr t x i=>
  rw[ho]at h hc;rw[<- ho];obtain⟨z,d,q,f,p⟩:=BU (P:=P) hX.mem h (aL hX hc);exact none (fun w2=>by simp_all[execOp]) f p
 |indexAddr t x i=>
  rw[ho]at h hc;rw[<- ho];dsimp only at hc;simp only[aiW]at hc;obtain⟨z,d,q,f,p⟩:=BW (P:=P) hX.mem h (aL hX hc.1) (aL hX hc.2);exact none (fun w2=>by simp_all[execOp]) f p
 |index t x i=>
  rw[ho]at h hc;rw[<- ho];obtain⟨hs,h⟩:=h;dsimp only at hc;simp only[aiW]at hc;obtain⟨z,d,q,f,p⟩:=Uo (P:=P) hs h (aL hX hc.1) (aL hX hc.2);exact none (fun w2=>by simp_all[execOp]) f p
 |extract x i=>
  rw[ho]at h hc;rw[<- ho];obtain⟨z,d,q,f,p⟩:=Ja (P:=P) h (aL hX hc);exact none (fun w2=>by simp_all[execOp]) f p
 |convert J K x=>
  rw[ho]at h hc;rw[<- ho];obtain⟨z,d,B,e0,q,f,p⟩:=WG (P:=P) hX.mem h (aL hX hc);exact⟨z,d,B,fun _=>e0,fun w2 C=>by simp_all[execOp],f,p⟩
 |slice t x lo hi G=>
  rw[ho]at h hc;cases G with
  |some _=>grind
  |none=>
   rw[<- ho];dsimp only at hc;simp only[aiW]at hc;have u:∀(y:Option Operand),y.all aH=true->Q3 w H γ s.m (y.map (ev s)) (y.map a.eval):=by
    intro y hy;cases y with
    |none=>exact trivial
    |some y=>exact aL hX (by grind)
   obtain⟨z,d,q,f,p⟩:=Uf (P:=P) h (aL hX hc.1.1) (u lo hc.1.2) (u hi hc.2);exact none (fun w2=>by simp_all[execOp]) f p
 |nilCheck x=>
  rw[ho]at h hc;rw[<- ho];obtain⟨⟨ad,q⟩,f⟩:=FE h (aL hX hc);refine none (z:=a.eval x) (d:=ev s x) (fun w2=>?_) (aL hX hc) f
  grind [execOp,Sem.run_pure]
 |build t ps=>
  rw[ho]at h hc;rw[<- ho];obtain⟨z,d,q,f,p⟩:=RE (P:=P) hX.mem (vs:=ps.map fun(i,x)=>(i,a.eval x)) h (by rw[Array.toList_map];exact tO (m:=s.m) hX hc);exact none (fun w2=>by simp_all[execOp]) f p
 |call c=>
  rw[ho]at h hc;rw[<- ho];obtain⟨r,args,j⟩:=c;obtain⟨args⟩:=args;obtain⟨j⟩:=j;dsimp only at h hc;cases r with
  |builtin b=>
   cases b with
   |len=>
    match args,j,h with
    |[x],[t],h=>
     obtain⟨h2,h3⟩:=h;have h1:aH x=true:=by grind
     obtain⟨n,q,f,p⟩:=abF hX.mem h3 (aL hX h1);refine none (z:=.int .i64 n) (d:=sc (.int .i64 n)) (fun w2=>?_) (mh f) q;have D:(ty P t).k≠.ot:=fun e=>by grind [AA]
     obtain⟨_,I,_,E,A,_⟩:=aY rfl D;rcases p with⟨l,u1,rfl,u4⟩|⟨b,c,u1,u4⟩
     ·rw[u4]at h2;have hk:(ty P t).k=.str:=by
       cases hk:(ty P t).k<;>rw[hk]at h2<;>first|rfl|grind [AA]
      rw[hk]at A;obtain rfl:=Gh A;simp[execOp,ho,resolve,invoke,builtin,Builtin.len_,run_underlying E,u1,goInt];rfl
     ·rw[u4]at h2;obtain⟨e,hk⟩:∃e,(ty P t).k=.sl e:=by
       cases hk:(ty P t).k<;>rw[hk]at h2<;>first|exact⟨_,rfl⟩|grind [AA]
      rw[hk]at A;obtain rfl:=oS A;simp[execOp,ho,resolve,invoke,builtin,Builtin.len_,run_underlying E,u1,goInt]
   |_=>grind
  |_=>grind
 |_=>grind
theorem fT(hc:opC g.nt o=true):okD g.nt o.dst=true:=by
 grind [opC]
theorem LP(q:cs.Ok P){K:S->Prop}(hc:opC g.nt o=true)(h:opK P cs o s K):AO P g o K Q s:=by
 by_cases hq:isQ o=true
 ·have h:=Qq hq h
  grind [UC,fT,Bf]
 unfold opC at hc;unfold opK at h;rw[aiW]at hc;obtain⟨hd,hc⟩:=hc;cases ho:o.op with
 |store t x v=>
  rw[ho]at h hc
  try dsimp only at hc
  have h1:=hc;have h2:=h
  simp only[aiW]at h1;intro a w ⟨H,γ,F,hX⟩;obtain⟨s',w',γ',F',p,k,m⟩:=Um (P:=P) hX h2 (aL hX h1.1) (aL hX h1.2);unfold Oper.wp;have:(execOp a.eval o).run P w=.ok .skip w':=by simp_all[execOp]
  rw[this];exact⟨_,k,H,γ',F',m.put hd trivial⟩
 |alloc t=>
  rw[ho]at h hc
  try dsimp only at hc
  cases j:o.dst with
  |none=>grind
  |some d=>
   rw[j]at h hd;refine tw (fun a w H γ F hX=>?_);obtain⟨s',y,w',γ',F',p,k,m⟩:=Rn (P:=P) hX hd h;exact⟨s',y,w',H,γ',F',by simp_all[execOp],k,by grind⟩
 |box t x=>
  rw[ho]at h hc
  try dsimp only at hc
  cases j:o.dst with
  |none=>grind
  |some d=>
   rw[j]at h hd;refine tw (fun a w H γ F hX=>?_);obtain⟨s',y,w',H',γ',F',p,k,m⟩:=ZH (P:=P) (t:=t) hX hd hc h;exact⟨s',y,w',H',γ',F',by simp_all[execOp],k,by grind⟩
 |buildSlice t n ps=>
  rw[ho]at h hc
  try dsimp only at hc
  cases j:o.dst with
  |none=>grind
  |some d=>
   rw[j]at h hd;refine tw (fun a w H γ F hX=>?_);obtain⟨s',y,w',H',γ',F',p,k,m⟩:=zz (P:=P) hX hd hc h;exact⟨s',y,w',H',γ',F',by simp_all[execOp],k,by grind⟩
 |call c=>
  rw[ho]at h hc
  try dsimp only at hc
  obtain⟨l,args,i⟩:=c;obtain⟨args⟩:=args;obtain⟨i⟩:=i;dsimp only at h;cases l with
  |builtin b=>
   cases b with
   |append=>
    match args,i,h with
    |[x,y],[t,u],h=>
     cases j:o.dst with
     |none=>grind
     |some d=>
      rw[j]at h hd;have h2:=h
      have h1:aH x=true/\aH y=true:=by grind
      refine tw (fun a w H γ F hX=>?_);obtain⟨s',B,w',H',γ',F',p,k,m⟩:=Ml (P:=P) (tt:=o.type) hX hd h1.1 h1.2 h2;refine⟨s',B,w',H',γ',F',?_,k,by grind⟩
      simp_all[execOp,resolve,invoke,builtin]
   |len=>grind [isQ]
   |_=>grind
  |value v=>
   cases v with
   |func f=>
    dsimp only at h;have h1:=hc;have h2:=h
    cases z:cs.get f with
    |none=>grind
    |some C=>
     rw[z]at h2;have A:=CT.ok_get q z
     intro a w ⟨H,γ,F,hX⟩;have hr:(execOp a.eval o).run P w=.ok (.enter f (args.map a.eval).toArray) w:=by
      grind [execOp,resolve,Act.eval,Deferred.ofValue,invoke,Con.run]
     unfold Oper.wp;rw[hr];refine Calls.mono (A.call g s a w H γ F args _ hX h1 h2) (fun e w'⟨r,s',av,H',γ',F',k1,k2,k3,k4⟩=>?_);subst k1;exact⟨_,k2,H',γ',F',k4.put hd k3⟩
   |_=>grind
  |invoke r n=>grind
 |slice t x lo hi D=>grind [isQ]
 |_=>grind [isQ]
end
def abV(P:Program)(cs:CT)(all:List Oper):List Oper->S->(S->Prop)->Prop
 |[],s,k=>k s
 |o::r,s,k=>match o.guard with
  |none=>opK P cs o s fun s'=>abV P cs all r s' k
  |some (j,want)=>match(all[j]?).bind (·.dst)with
   |some d=>match bd s.t d with
    |.one (.c (.d (.bool c)))=>
     gsel c want (opK P cs o (s.put (some d) (sc (.bool want))) fun s'=>abV P cs all r s' k)
      (abV P cs all r ((s.put (some d) (sc (.bool (!want)))).put o.dst (.tup [])) k)
    |.tup []=>abV P cs all r (s.put o.dst (.tup [])) k
    |_=>False
   |none=>False
def abU(nt:Nat)(all:List Oper):List Oper->Bool
 |[]=>true
 |o::r=>opC nt o&&(match o.guard with
  |none=>true
  |some (j,_)=>match(all[j]?).bind (·.dst)with
   |some d=>decide (d<nt)
   |none=>true)&&abU nt all r
theorem AO.mono{P:Program}{g:G}{K K':S->Prop}{Q:Exit->S->Prop}{s:S}(hk:∀s,K s->K' s)(h:AO P g o K Q s):AO P g o K' Q s:=fun a w hR=>
 cy (fun _ _⟨s',h1,h2⟩=>⟨s',hk _ h1,h2⟩) (fun _ _ _ h=>h) (h a w hR)
def S.keep(s:S)(ks:List Nat):S:=⟨s.t.filter fun x=>ks.contains x.1,s.m⟩
def T.isFz:T->Bool
 |.pl _=>false
 |.rf _=>false
 |.ow _ _=>false
 |.mp _=>false
 |.it _ _=>false
 |_=>true
def AV1.isFz:AV1->Bool
 |.c t=>t.isFz
 |.agg ts=>ts.all T.isFz
def AV.isFz:AV->Bool
 |.one x=>x.isFz
 |.tup xs=>xs.all AV1.isFz
 |.any=>true
variable{y:Value}
section
variable {w w':World} {H H':FH} {γ γ':Gam} {m m':Mm}
theorem adG(a:∀b o y,H b o=some y->H' b o=some y){t:T}{f:Fp}(hz:t.isFz=true)(h:TR w H γ m t f y):TR w' H' γ' m' t f y:=by
 cases t with
 |d x=>exact⟨h.1,eJ a h.2⟩
 |nil=>exact h
 |el row off=>obtain⟨h0,b,o,k,h1,h2⟩:=h;exact⟨h0,b,o,k,h1,mj a h2⟩
 |any=>exact h
 |_=>grind [T.isFz]
theorem adI(a:∀b o y,H b o=some y->H' b o=some y):∀{ts:List T}{f:Fp}{vs:List Value},ts.all T.isFz=true->Ts (TR w H γ m) ts f vs->Ts (TR w' H' γ' m') ts f vs
 |[],_,_,_,h=>h
 |t::ts,f,vs,hz,h=>by
  simp only[ajE,aiW]at hz;obtain⟨v,r,f1,c,h1,h2,h3,h4⟩:=h;exact⟨v,r,f1,c,h1,h2,adG a hz.1 h3,adI a hz.2 h4⟩
theorem UD(a:∀b o y,H b o=some y->H' b o=some y){x:AV1}(hz:x.isFz=true)(h:AR1 w H γ m x y):AR1 w' H' γ' m' x y:=by
 cases x with
 |c t=>exact adG a hz h
 |agg ts=>obtain⟨cs,h1,h2,h3⟩:=h;exact⟨cs,h1,h2,adI a hz h3⟩
theorem UH(c:∀b o y,H b o=some y->H' b o=some y):∀{xs:List AV1}{a:List Value},xs.all AV1.isFz=true->ARs w H γ m xs a->ARs w' H' γ' m' xs a
 |[],[],_,_=>trivial
 |x::xs,y::a,hz,h=>by
  simp only[ajE,aiW]at hz;exact⟨UD c hz.1 h.1,UH c hz.2 h.2⟩
 |[],_::_,_,h=>h.elim
 |_::_,[],_,h=>h.elim
theorem yN(a:∀b o y,H b o=some y->H' b o=some y){x:AV}(hz:x.isFz=true)(h:AR w H γ m x y):AR w' H' γ' m' x y:=by
 cases x with
 |one x=>exact UD a hz h
 |tup xs=>obtain⟨l,h1,h2⟩:=h;exact⟨l,h1,UH a hz h2⟩
 |any=>trivial
end
def dV:Nat->List AV->List (Nat×AV)
 |_,[]=>[]
 |k,x::r=>(k,x)::dV (k+1) r
theorem jv:∀(k:Nat)(l:List AV)(i:Nat),bd (dV k l) i=if k<=i then(l[i-k]?).getD .any else .any
 |k,[],i=>by simp[dV,bd]
 |k,x::r,i=>by
  simp only[dV,bd,jv (k+1) r i]
  grind
def T.canon:T->T
 |.nil=>.d (.li [])
 |.it _ l=>.it none l
 |t=>t
theorem adH{w:World}{H:FH}{γ:Gam}{m m':Mm}{cur:Option (D×D)}{l:List (D×D)}{f:Fp}(h:TR w H γ m (.it cur l) f y):TR w H γ m' (.it none l) f y:=by
 obtain⟨r,q,a,s,c,h1,h2,h3,h4⟩:=h;refine⟨r,q,a,s,c,h1,h2,?_,h4⟩;cases q with
 |none=>exact⟨rfl,h3.2⟩
 |some b=>obtain⟨es,ck,k1,k2,k3,k4,_⟩:=h3;exact⟨es,ck,k1,k2,k3,k4,trivial⟩
theorem fu{w:World}{H:FH}{γ:Gam}{m:Mm}(t:T)(y:Value)(h:TR w H γ m t (fun _=>0) y):TR w H γ m t.canon (fun _=>0) y:=by
 cases t with
 |nil=>obtain⟨_,rfl⟩:=h;exact⟨fun _=>rfl,lj⟩
 |it cur rest=>exact adH h
 |_=>exact h
def nN(s:S)(n:Nm):Nat->S
 |0=>s
 |i+1=>Jq (nN s n i) ⟨n,i,[]⟩
def pD(s:S):ResultVar->S
 |.tmp t=>Js s (bd s.t t)
 |.cell a _=>match bd s.t a with
  |.one (.c (.pl p))=>match af s.m p.root with
   |some r=>nN s p.root r.cells.length
   |none=>s
  |_=>s
def ir:S->List ResultVar->S
 |s,[]=>s
 |s,r::rs=>ir (pD s r) rs
def wJ(P:Program)(s:S):ResultVar->(AV->Prop)->Prop
 |.tmp t,k=>k (bd s.t t)
 |.cell a t,k=>uC P s.m t (bd s.t a) k
def fW(P:Program)(s:S):List ResultVar->(List AV1->Prop)->Prop
 |[],k=>k []
 |r::rs,k=>wJ P s r fun
  |.one x=>fW P s rs fun xs=>k (x::xs)
  |_=>False
def wK(P:Program)(s:S)(rs:List ResultVar)(k:AV->Prop):Prop:=
 fW P (ir s rs) rs fun
  |[x]=>x.isFz=true/\k (.one (x.map T.canon))
  |xs=>xs.all AV1.isFz=true/\k (.tup (xs.map (·.map T.canon)))
variable{k:AV->Prop}
section
variable {P:Program} {g:G} {s:S} {a:Act} {w:World} {H:FH} {γ:Gam} {F:Nm->Fp}
theorem zh(h:RX g s a w H γ F)(n:Nm):∀i,∃H' F',RX g (nN s n i) a w H' γ F'
 |0=>⟨H,F,h⟩
 |i+1=>by
  obtain⟨H1,F1,h1⟩:=zh h n i;exact L5 h1 _
theorem Q5(h:RX g s a w H γ F)(r:ResultVar):∃H' F',RX g (pD s r) a w H' γ F':=by
 cases r with
 |tmp t=>exact EB h _
 |cell a' t=>
  simp only[pD];split
  ·split
   ·exact zh h _ _
   grind
  grind
theorem se:∀(rs:List ResultVar)(s:S)(H:FH)(F:Nm->Fp),RX g s a w H γ F->∃H' F',RX g (ir s rs) a w H' γ F'
 |[],s,H,F,h=>⟨H,F,h⟩
 |r::rs,s,H,F,h=>by
  obtain⟨H1,F1,h1⟩:=Q5 h r;exact se rs _ H1 F1 h1
def l7(tmps:Array Value):ResultVar->Sem Value
 |.tmp t=>pure (tmps.getD t undef)
 |.cell a t=>do loadVar t (<- asAddr (tmps.getD a undef))
theorem T9(h:RX g s a w H γ F)(e:g.ex=none){r:ResultVar}(hk:wJ P s r k):∃y v,(l7 a.tmps r).run P w=.ok y w/\AR w H γ s.m v y/\k v:=by
 cases r with
 |tmp t=>
  have c:=h.t t
  rw[G.tv_none e]at c;exact⟨_,_,rfl,c,hk⟩
 |cell a' t=>
  simp only[wJ]at hk;obtain⟨z,d,B,_,b,f,i⟩:=AB (P:=P) h.mem hk (by have c:=h.t a';rw[G.tv_none e]at c;exact c)
  replace b:=b w (fun _ _=>rfl)
  refine⟨z,d,?_,f,i⟩;simp only[l7];simp only[Instr.loadAt]at b;generalize a.tmps.getD a' undef=u at b;cases u with
  |pointer ad=>
   cases ad with
   |some ad=>grind [asAddr,Instr.sureAddr]
   |none=>simp[Instr.sureAddr]at b
  |_=>simp[Instr.sureAddr]at b
theorem s6(h:RX g s a w H γ F)(b:g.ex=none):∀{rs:List ResultVar}{k:List AV1->Prop},fW P s rs k->∃c xs,(rs.mapM (l7 a.tmps)).run P w=.ok c w/\ARs w H γ s.m xs c/\k xs/\c.length=rs.length
 |[],k,hk=>⟨[],[],rfl,trivial,hk,rfl⟩
 |r::rs,k,hk=>by
  obtain⟨y,v,j,d,f⟩:=T9 h b hk;cases v with
  |one x=>
   obtain⟨c,xs,f1,e,i,f4⟩:=s6 h b f;refine⟨y::c,x::xs,?_,⟨d,e⟩,i,by simp[f4]⟩
   simp_all
  |tup _=>grind
  |any=>grind
theorem kV(fn:Func)(tmps:Array Value):results fn tmps=(do
  let vs <- fn.results.mapM (l7 tmps)
  pure (if h:vs.size=1 then vs[0]else .tuple vs)):=by
 rfl
theorem F7(h:RX g s a w H γ F)(f:g.ex=none){fn:Func}(hk:wK P s fn.results.toList k) :
  ∃y v s' H' F',(results fn a.tmps).run P w=.ok y w/\RX g s' a w H' γ F'/\AR w H' γ s'.m v y/\v.isFz=true/\k (v.map T.canon):=by
 unfold wK at hk;obtain⟨H1,F1,h1⟩:=se fn.results.toList s H F h;obtain⟨c,xs,l,d,b,o⟩:=s6 h1 f hk;have e:(results fn a.tmps).run P w=.ok (if h:c.toArray.size=1 then c.toArray[0]else .tuple c.toArray) w:=by
  simp_all[kV,Array.mapM_eq_mapM_toList]
 refine⟨_,(match xs with|[x]=>.one x|xs=>.tup xs),_,H1,F1,e,h1,?_⟩
 match xs,c,d,b with
 |[],[],d,b=>exact⟨⟨#[],by simp,trivial⟩,b.1,b.2⟩
 |[x],[y],d,b=>exact⟨d.1,b.1,b.2⟩
 |p::n::xs,j::i::c,d,b=>exact⟨⟨(j::i::c).toArray,by simp,by omega⟩,b.1,b.2⟩
def agL(P:Program)(rs:List ResultVar)(K:AV->Prop):Exit->S->Prop
 |.normal,s=>wK P s rs K
 |.ret,s=>wK P s rs K
 |_,_=>False
end
end Go.Am
end
