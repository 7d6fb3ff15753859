/-
  Part 8: AmStep · AmPure.
-/
import Derived.Test.YtgpedlcblhiklaaGreatDoorSo7
import Derived.Laws.BytesArg
set_option linter.unusedSimpArgs false
set_option linter.unusedVariables false
set_option linter.unusedSectionVars false
set_option linter.unnecessarySimpa false
section
namespace Go.Am
abbrev CK1:=S->List Operand->(S->AV->Prop)->Prop
abbrev CT:=List (Nat×CK1)
def CT.get:CT->Nat->Option CK1
 |[],_=>none
 |(f,c)::r,i=>if f=i then some c else CT.get r i
structure Con (P:Program) (f:Nat) (C:CK1):Prop where
 run:∀args w,(callFunc f args).run P w=.ok (.enter f args) w
 call:∀(g:G)(s:S)(a:Act)(w:World)(H:FH)(γ:Gam)(F:Nm->Fp)(ops:List Operand)(k:S->AV->Prop),RX g s a w H γ F->ops.all aG=true->C s ops k ->
  Calls P f (ops.map a.eval).toArray w (fun e w'=>∃r s' av H' γ' F',e=.returned r/\k s' av/\AR w' H' γ' s'.m av r/\RX g s' a w' H' γ' F')
def CT.Ok(P:Program)(cs:CT):Prop:=∀x∈cs,Con P x.1 x.2
theorem CT.ok_get{P:Program}{cs:CT}(h:cs.Ok P){f:Nat}{C:CK1}(hg:cs.get f=some C):Con P f C:=by
 induction cs with
 |nil=>grind [CT.get]
 |cons x cs ih=>
  obtain⟨f',c⟩:=x;simp only[CT.get]at hg;split at hg
  ·rename_i e;subst e;obtain rfl:=Option.some.inj hg;exact h (f',c) (by simp)
  ·exact ih (fun y hy=>h y (agM _ hy)) hg
def tQ:List (List D)->Option (List UInt8)
 |[]=>some []
 |[.int .u8 n]::r=>(tQ r).map fun l=>UInt8.ofNat n.toNat::l
 |_=>none
def tO(P:Program)(f a:TypeId)(x:AV)(k:AV->Prop):Prop:=
 match(ty P f).k,(ty P a).k,x with
 |.int _,.int κ,.one (.c (.d (.int _ n)))=>k (sc (.int κ (κ.wrap n)))
 |.sl e,.str,.one (.c (.d (.li l)))=>(ty P e).k=.int .u8/\match tQ l with
  |some b=>k (sc (.str b))
  |none=>False
 |.sl e,.str,.one (.c .nil)=>(ty P e).k=.int .u8/\k (sc (.str []))
 |_,_,_=>False
theorem Q0:∀{l:List (List D)}{b:List UInt8},tQ l=some b->∃a:List Int,l=a.map (fun n=>[D.int .u8 n])/\b=a.map fun n=>UInt8.ofNat n.toNat:=by
 intro l;induction l with
 |nil=>simp_all[tQ]
 |cons r rs ih=>
  intro b h;unfold tQ at h;split at h
  ·grind
  ·rename_i n f d;obtain⟨rfl,rfl⟩:=List.cons.inj d;cases hd:tQ rs with
   |none=>grind
   |some c=>
    rw[hd]at h;obtain⟨a,e,g⟩:=ih hd;simp only[Option.map_some,af0]at h;exact⟨n::a,by grind,by grind⟩
  grind
theorem Vb{P:Program}{w:World}{H:FH}{γ:Gam}{m:Mm}{F:Nm->Fp}(O:Mem w H γ m F){j g:TypeId}{x:AV}{k:AV->Prop}{u:Value}(h:tO P j g x k)(hx:AR w H γ m x u) :
  ∃z d,∃B:Nat->Prop,(∀b,B b->∃o y,H b o=some y)/\(∀w2:World,(∀b,B b->w2.heap[b]? = w.heap[b]?)->(convert j g u).run P w2=.ok z w2)/\AR w H γ m d z/\k d:=by
 unfold tO at h;cases h1:(ty P j).k with
 |int J=>
  cases h2:(ty P g).k with
  |int κ=>
   rw[h1,h2]at h
   match x,h with
   |.one (.c (.d (.int K n))),h=>
    obtain⟨rfl,_⟩:=mZ hx;obtain⟨_,ds,_,v,_,_⟩:=aV h1 (by simp);obtain⟨_,N,_,E,r,_⟩:=aV h2 (by simp);obtain rfl:=NM r;refine⟨.int κ (κ.wrap n),_,fun _=>False,fun _ h=>h.elim,fun w _=>?_,lV (wf_wrap _ _),h⟩
    grind [Program.intKind,run_convert_int]
  |_=>grind
 |sl e=>
  cases h2:(ty P g).k with
  |str=>
   rw[h1,h2]at h;obtain⟨_,ds,_,v,L,_⟩:=aV h1 (by simp);obtain rfl:=oD L;obtain⟨_,N,_,E,r,_⟩:=aV h2 (by simp);obtain rfl:=Fx r
   match x,h with
   |.one (.c (.d (.li l))),h=>
    obtain⟨h3,h⟩:=h;obtain⟨_,G,_,A,s,_⟩:=aV h3 (by simp);obtain rfl:=NM s;cases hd:tQ l with
    |none=>grind
    |some bs=>
     rw[hd]at h;obtain⟨f,rfl,rfl⟩:=Q0 hd;obtain⟨a,c,rfl,hc,hb,h4⟩:=gk hx.2;rw[af7]at hb hc⊢;by_cases h0:f=[]
     ·subst h0;refine⟨.string ByteArray.empty,sc (.str []),fun _=>False,fun _ h=>h.elim,fun w _=>?_,pT (l:=[]) (by simp),h⟩;cases a with
      |none=>grind [run_convert_bytes_nil]
      |some ad=>
       simp_all[run_convert_bytes_string,run_bytesToString,loadCells,loadCellsFrom]
     ·have I:f.length≠0:=by grind
      rcases h4 with h4|⟨b,o,es,kk,rfl,h5⟩
      ·grind
      have p:∀i,i<f.length->∃y:Value,H b (o+i)=some y/\y=.int .u8 (f.getD i 0):=by
       intro i hi;obtain⟨g1,g2⟩:=h5 i (by grind);have t:(f.map fun n=>[D.int .u8 n]).getD i []=[D.int .u8 (f.getD i 0)]:=by
        grind
       rw[t]at g1 g2;have q:es=1:=g1.symm
       subst q;obtain⟨y,hy,hf⟩:=g2 0 kQ1;refine⟨y,by grind,?_⟩;exact(fp ⟨_,hf⟩).1
      refine⟨.string (strOfNums f),sc (.str _),fun b'=>b'=b,fun b' C=>?_,fun w2 M=>?_,?_,h⟩
      ·subst C;obtain⟨y,hy,_⟩:=p 0 kQ1
       grind
      ·refine run_convert_bytes_arg w2 j e v A b o _ c f rfl (fun i hi=>?_) g E;obtain⟨y,hy,Q⟩:=p i hi;have this:w.cell? ⟨b,o+i,none⟩=some y:=O.agree b (o+i) y hy
       grind [World.cell?_of_block]
      ·exact pT (by grind)
   |.one (.c .nil),h=>
    obtain⟨h3,h⟩:=h;obtain⟨_,G,_,A,s,_⟩:=aV h3 (by simp);obtain rfl:=NM s;obtain⟨_,rfl⟩:=hx;exact⟨.string ByteArray.empty,sc (.str []),fun _=>False,fun _ h=>h.elim,fun w _=>run_convert_bytes_nil w j e v A _ _ g E,pT (l:=[]) (by simp),h⟩
  |_=>grind
 |_=>grind
def Ao:TK->Bool->Bool
 |.str,b=>b
 |.sl _,b=>!b
 |_,_=>false
def opC(nt:Nat)(o:Oper):Bool:=
 okD nt o.dst&&match o.op with
 |.move x=>aG x
 |.assign x=>aG x
 |.pick c x y=>aG c&&aG x&&aG y
 |.binOp _ _ x y _=>aG x&&aG y
 |.unOp _ _ x=>aG x
 |.load _ x=>aG x
 |.field _ x _=>aG x
 |.fieldAddr _ x _=>aG x
 |.indexAddr _ x i=>aG x&&aG i
 |.index _ x i=>aG x&&aG i
 |.extract x _=>aG x
 |.convert _ _ x=>aG x
 |.slice _ x lo hi none=>aG x&&lo.all aG&&hi.all aG
 |.nilCheck x=>aG x
 |.build _ ps=>ps.toList.all fun x=>aG x.2
 |.store _ x v=>aG x&&aG v
 |.alloc _=>true
 |.box _ x=>aG x
 |.buildSlice _ _ ps=>ps.toList.all fun x=>aG x.2
 |.call c=>c.args.toList.all aG
 |.makeMap _ r=>match r with
  |some x=>aG x
  |none=>true
 |.lookup _ x i _=>aG x&&aG i
 |.mapUpdate _ m i v=>aG m&&aG i&&aG v
 |.makeSlice _ n c=>aG n&&aG c
 |.makeFunc _ _ ps=>ps.toList.all aG
 |.range _ x=>aG x
 |.next x _=>aG x
 |.entry x=>aG x
 |_=>false
def opK(P:Program)(cs:CT)(o:Oper)(s:S)(k:S->Prop):Prop:=
 match o.op with
 |.move x=>k (s.put o.dst (ev s x))
 |.assign x=>k (s.put o.dst (ev s x))
 |.pick c x y=>JR (ev s c) (ev s x) (ev s y) fun v=>k (s.put o.dst v)
 |.binOp op t x y _=>LB P op t (ev s x) (ev s y) fun v=>k (s.put o.dst v)
 |.unOp op _ x=>unK op (ev s x) fun v=>k (s.put o.dst v)
 |.load t x=>uf P s.m t (ev s x) fun v=>k (s.put o.dst v)
 |.field t x i=>vF P t (ev s x) i fun v=>k (s.put o.dst v)
 |.fieldAddr t x i=>gq P s.m t (ev s x) i fun v=>k (s.put o.dst v)
 |.indexAddr t x i=>gy P s.m t (ev s x) (ev s i) fun v=>k (s.put o.dst v)
 |.index t x i=>(ty P t).k=.str/\wz (ev s x) (ev s i) fun v=>k (s.put o.dst v)
 |.extract x i=>kl (ev s x) i fun v=>k (s.put o.dst v)
 |.convert b a x=>tO P b a (ev s x) fun v=>k (s.put o.dst v)
 |.slice t x lo hi none=>lU P t (ev s x) (lo.map (ev s)) (hi.map (ev s)) fun v=>k (s.put o.dst v)
 |.nilCheck x=>mI (ev s x) fun v=>k (s.put o.dst v)
 |.build t ps=>rT P t (kw s ps) fun v=>k (s.put o.dst v)
 |.store t x v=>wx P s t (ev s x) (ev s v) fun s'=>k (s'.put o.dst .any)
 |.alloc t=>match o.dst with
  |some d=>vh P s t d k
  |none=>False
 |.box t x=>match o.dst with
  |some d=>Qt s x d k
  |none=>False
 |.buildSlice t n ps=>match o.dst with
  |some d=>gG P s t n ps d k
  |none=>False
 |.call c=>match c.callee,c.args.toList,c.argTypes.toList with
  |.builtin .len,[x],[t]=>Ao (ty P t).k (qq (ev s x))=true/\Jr s.m (ev s x) fun n=>k (s.put o.dst (sc (.int .i64 (n:Int))))
  |.builtin .append,[x,y],[t,u]=>match o.dst with
   |some d=>qb P s t u x y d k
   |none=>False
  |.value (.func f),args,_=>match cs.get f with
   |some C=>C s args fun s' av=>k (s'.put o.dst av)
   |none=>False
  |_,_,_=>False
 |_=>False
def qK(P:Program)(o:Oper)(s:S)(k:AV->Prop):Prop:=
 match o.op with
 |.move x=>k (ev s x)
 |.assign x=>k (ev s x)
 |.pick c x y=>JR (ev s c) (ev s x) (ev s y) k
 |.binOp op t x y _=>LB P op t (ev s x) (ev s y) k
 |.unOp op _ x=>unK op (ev s x) k
 |.load t x=>uf P s.m t (ev s x) k
 |.field t x i=>vF P t (ev s x) i k
 |.fieldAddr t x i=>gq P s.m t (ev s x) i k
 |.indexAddr t x i=>gy P s.m t (ev s x) (ev s i) k
 |.index t x i=>(ty P t).k=.str/\wz (ev s x) (ev s i) k
 |.extract x i=>kl (ev s x) i k
 |.convert b a x=>tO P b a (ev s x) k
 |.slice t x lo hi none=>lU P t (ev s x) (lo.map (ev s)) (hi.map (ev s)) k
 |.nilCheck x=>mI (ev s x) k
 |.build t ps=>rT P t (kw s ps) k
 |.call c=>match c.callee,c.args.toList,c.argTypes.toList with
  |.builtin .len,[x],[t]=>Ao (ty P t).k (qq (ev s x))=true/\Jr s.m (ev s x) fun n=>k (sc (.int .i64 (n:Int)))
  |_,_,_=>False
 |_=>False
def isQ(o:Oper):Bool:=
 match o.op with
 |.move _=>true
 |.assign _=>true
 |.pick _ _ _=>true
 |.binOp _ _ _ _ _=>true
 |.unOp _ _ _=>true
 |.load _ _=>true
 |.field _ _ _=>true
 |.fieldAddr _ _ _=>true
 |.indexAddr _ _ _=>true
 |.index _ _ _=>true
 |.extract _ _=>true
 |.convert _ _ _=>true
 |.slice _ _ _ _ none=>true
 |.nilCheck _=>true
 |.build _ _=>true
 |.call c=>match c.callee with
  |.builtin .len=>true
  |_=>false
 |_=>false
def gu(s:S)(o:Oper):Prop:=
 match o.op with
 |.load _ x=>I1 (ev s x)=true
 |_=>True
variable{o:Oper}
section
variable {P:Program} {cs:CT} {g:G} {Q:Exit->S->Prop} {s:S}
theorem sU{K:S->Prop}
  (h:∀a w H γ F,RX g s a w H γ F->∃s' y w' H' γ' F',(execOp a.eval o).run P w=.ok (.value y) w'/\K s'/\RX g s' (a.put o.dst y) w' H' γ' F'):AO P g o K Q s:=by
 intro a w ⟨H,γ,F,hX⟩;obtain⟨s',y,w',H',γ',F',h1,h2,h3⟩:=h a w H γ F hX;unfold Oper.wp;rw[h1];exact⟨s',h2,H',γ',F',h3⟩
theorem Pi{K:S->Prop}(hq:isQ o=true)(h:opK P cs o s K):qK P o s (fun v=>K (s.put o.dst v)):=by
 grind [isQ,opK,qK]
theorem A2{k:AV->Prop}{a:Act}{w:World}{H:FH}{γ:Gam}{F:Nm->Fp}(hX:RX g s a w H γ F)(hc:opC g.nt o=true)(h:qK P o s k) :
  ∃z d,∃B:Nat->Prop,(gu s o->∀b,B b->∃o y,H b o=some y)/\(∀w2:World,(∀b,B b->w2.heap[b]? = w.heap[b]?)->(execOp a.eval o).run P w2=.ok (.value z) w2)/\AR w H γ s.m d z/\k d:=by
 unfold opC at hc;unfold qK at h;unfold gu;rw[afZ]at hc;obtain⟨hd,hc⟩:=hc;have none:∀{z d},(∀w2:World,(execOp a.eval o).run P w2=.ok (.value z) w2)->AR w H γ s.m d z->k d ->
   ∃z d,∃B:Nat->Prop,((match o.op with|.load _ x=>I1 (ev s x)=true|_=>True)->∀b,B b->∃o y,H b o=some y)/\(∀w2:World,(∀b,B b->w2.heap[b]? = w.heap[b]?)->(execOp a.eval o).run P w2=.ok (.value z) w2)/\AR w H γ s.m d z/\k d:=
  fun{z d}h1 h2 h3=>⟨z,d,fun _=>False,fun _ _ h=>h.elim,fun w2 _=>h1 w2,h2,h3⟩
 cases ho:o.op with
 |move x=>
  rw[ho]at h hc;rw[<- ho];exact none (fun w2=>by simp[execOp,ho]) (aJ hX hc) h
 |assign x=>
  rw[ho]at h hc;rw[<- ho];exact none (fun w2=>by simp[execOp,ho]) (aJ hX hc) h
 |pick c x y=>
  rw[ho]at h hc;rw[<- ho];dsimp only at hc;simp only[afZ]at hc;obtain⟨b,v,q,f,p⟩:=WB h (aJ hX hc.1.1) (aJ hX hc.1.2) (aJ hX hc.2);refine none (fun w2=>?_) f p
  grind [execOp,asBool,Sem.run_pure]
 |binOp op t x y z=>
  rw[ho]at h hc;rw[<- ho];dsimp only at hc;simp only[afZ]at hc;obtain⟨z,d,q,f,p⟩:=X5 (P:=P) (xo:=x) (yo:=y) h (aJ hX hc.1) (aJ hX hc.2);refine none (fun w2=>?_) f p;simp only[execOp,ho];rw[Sem.run_bind,q];rfl
 |unOp op t x=>
  rw[ho]at h hc;rw[<- ho];obtain⟨z,d,q,f,p⟩:=adP (P:=P) h (aJ hX hc);exact none (fun w2=>by simp_all[execOp]) f p
 |load t x=>
  rw[ho]at h hc;obtain⟨z,d,B,e0,q,f,p⟩:=Ap (P:=P) hX.mem h (aJ hX hc);exact⟨z,d,B,e0,fun w2 D=>by simp_all[execOp],f,p⟩
 |field t x i=>
  rw[ho]at h hc;rw[<- ho];obtain⟨z,d,q,f,p⟩:=Q9 (P:=P) h (aJ hX hc);exact none (fun w2=>by simp_all[execOp]) f p
 |fieldAddr t x i=>
  rw[ho]at h hc;rw[<- ho];obtain⟨z,d,q,f,p⟩:=BF (P:=P) hX.mem h (aJ hX hc);exact none (fun w2=>by simp_all[execOp]) f p
 |indexAddr t x i=>
  rw[ho]at h hc;rw[<- ho];dsimp only at hc;simp only[afZ]at hc;obtain⟨z,d,q,f,p⟩:=BH (P:=P) hX.mem h (aJ hX hc.1) (aJ hX hc.2);exact none (fun w2=>by simp_all[execOp]) f p
 |index t x i=>
  rw[ho]at h hc;rw[<- ho];obtain⟨hs,h⟩:=h;dsimp only at hc;simp only[afZ]at hc;obtain⟨z,d,q,f,p⟩:=SV (P:=P) hs h (aJ hX hc.1) (aJ hX hc.2);exact none (fun w2=>by simp_all[execOp]) f p
 |extract x i=>
  rw[ho]at h hc;rw[<- ho];obtain⟨z,d,q,f,p⟩:=Iv (P:=P) h (aJ hX hc);exact none (fun w2=>by simp_all[execOp]) f p
 |convert K J x=>
  rw[ho]at h hc;rw[<- ho];obtain⟨z,d,B,e0,q,f,p⟩:=Vb (P:=P) hX.mem h (aJ hX hc);exact⟨z,d,B,fun _=>e0,fun w2 D=>by simp_all[execOp],f,p⟩
 |slice t x lo hi G=>
  rw[ho]at h hc;cases G with
  |some _=>grind
  |none=>
   rw[<- ho];dsimp only at hc;simp only[afZ]at hc;have u:∀(y:Option Operand),y.all aG=true->PZ w H γ s.m (y.map (ev s)) (y.map a.eval):=by
    intro y hy;cases y with
    |none=>exact trivial
    |some y=>exact aJ hX (by grind)
   obtain⟨z,d,q,f,p⟩:=SK (P:=P) h (aJ hX hc.1.1) (u lo hc.1.2) (u hi hc.2);exact none (fun w2=>by simp_all[execOp]) f p
 |nilCheck x=>
  rw[ho]at h hc;rw[<- ho];obtain⟨⟨ad,q⟩,f⟩:=EY h (aJ hX hc);refine none (z:=a.eval x) (d:=ev s x) (fun w2=>?_) (aJ hX hc) f
  grind [execOp,Sem.run_pure]
 |build t ps=>
  rw[ho]at h hc;rw[<- ho];obtain⟨z,d,q,f,p⟩:=Qv (P:=P) hX.mem (vs:=ps.map fun(i,x)=>(i,a.eval x)) h (by rw[Array.toList_map];exact tb (m:=s.m) hX hc);exact none (fun w2=>by simp_all[execOp]) f p
 |call c=>
  rw[ho]at h hc;rw[<- ho];obtain⟨r,args,j⟩:=c;obtain⟨args⟩:=args;obtain⟨j⟩:=j;dsimp only at h hc;cases r with
  |builtin b=>
   cases b with
   |len=>
    match args,j,h with
    |[x],[t],h=>
     obtain⟨h2,h3⟩:=h;have h1:aG x=true:=by grind
     obtain⟨n,q,f,p⟩:=Za hX.mem h3 (aJ hX h1);refine none (z:=.int .i64 n) (d:=sc (.int .i64 n)) (fun w2=>?_) (lV f) q;have C:(ty P t).k≠.ot:=fun e=>by grind [Ao]
     obtain⟨_,I,_,E,A,_⟩:=aV rfl C;rcases p with⟨l,u1,rfl,u4⟩|⟨b,c,u1,u4⟩
     ·rw[u4]at h2;have hk:(ty P t).k=.str:=by
       cases hk:(ty P t).k<;>rw[hk]at h2<;>first|rfl|grind [Ao]
      rw[hk]at A;obtain rfl:=Fx A;simp[execOp,ho,resolve,invoke,builtin,Builtin.len_,run_underlying E,u1,goInt];rfl
     ·rw[u4]at h2;obtain⟨e,hk⟩:∃e,(ty P t).k=.sl e:=by
       cases hk:(ty P t).k<;>rw[hk]at h2<;>first|exact⟨_,rfl⟩|grind [Ao]
      rw[hk]at A;obtain rfl:=oD A;simp[execOp,ho,resolve,invoke,builtin,Builtin.len_,run_underlying E,u1,goInt]
   |_=>grind
  |_=>grind
 |_=>grind
theorem fG(hc:opC g.nt o=true):okD g.nt o.dst=true:=by
 grind [opC]
theorem KY(q:cs.Ok P){K:S->Prop}(hc:opC g.nt o=true)(h:opK P cs o s K):AO P g o K Q s:=by
 by_cases hq:isQ o=true
 ·have h:=Pi hq h
  grind [S6,fG,A2]
 unfold opC at hc;unfold opK at h;rw[afZ]at hc;obtain⟨hd,hc⟩:=hc;cases ho:o.op with
 |store t x v=>
  rw[ho]at h hc
  try dsimp only at hc
  have h1:=hc;have h2:=h
  simp only[afZ]at h1;intro a w ⟨H,γ,F,hX⟩;obtain⟨s',w',γ',F',p,l,m⟩:=SS (P:=P) hX h2 (aJ hX h1.1) (aJ hX h1.2);unfold Oper.wp;have:(execOp a.eval o).run P w=.ok .skip w':=by simp_all[execOp]
  rw[this];exact⟨_,l,H,γ',F',m.put hd trivial⟩
 |alloc t=>
  rw[ho]at h hc
  try dsimp only at hc
  cases j:o.dst with
  |none=>grind
  |some d=>
   rw[j]at h hd;refine sU (fun a w H γ F hX=>?_);obtain⟨s',y,w',γ',F',p,l,m⟩:=Qi (P:=P) hX hd h;exact⟨s',y,w',H,γ',F',by simp_all[execOp],l,by grind⟩
 |box t x=>
  rw[ho]at h hc
  try dsimp only at hc
  cases j:o.dst with
  |none=>grind
  |some d=>
   rw[j]at h hd;refine sU (fun a w H γ F hX=>?_);obtain⟨s',y,w',H',γ',F',p,l,m⟩:=X7 (P:=P) (t:=t) hX hd hc h;exact⟨s',y,w',H',γ',F',by simp_all[execOp],l,by grind⟩
 |buildSlice t n ps=>
  rw[ho]at h hc
  try dsimp only at hc
  cases j:o.dst with
  |none=>grind
  |some d=>
   rw[j]at h hd;refine sU (fun a w H γ F hX=>?_);obtain⟨s',y,w',H',γ',F',p,l,m⟩:=zh (P:=P) hX hd hc h;exact⟨s',y,w',H',γ',F',by simp_all[execOp],l,by grind⟩
 |call c=>
  rw[ho]at h hc
  try dsimp only at hc
  obtain⟨k,args,i⟩:=c;obtain⟨args⟩:=args;obtain⟨i⟩:=i;dsimp only at h;cases k with
  |builtin b=>
   cases b with
   |append=>
    match args,i,h with
    |[x,y],[t,u],h=>
     cases j:o.dst with
     |none=>grind
     |some d=>
      rw[j]at h hd;have h2:=h
      have h1:aG x=true/\aG y=true:=by grind
      refine sU (fun a w H γ F hX=>?_);obtain⟨s',A,w',H',γ',F',p,l,m⟩:=Lv (P:=P) (tt:=o.type) hX hd h1.1 h1.2 h2;refine⟨s',A,w',H',γ',F',?_,l,by grind⟩
      simp_all[execOp,resolve,invoke,builtin]
   |len=>grind [isQ]
   |_=>grind
  |value v=>
   cases v with
   |func f=>
    dsimp only at h;have h1:=hc;have h2:=h
    cases z:cs.get f with
    |none=>grind
    |some C=>
     rw[z]at h2;have B:=CT.ok_get q z
     intro a w ⟨H,γ,F,hX⟩;have hr:(execOp a.eval o).run P w=.ok (.enter f (args.map a.eval).toArray) w:=by
      grind [execOp,resolve,Act.eval,Deferred.ofValue,invoke,Con.run]
     unfold Oper.wp;rw[hr];refine Calls.mono (B.call g s a w H γ F args _ hX h1 h2) (fun e w'⟨r,s',av,H',γ',F',k1,k2,k3,k4⟩=>?_);subst k1;exact⟨_,k2,H',γ',F',k4.put hd k3⟩
   |_=>grind
  |invoke r n=>grind
 |slice t x lo hi D=>grind [isQ]
 |_=>grind [isQ]
end
def Zq(P:Program)(cs:CT)(all:List Oper):List Oper->S->(S->Prop)->Prop
 |[],s,k=>k s
 |o::r,s,k=>match o.guard with
  |none=>opK P cs o s fun s'=>Zq P cs all r s' k
  |some (j,want)=>match(all[j]?).bind (·.dst)with
   |some d=>match aY s.t d with
    |.one (.c (.d (.bool c)))=>
     gsel c want (opK P cs o (s.put (some d) (sc (.bool want))) fun s'=>Zq P cs all r s' k)
      (Zq P cs all r ((s.put (some d) (sc (.bool (!want)))).put o.dst (.tup [])) k)
    |.tup []=>Zq P cs all r (s.put o.dst (.tup [])) k
    |_=>False
   |none=>False
def Zp(nt:Nat)(all:List Oper):List Oper->Bool
 |[]=>true
 |o::r=>opC nt o&&(match o.guard with
  |none=>true
  |some (j,_)=>match(all[j]?).bind (·.dst)with
   |some d=>decide (d<nt)
   |none=>true)&&Zp nt all r
theorem AO.mono{P:Program}{g:G}{K K':S->Prop}{Q:Exit->S->Prop}{s:S}(hk:∀s,K s->K' s)(h:AO P g o K Q s):AO P g o K' Q s:=fun a w hR=>
 cu (fun _ _⟨s',h1,h2⟩=>⟨s',hk _ h1,h2⟩) (fun _ _ _ h=>h) (h a w hR)
def S.keep(s:S)(ks:List Nat):S:=⟨s.t.filter fun x=>ks.contains x.1,s.m⟩
def T.isFz:T->Bool
 |.pl _=>false
 |.rf _=>false
 |.ow _ _=>false
 |.mp _=>false
 |.it _ _=>false
 |_=>true
def AV1.isFz:AV1->Bool
 |.c t=>t.isFz
 |.agg ts=>ts.all T.isFz
def AV.isFz:AV->Bool
 |.one x=>x.isFz
 |.tup xs=>xs.all AV1.isFz
 |.any=>true
variable{y:Value}
section
variable {w w':World} {H H':FH} {γ γ':Gam} {m m':Mm}
theorem aaF(a:∀b o y,H b o=some y->H' b o=some y){t:T}{f:Fp}(hz:t.isFz=true)(h:TR w H γ m t f y):TR w' H' γ' m' t f y:=by
 cases t with
 |d x=>exact⟨h.1,eB a h.2⟩
 |nil=>exact h
 |el row off=>obtain⟨h0,b,o,k,h1,h2⟩:=h;exact⟨h0,b,o,k,h1,lX a h2⟩
 |any=>exact h
 |_=>grind [T.isFz]
theorem aaH(a:∀b o y,H b o=some y->H' b o=some y):∀{ts:List T}{f:Fp}{vs:List Value},ts.all T.isFz=true->Ts (TR w H γ m) ts f vs->Ts (TR w' H' γ' m') ts f vs
 |[],_,_,_,h=>h
 |t::ts,f,vs,hz,h=>by
  simp only[agF,afZ]at hz;obtain⟨v,r,f1,c,h1,h2,h3,h4⟩:=h;exact⟨v,r,f1,c,h1,h2,aaF a hz.1 h3,aaH a hz.2 h4⟩
theorem S7(a:∀b o y,H b o=some y->H' b o=some y){x:AV1}(hz:x.isFz=true)(h:AR1 w H γ m x y):AR1 w' H' γ' m' x y:=by
 cases x with
 |c t=>exact aaF a hz h
 |agg ts=>obtain⟨cs,h1,h2,h3⟩:=h;exact⟨cs,h1,h2,aaH a hz h3⟩
theorem Tb(a:∀b o y,H b o=some y->H' b o=some y):∀{xs:List AV1}{ys:List Value},xs.all AV1.isFz=true->ARs w H γ m xs ys->ARs w' H' γ' m' xs ys
 |[],[],_,_=>trivial
 |x::xs,y::ys,hz,h=>by
  simp only[agF,afZ]at hz;exact⟨S7 a hz.1 h.1,Tb a hz.2 h.2⟩
 |[],_::_,_,h=>h.elim
 |_::_,[],_,h=>h.elim
theorem yy(a:∀b o y,H b o=some y->H' b o=some y){x:AV}(hz:x.isFz=true)(h:AR w H γ m x y):AR w' H' γ' m' x y:=by
 cases x with
 |one x=>exact S7 a hz h
 |tup xs=>obtain⟨l,h1,h2⟩:=h;exact⟨l,h1,Tb a hz h2⟩
 |any=>trivial
end
def dQ:Nat->List AV->List (Nat×AV)
 |_,[]=>[]
 |k,x::r=>(k,x)::dQ (k+1) r
theorem jg:∀(k:Nat)(l:List AV)(i:Nat),aY (dQ k l) i=if k<=i then(l[i-k]?).getD .any else .any
 |k,[],i=>by simp[dQ,aY]
 |k,x::r,i=>by
  simp only[dQ,aY,jg (k+1) r i]
  grind
def T.canon:T->T
 |.nil=>.d (.li [])
 |.it _ l=>.it none l
 |t=>t
theorem aaG{w:World}{H:FH}{γ:Gam}{m m':Mm}{cur:Option (D×D)}{l:List (D×D)}{f:Fp}(h:TR w H γ m (.it cur l) f y):TR w H γ m' (.it none l) f y:=by
 obtain⟨r,q,a,s,c,h1,h2,h3,h4⟩:=h;refine⟨r,q,a,s,c,h1,h2,?_,h4⟩;cases q with
 |none=>exact⟨rfl,h3.2⟩
 |some b=>obtain⟨es,ck,k1,k2,k3,k4,_⟩:=h3;exact⟨es,ck,k1,k2,k3,k4,trivial⟩
theorem fa{w:World}{H:FH}{γ:Gam}{m:Mm}(t:T)(y:Value)(h:TR w H γ m t (fun _=>0) y):TR w H γ m t.canon (fun _=>0) y:=by
 cases t with
 |nil=>obtain⟨_,rfl⟩:=h;exact⟨fun _=>rfl,kX⟩
 |it cur rest=>exact aaG h
 |_=>exact h
def nA(s:S)(n:Nm):Nat->S
 |0=>s
 |i+1=>IL (nA s n i) ⟨n,i,[]⟩
def pc(s:S):ResultVar->S
 |.tmp t=>IN s (aY s.t t)
 |.cell a _=>match aY s.t a with
  |.one (.c (.pl p))=>match ae s.m p.root with
   |some r=>nA s p.root r.cells.length
   |none=>s
  |_=>s
def gY:S->List ResultVar->S
 |s,[]=>s
 |s,r::rs=>gY (pc s r) rs
def wo(P:Program)(s:S):ResultVar->(AV->Prop)->Prop
 |.tmp t,k=>k (aY s.t t)
 |.cell a t,k=>uf P s.m t (aY s.t a) k
def fH(P:Program)(s:S):List ResultVar->(List AV1->Prop)->Prop
 |[],k=>k []
 |r::rs,k=>wo P s r fun
  |.one x=>fH P s rs fun xs=>k (x::xs)
  |_=>False
def wq(P:Program)(s:S)(rs:List ResultVar)(k:AV->Prop):Prop:=
 fH P (gY s rs) rs fun
  |[x]=>x.isFz=true/\k (.one (x.map T.canon))
  |xs=>xs.all AV1.isFz=true/\k (.tup (xs.map (·.map T.canon)))
variable{k:AV->Prop}
section
variable {P:Program} {g:G} {s:S} {a:Act} {w:World} {H:FH} {γ:Gam} {F:Nm->Fp}
theorem yW(h:RX g s a w H γ F)(n:Nm):∀i,∃H' F',RX g (nA s n i) a w H' γ F'
 |0=>⟨H,F,h⟩
 |i+1=>by
  obtain⟨H1,F1,h1⟩:=yW h n i;exact Lf h1 _
theorem P4(h:RX g s a w H γ F)(r:ResultVar):∃H' F',RX g (pc s r) a w H' γ F':=by
 cases r with
 |tmp t=>exact D4 h _
 |cell a' t=>
  simp only[pc];split
  ·split
   ·exact yW h _ _
   grind
  grind
theorem rN:∀(rs:List ResultVar)(s:S)(H:FH)(F:Nm->Fp),RX g s a w H γ F->∃H' F',RX g (gY s rs) a w H' γ F'
 |[],s,H,F,h=>⟨H,F,h⟩
 |r::rs,s,H,F,h=>by
  obtain⟨H1,F1,h1⟩:=P4 h r;exact rN rs _ H1 F1 h1
def lN(tmps:Array Value):ResultVar->Sem Value
 |.tmp t=>pure (tmps.getD t undef)
 |.cell a t=>do loadVar t (<- asAddr (tmps.getD a undef))
theorem SC(h:RX g s a w H γ F)(c:g.ex=none){r:ResultVar}(hk:wo P s r k):∃y v,(lN a.tmps r).run P w=.ok y w/\AR w H γ s.m v y/\k v:=by
 cases r with
 |tmp t=>
  have e:=h.t t
  rw[G.tv_none c]at e;exact⟨_,_,rfl,e,hk⟩
 |cell a' t=>
  simp only[wo]at hk;obtain⟨z,d,B,_,b,i,f⟩:=Ap (P:=P) h.mem hk (by have e:=h.t a';rw[G.tv_none c]at e;exact e)
  replace b:=b w (fun _ _=>rfl)
  refine⟨z,d,?_,i,f⟩;simp only[lN];simp only[Instr.loadAt]at b;generalize a.tmps.getD a' undef=u at b;cases u with
  |pointer ad=>
   cases ad with
   |some ad=>grind [asAddr,Instr.sureAddr]
   |none=>simp[Instr.sureAddr]at b
  |_=>simp[Instr.sureAddr]at b
theorem sK(h:RX g s a w H γ F)(b:g.ex=none):∀{rs:List ResultVar}{k:List AV1->Prop},fH P s rs k->∃ys xs,(rs.mapM (lN a.tmps)).run P w=.ok ys w/\ARs w H γ s.m xs ys/\k xs/\ys.length=rs.length
 |[],k,hk=>⟨[],[],rfl,trivial,hk,rfl⟩
 |r::rs,k,hk=>by
  obtain⟨y,v,i,f,d⟩:=SC h b hk;cases v with
  |one x=>
   obtain⟨ys,xs,f1,e,f3,c⟩:=sK h b d;refine⟨y::ys,x::xs,?_,⟨f,e⟩,f3,by simp[c]⟩
   simp_all
  |tup _=>grind
  |any=>grind
theorem kI(fn:Func)(tmps:Array Value):results fn tmps=(do
  let vs <- fn.results.mapM (lN tmps)
  pure (if h:vs.size=1 then vs[0]else .tuple vs)):=by
 rfl
theorem Fh(h:RX g s a w H γ F)(e:g.ex=none){fn:Func}(hk:wq P s fn.results.toList k) :
  ∃y v s' H' F',(results fn a.tmps).run P w=.ok y w/\RX g s' a w H' γ F'/\AR w H' γ s'.m v y/\v.isFz=true/\k (v.map T.canon):=by
 unfold wq at hk;obtain⟨H1,F1,h1⟩:=rN fn.results.toList s H F h;obtain⟨ys,xs,o,d,b,n⟩:=sK h1 e hk;have c:(results fn a.tmps).run P w=.ok (if h:ys.toArray.size=1 then ys.toArray[0]else .tuple ys.toArray) w:=by
  simp_all[kI,Array.mapM_eq_mapM_toList]
 refine⟨_,(match xs with|[x]=>.one x|xs=>.tup xs),_,H1,F1,c,h1,?_⟩
 match xs,ys,d,b with
 |[],[],d,b=>exact⟨⟨#[],by simp,trivial⟩,b.1,b.2⟩
 |[x],[y],d,b=>exact⟨d.1,b.1,b.2⟩
 |l::j::xs,f::i::ys,d,b=>exact⟨⟨(f::i::ys).toArray,by simp,by omega⟩,b.1,b.2⟩
def adG(P:Program)(rs:List ResultVar)(K:AV->Prop):Exit->S->Prop
 |.normal,s=>wq P s rs K
 |.ret,s=>wq P s rs K
 |_,_=>False
end
end Go.Am
end
