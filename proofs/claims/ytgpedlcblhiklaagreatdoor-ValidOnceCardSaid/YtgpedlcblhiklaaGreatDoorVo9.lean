/-
  Part 9: AmDraw.
-/
import Derived.Test.YtgpedlcblhiklaaGreatDoorVo8
import Derived.Still
set_option linter.unusedSimpArgs false
set_option linter.unusedVariables false
set_option linter.unusedSectionVars false
set_option linter.unnecessarySimpa false
section
namespace Go.Am
abbrev Bs:=Nat->Prop
def Ge(Pr:Bs)(w w':World):Prop:=∀b,Pr b->w'.heap[b]? = w.heap[b]?
variable{A:Nat->Bool}{B:Bs}{Pr:Nat->Bs}{Z:Exit->Act->World->Prop}{a:Act}{i j:Nat}{listed:Array Bool}{o:Oper}{v:Value}{w:World}
section
variable {P:Program} {ops:Array Oper} {md:Region.Mode}
def Still(Z:Exit->Act->World->Prop):Prop:=∀e a d v w,Z e (a.put d v) w->Z e a w
def lOp(P:Program)(ops:Array Oper)(Z:Exit->Act->World->Prop)(Pr:Nat->Bs)(i:Nat)(K:Act->World->Prop)(a:Act)(w:World):Prop:=
 match ops[i]? with
 |none=>K a w
 |some o=>if Region.wanted o (yielded ops a.tmps)then o.wp P a w (fun a' w'=>Ge (Pr i) w w'/\K a' w') Z else K (a.put o.dst undef) w
def tj(P:Program)(md:Region.Mode)(ops:Array Oper)(Z:Exit->Act->World->Prop)(Q:Act->World->Prop):Nat->Array Bool->(Nat->Bs)->Act->World->Prop
 |0,listed,_,a,w=>Region.ready md ops listed=[]/\Q a w
 |fuel+1,listed,Pr,a,w=>
  (Region.ready md ops listed=[]->Q a w) /\
  ∀i∈Region.ready md ops listed,lOp P ops Z Pr i (fun a' w'=>∃c:Nat->Bs,(∀j b,Pr j b->c j b)/\tj P md ops Z Q fuel (listed.setIfInBounds i true) c a' w') a w
theorem Xo{K K':Act->World->Prop}(h:∀a w,K a w->K' a w)(b:lOp P ops Z Pr i K a w):lOp P ops Z Pr i K' a w:=by
 unfold lOp at *;split
 ·grind
 ·rename_i o ho;simp only[ho]at b;split
  ·rename_i hw;simp only[hw,if_true]at b;exact cy (fun a w⟨h1,h2⟩=>⟨h1,h _ _ h2⟩) (fun _ _ _ h=>h) b
  grind
theorem oH{Q:Act->World->Prop}{Q':Exit->Act->World->Prop}(d:∀a w,Q a w->Q' .normal a w)(f:∀e a w,Z e a w->Q' e a w):∀(fuel:Nat)(listed:Array Bool)(Pr:Nat->Bs)(a:Act)(w:World),
  tj P md ops Z Q fuel listed Pr a w->wpAny P md ops Q' fuel listed a w
 |0,_,_,_,_,h=>⟨h.1,d _ _ h.2⟩
 |fuel+1,_,_,_,_,h=>⟨fun h0=>d _ _ (h.1 h0),fun i hi=>by
   have c:=h.2 i hi
   unfold lOp at c;unfold wpOp;split
   ·rename_i ho;simp only[ho]at c;obtain⟨b,_,h2⟩:=c;exact oH d f fuel _ b _ _ h2
   ·rename_i o ho;simp only[ho]at c;split
    ·rename_i hw;simp only[hw,if_true]at c;exact .inl (cy (fun a' w'⟨_,b,_,h2⟩=>oH d f fuel _ b _ _ h2) f c)
    ·rename_i hw;simp only[hw]at c;obtain⟨b,_,h2⟩:=c;exact oH d f fuel _ b _ _ h2⟩
def fI(P:Program)(ops:Array Oper)(Pr:Bs)(o:Oper)(v:Value)(a:Act)(w:World):Prop:=
 (Region.wanted o (yielded ops a.tmps)=true/\∀w',Ge Pr w w'->(execOp a.eval o).run P w'=.ok (.value v) w') \/
 (Region.wanted o (yielded ops a.tmps)=false/\v=undef)
theorem fI.of_same{Pr:Bs}{a':Act}(hy:fI P ops Pr o v a w)(he:execOp a'.eval o=execOp a.eval o)
  (hw:Region.wanted o (yielded ops a'.tmps)=Region.wanted o (yielded ops a.tmps)):fI P ops Pr o v a' w:=by
 grind [fI]
theorem fI.later{w':World}(hy:fI P ops B o v a w)(hs:Ge B w w'):fI P ops B o v a w':=by
 rcases hy with⟨h1,h2⟩|h
 ·exact .inl ⟨h1,fun w'' h3=>h2 w'' (fun b hb=>by rw[h3 b hb,hs b hb])⟩
 ·exact .inr h
def near(o:Oper)(a A:Act):Prop:=∃u ds,A={ a.put o.dst u with defers:=ds }
theorem ag0{d:Option Tmp}(i:Still Z){N j:Act->World->Prop}(he:execOp (a.put d v).eval o=execOp a.eval o)(hc:∀u,(a.put d v).put o.dst u=(a.put o.dst u).put d v)
  (h:o.wp P (a.put d v) w N Z) (hN:∀A w',near o a A->N (A.put d v) w'->j A w'):o.wp P a w j Z:=by
 have hn:∀u,near o a (a.put o.dst u):=fun u=>⟨u,(a.put o.dst u).defers,rfl⟩
 unfold Oper.wp at *;rw[he]at h;cases hr:(execOp a.eval o).run P w with
 |halt x w'=>
  rw[hr]at h;cases x with
  |panic v=>exact i _ _ _ _ _ h
  |_=>exact h.elim
 |ok x w'=>
  rw[hr]at h;cases x with
  |value u=>grind [Oper.upon]
  |skip=>grind [Oper.upon]
  |defer g=>
   simp only[Oper.upon]at h⊢;refine hN _ _ ⟨undef,g::a.defers,?_⟩ ?_
   ·cases hd:o.dst<;>rfl
   ·have e:({ a with defers:=g::a.defers }.put o.dst undef).put d v={ a.put d v with defers:=g::(a.put d v).defers }.put o.dst undef:=by
     have:=congrArg Act.tmps (hc undef)
     cases hd:o.dst<;>cases d<;>simp_all[Act.put]
    grind
  |enter f args=>
   simp only[Oper.upon]at h⊢;refine Calls.mono h (fun e k b=>?_);cases e with
   |returned u=>grind
   |panicked c=>exact i _ _ _ _ _ b
   |outgrown=>exact b
  |row r args=>
   grind [Oper.upon,Rows.mono]
  |_=>exact h.elim
theorem aa7(l:Still Z){f:Nat->Bs}(n:∀j b,Pr j b->f j b)(m:∀b,B b->f j b){c d:Oper}(hj:ops[j]? = some d)(g:c.apart ops d=true)
  (i:∀cs b,c.op≠.select cs b) (k:∀cs b,d.op≠.select cs b) {K:Act->World->Prop} {a:Act} {w:World}
  (hy:fI P ops B c v a w) (h:lOp P ops Z f j K (a.put c.dst v) w) :
  lOp P ops Z Pr j (fun a' w'=>fI P ops B c v a' w'/\K (a'.put c.dst v) w') a w:=by
 obtain⟨h1,h2,h3⟩:=Oper.apart_spec g;have keep:∀A w',near d a A->Ge B w w'->fI P ops B c v A w':=by
  intro A w' ⟨u,ds,e⟩ hs;subst e;refine fI.later ?_ hs;exact hy.of_same (execOp_put c i a d.dst u h3) (wanted_put c a d.dst u h3)
 unfold lOp at *;simp only[hj]at *;rw[wanted_put d a c.dst v h1]at h;split
 ·rename_i hw;simp only[hw,if_true]at h;exact ag0 l (execOp_put d k a c.dst v h1) (fun u=>Act.put_comm a v u h2) h (fun A w' hn⟨k1,k2⟩=>⟨fun b hb=>k1 b (n j b hb),keep A w' hn (fun b hb=>k1 b (m b hb)),k2⟩)
 ·rename_i hw;simp only[hw]at h;exact⟨keep _ _ ⟨undef,(a.put d.dst undef).defers,rfl⟩ (fun _ _=>rfl),by grind [Act.put_comm]⟩
def behind(md:Region.Mode)(ops:Array Oper)(i:Nat)(A:Nat->Bool)(listed:Array Bool):Prop:=
 ∀j,A j=true->listed.getD j true=false->∃o,ops[j]? = some o/\∃e∈o.after,Region.binds md e=true/\listed.getD e.on true=false/\(e.on=i\/A e.on=true)
theorem my(hb:behind md ops i A listed)(c:A j=true):j ∉ Region.ready md ops listed:=by
 intro hj;obtain⟨a,f,d,b⟩:=mem_ready.1 hj;obtain⟨o,ho,e,he,h1,h2,_⟩:=hb j c a
 grind
theorem Mr(hb:behind md ops i A listed)(hj:j∈Region.ready md ops listed)(d:j≠i):behind md ops i A (listed.setIfInBounds j true):=by
 have b:A j≠true:=fun h=>my hb h hj
 intro k hk a;have c:j≠k:=fun e=>b (e ▸ hk)
 rw[getD_set_ne true c]at a;obtain⟨o,ho,e,he,h1,h2,h3⟩:=hb k hk a;refine⟨o,ho,e,he,h1,?_,h3⟩;have:j≠e.on:=by
  grind
 simp_all
theorem j0(F:Still Z){Q:Act->World->Prop}{n:Oper}(hi:ops[i]? = some n)(m:∀(j:Nat) (o:Oper) cs b,ops[j]? = some o->o.op≠.select cs b) :
  ∀(fuel:Nat)(listed:Array Bool)(Pr f:Nat->Bs)(a:Act)(w:World),(∀j b,Pr j b->f j b)->(∀j b,A j=false->B b->f j b) ->
   (∀j q,ops[j]? = some q->j≠i->listed.getD j true=false->(∀e∈q.after,Region.binds md e=true->e.on≠i)->n.apart ops q=true) ->
   behind md ops i A listed ->
   i∈Region.ready md ops listed->fI P ops B n v a w ->
   tj P md ops Z Q fuel (listed.setIfInBounds i true) f (a.put n.dst v) w->tj P md ops Z Q (fuel+1) listed Pr a w:=by
 have self:∀(Pr:Nat->Bs)(a:Act)(w:World)(K:Act->World->Prop),fI P ops B n v a w->K (a.put n.dst v) w->lOp P ops Z Pr i K a w:=by
  intro Pr a w K hy L;unfold lOp;simp only[hi];rcases hy with⟨hw,hv⟩|⟨hw,rfl⟩
  ·simp only[hw,if_true];unfold Oper.wp;rw[hv w (fun _ _=>rfl)];exact⟨fun _ _=>rfl,L⟩
  grind
 intro fuel;induction fuel with
 |zero=>
  intro listed Pr f a w z y _ l hr hy H;refine⟨fun h=>(by grind),fun j hj=>?_⟩;by_cases c:j=i
  ·grind
  ·have:=ready_mono hj c
   rw[H.1]at this
   grind
 |succ fuel ih=>
  intro listed Pr f a w z y d l hr hy H;refine⟨fun h=>(by grind),fun j hj=>?_⟩;by_cases c:j=i
  ·grind
  ·have x:A j=false:=by
    grind [my]
   have h1:=H.2 j (ready_mono hj c)
   obtain⟨t,q,p,E⟩:=mem_ready.1 hj;have u:∀e∈q.after,Region.binds md e=true->e.on≠i:=fun e he hb I=>by
    grind [mem_ready]
   have h2:=aa7 F z (fun b hb=>y j b x hb) p (d j q p c t u) (fun cs b=>m i n cs b hi) (fun cs b=>m j q cs b p) hy h1
   have g:∀k ok,ops[k]? = some ok->k≠i->(listed.setIfInBounds j true).getD k true=false ->
     (∀e∈ok.after,Region.binds md e=true->e.on≠i)->n.apart ops ok=true:=fun k ok hk D J hno=>by
    refine d k ok hk D ?_ hno;by_cases G:j=k
    ·grind
    simp_all
   refine Xo (fun a' w' h3=>?_) h2;obtain⟨C,s,r,h4⟩:=h3;refine⟨Pr,fun _ _ h=>h,ih (listed.setIfInBounds j true) Pr s a' w' (fun k b hb=>r k b (z k b hb)) (fun k b hk hb=>r k b (y k b hk hb)) g (Mr l hj c) (ready_mono hr (Ne.symm c)) C ?_⟩
   grind [Array.setIfInBounds_comm]
end
inductive Pn where
 |done
 |take (i:Nat) (A:List Nat) (fz:Bool) (r:Pn)
 |one (i:Nat) (r:Pn)
 |two (i:Nat) (r:Pn) (j:Nat) (q:Pn)
 |three (i:Nat) (r:Pn) (j:Nat) (q:Pn) (k:Nat) (p:Pn)
def gK(ops:List Oper)(o:Oper)(s:S)(f:S->Prop)(no:S->Prop):Prop:=
 match o.guard with
 |none=>f s
 |some (j,want)=>match(ops[j]?).bind (·.dst)with
  |some d=>match bd s.t d with
   |.one (.c (.d (.bool c)))=>gsel c want (f (s.put (some d) (sc (.bool want)))) (no ((s.put (some d) (sc (.bool (!want)))).put o.dst (.tup [])))
   |.tup []=>no (s.put o.dst (.tup []))
   |_=>False
  |none=>False
def af8(P:Program)(cs:CT)(ops:List Oper)(i:Nat)(s:S)(k:S->Prop):Prop:=
 match ops[i]? with
 |none=>False
 |some o=>gK ops o s (fun s=>opK P cs o s k) k
def unlisted(listed:Array Bool)(j:Nat):Bool:=!listed.getD j true
def BB(ops:Array Oper)(listed:Array Bool)(i:Nat)(A:List Nat)(fz:Bool):Bool:=
 Region.free .any ops listed i&&(Region.ready .any ops listed).contains i&&(match ops[i]? with|some o=>isQ o|none=>false) &&
 (A.all fun j=>!unlisted listed j||match ops[j]? with
  |some o=>o.after.any fun e=>Region.binds .any e&&unlisted listed e.on&&(e.on==i||A.contains e.on)
  |none=>false) &&
 (fz||(List.range ops.size).all fun j=>!unlisted listed j||j==i||A.contains j||match ops[j]? with|some o=>isQ o|none=>true)
def Q4(ops:Array Oper)(listed:Array Bool)(H:FH)(Pr:Nat->Bs):Prop:=
 ∀j o,ops[j]? = some o->listed.getD j true=false->isQ o=true\/∀b,Pr j b->∃x y,H b x=some y
def Zx(g:G)(Q:Exit->S->Prop):Exit->Act->World->Prop
 |.panic c,a,w=>∃s,s.t=[]/\Q (.panic c) s/\R g s a w
 |_,_,_=>False
variable{F:Nm->Fp}{H:FH}{γ:Gam}
theorem Vw{g:G}{s:S}{a':Act}(h:RX g s a w H γ F)(h1:a'.tmps.size=a.tmps.size)(h2:a'.defers=a.defers):RX g ⟨[],s.m⟩ a' w H γ F:=
 ⟨h.mem,h.fr,h1.trans h.nt,⟨h2.trans h.df.1,h.df.2⟩,fun _=>trivial⟩
theorem tT(g:G)(Q:Exit->S->Prop):Still (Zx g Q):=by
 intro e a d v w h;cases e with
 |panic c=>
  obtain⟨s,h1,h2,H,γ,F,hX⟩:=h;refine⟨s,h1,h2,H,γ,F,?_⟩;have:=Vw (a':=a) hX (by cases d<;>simp[Act.put]) (by cases d<;>rfl)
  rw[<- h1]at this;omega
 |_=>exact h.elim
theorem Zt{g:G}{Q:Exit->S->Prop}{e:Exit}(h:Zx g Q e a w):lift g Q e a w:=by
 cases e with
 |panic c=>obtain⟨s,_,h2,h3⟩:=h;exact⟨s,h2,h3⟩
 |_=>exact h.elim
def AD(P:Program)(g:G)(ops:Array Oper)(Q:Exit->S->Prop)(K:S->Prop)(fuel:Nat)(listed:Array Bool)(s:S):Prop:=
 ∀a w H γ F Pr,RX g s a w H γ F->Q4 ops listed H Pr->tj P .any ops (Zx g Q) (fun a w=>∃s',K s'/\R g s' a w) fuel listed Pr a w
variable{K:S->Prop}{fuel:Nat}
section
variable {P:Program} {cs:CT} {g:G} {s:S} {Q:Exit->S->Prop}
theorem iV(h:(listed.setIfInBounds i true).getD j true=false):listed.getD j true=false/\j≠i:=by
 by_cases a:i=j
 ·simp_all
 ·rw[getD_set_ne true a]at h;grind
theorem Q4.mono{ops:Array Oper}{listed':Array Bool}{H':FH}(h:Q4 ops listed H Pr)(hl:∀j,listed'.getD j true=false->listed.getD j true=false)(hH:∀b o y,H b o=some y->H' b o=some y):Q4 ops listed' H' Pr:=by
 intro j o hj hun;rcases h j o hj (hl j hun)with h|h
 all_goals grind
theorem Uy{ops:Array Oper}(hr:Region.ready .any ops listed=[])(h:K s):∀fuel,AD P g ops Q K fuel listed s
 |0,_,_,_,_,_,_,hX,_=>⟨hr,s,h,_,_,_,hX⟩
 |_+1,_,_,_,_,_,_,hX,_=>⟨fun _=>⟨s,h,_,_,_,hX⟩,by grind⟩
theorem uo{ops:Array Oper}(hX:RX g s a w H γ F){f no:S->Prop}(h:gK ops.toList o s f no)(ho:okD g.nt o.dst=true)
  (b:(match o.guard with|none=>true|some (j,_)=>match(ops[j]?).bind (·.dst)with|some d=>decide (d<g.nt)|none=>true)=true) :
  (Region.wanted o (yielded ops a.tmps)=true/\∃s',f s'/\RX g s' a w H γ F)\/(Region.wanted o (yielded ops a.tmps)=false/\∃s',no s'/\RX g s' (a.put o.dst undef) w H γ F):=by
 unfold gK at h;cases p:o.guard with
 |none=>
  grind [Region.wanted]
 |some q=>
  obtain⟨j,want⟩:=q;rw[p]at h b;dsimp only at h b;have e:ops.toList[j]? = ops[j]? := by simp
  rw[e]at h;cases hj:(ops[j]?).bind (·.dst)with
  |none=>grind
  |some d=>
   rw[hj]at h b;dsimp only at h b;split at h
   ·rename_i c i;obtain⟨h1,h2⟩:=SN h;have hv:=hX.t d
    have k:d<a.tmps.size:=by grind [RX.nt]
    rw[i,G.tv_lt k]at hv;obtain⟨hz,m,hv⟩:=hv;have n:a.tmps.getD d undef=.bool c:=by cases m<;>exact hv
    have hget:a.tmps[d]? = some (.bool c):=by
     simp_all
    have hy:yielded ops a.tmps j=some c:=by
     grind [yielded]
    have same:a.put (some d) (.bool c)=a:=by
     simp_all[Act.put,nA]
    have l:RX g (s.put (some d) (.one (.c (.d (.bool c))))) a w H γ F:=by
     have:=hX.put (d:=some d) (by grind [okD]) (v:=.one (.c (.d (.bool c)))) (y:=.bool c) ⟨fun _=>rfl,0,rfl⟩
     grind
    by_cases hc:c=want
    ·grind [Region.wanted]
    ·have r:c=!want:=by cases c<;>cases want<;>simp_all
     grind [RX.put,tx,Region.wanted]
   all_goals grind [unyielded,RX.put,tx,Region.wanted]
def lC(nt:Nat)(ops:Array Oper):Bool:=ops.all fun o=>opC nt o&&match o.guard with
 |none=>true
 |some (j,_)=>match(ops[j]?).bind (·.dst)with
  |some d=>decide (d<nt)
  |none=>true
theorem jx{ops:Array Oper}(h:lC g.nt ops=true)(hi:ops[i]? = some o):opC g.nt o=true/\(match o.guard with|none=>true|some (j,_)=>match(ops[j]?).bind (·.dst)with|some d=>decide (d<g.nt)|none=>true)=true:=by
 have:=Array.all_eq_true_iff_forall_mem.1 h o (Array.mem_of_getElem? hi)
 grind
theorem Region.ready_mem_of_contains{ops:Array Oper}(h:(Region.ready .any ops listed).contains i=true):i∈Region.ready .any ops listed:=by grind
theorem fY:unlisted listed j=true ↔ listed.getD j true=false:=by
 grind [unlisted]
theorem aiG{ops:Array Oper}{A:List Nat}{fz:Bool}(C:lC g.nt ops=true)(hs:Region.noSelect ops=true)(hi:ops[i]? = some o)
  (p:BB ops listed i A fz=true) {D:S->Prop} (q:∀s,D s->AD P g ops Q K fuel (listed.setIfInBounds i true) s)
  (h:gK ops.toList o s (fun s=>(fz=true->gN s o)/\qK P o s fun v=>D (s.put o.dst v)) D):AD P g ops Q K (fuel+1) listed s:=by
 intro a w H γ F Pr hX k;simp only[BB,aiW]at p;obtain⟨⟨⟨⟨r,E⟩,t3⟩,t4⟩,t5⟩:=p;obtain⟨n,c2⟩:=jx C hi;have c:=Region.ready_mem_of_contains E
 have m:behind .any ops i (fun j=>A.contains j) listed:=by
  intro j hj e;have:=ajB.1 t4 j (by grind)
  rw[fY.2 e]at this;cases ho:ops[j]?<;>grind [fY]
 have f:∀j,(listed.setIfInBounds i true).getD j true=false->listed.getD j true=false:=fun j h=>(iV h).1
 rcases uo hX h (fT n) c2 with⟨hw,s',⟨hf,hq⟩,hX'⟩|⟨hw,s',hno,hX'⟩
 ·obtain⟨z,d,B,e0,u,t,y⟩:=Bf hX' n hq;refine j0 (tT g Q) (A:=fun j=>A.contains j) (B:=B) (v:=z) hi (Region.noSelect_spec hs) fuel listed Pr (fun j b=>Pr j b\/(A.contains j=false/\B b)) a w (fun j b h=>.inl h) (fun j b h1 h2=>.inr ⟨h1,h2⟩)
   (Region.free_spec hi r) m c (.inl ⟨hw,fun w2 hs2=>u w2 hs2⟩) (q _ y (a.put o.dst z) w H γ F _ (hX'.put (fT n) t) ?_)
  intro j G hj e;obtain⟨l,x⟩:=iV e;rcases k j G hj l with hp|hp
  all_goals grind [fY]
 ·refine j0 (tT g Q) (A:=fun _=>false) (B:=fun _=>False) (v:=undef) hi (Region.noSelect_spec hs) fuel listed Pr Pr a w (fun j b h=>h) (fun j b _ h2=>h2.elim)
   (Region.free_spec hi r) (fun j h=>by cases h) c (.inr ⟨hw,rfl⟩) (q _ hno (a.put o.dst undef) w H γ F _ hX' (k.mono f (fun _ _ _ h=>h)))
theorem aiF{ops:Array Oper}(q:cs.Ok P)(L:lC g.nt ops=true)(C:listed.getD i true=false)
  {D:S->Prop} (v:∀s,D s->AD P g ops Q K fuel (listed.setIfInBounds i true) s) (h:af8 P cs ops.toList i s D) {a:Act} {w:World} {H:FH} {γ:Gam} {F:Nm->Fp} {Pr:Nat->Bs} (hX:RX g s a w H γ F) (f:Q4 ops listed H Pr) :
  lOp P ops (Zx g Q) Pr i (fun a' w'=>∃l:Nat->Bs,(∀j b,Pr j b->l j b)/\tj P .any ops (Zx g Q) (fun a w=>∃s',K s'/\R g s' a w) fuel (listed.setIfInBounds i true) l a' w') a w:=by
 have e:∀j,(listed.setIfInBounds i true).getD j true=false->listed.getD j true=false:=fun j h=>(iV h).1
 unfold af8 at h;have n:ops.toList[i]? = ops[i]? := by simp
 rw[n]at h;unfold lOp;cases hi:ops[i]? with
 |none=>grind
 |some o=>
  rw[hi]at h;obtain⟨p,c2⟩:=jx L hi;dsimp only at h⊢;rcases uo hX h (fT p) c2 with⟨hw,s',hop,hX'⟩|⟨hw,s',hno,hX'⟩
  ·rw[if_pos hw];by_cases hq:isQ o=true
   ·obtain⟨z,d,B,_,I,E,M⟩:=Bf hX' p (Qq hq hop);unfold Oper.wp;rw[I w (fun _ _=>rfl)];exact⟨fun _ _=>rfl,Pr,fun _ _ h=>h,v _ M (a.put o.dst z) w H γ F Pr (hX'.put (fT p) E) (f.mono e (fun _ _ _ h=>h))⟩
   ·have hp:∀b,Pr i b->∃x y,H b x=some y:=by
     rcases f i o hi C with h|h
     all_goals grind
    let g':G:=⟨g.nt,w,H,tot F s'.m,g.out,g.ex,g.dfs⟩
    have r:RX g' s' a w H γ F:=⟨hX'.mem,Fr.refl' rfl rfl rfl rfl (fun _ h=>h),hX'.nt,⟨hX'.df.1,hX'.df.2.1,kl hX'⟩,hX'.t⟩
    refine cy ?_ (fun _ _ _ h=>?_) (LP (g:=g') (Q:=fun _ _=>False) q p hop a w ⟨H,γ,F,r⟩)
    ·intro a' w' ⟨s2,hs2,J,u,N,c⟩;have k:=c.fr
     refine⟨fun b hb=>?_,Pr,fun _ _ h=>h,?_⟩
     ·obtain⟨x,y,A⟩:=hp b hb;have hc:=hX'.mem.agree b x y A
      refine k.block b ?_ ?_
      ·exact hc.lt
      ·show tot F s'.m b=0
       rcases ajZ (tot F s'.m b)with h|h
       ·exact h
       ·have:=hX'.mem.nofz b kQ1 x
        grind
     ·exact v _ hs2 a' w' J u N Pr ⟨c.mem,hX'.fr.trans k,c.nt,⟨c.df.1,c.df.2.1,hX'.df.2.2⟩,c.t⟩ (f.mono e k.hold)
    ·obtain⟨_,h,_⟩:=h;grind
  ·rw[if_neg (by grind)];exact⟨Pr,fun _ _ h=>h,v _ hno (a.put o.dst undef) w H γ F Pr hX' (f.mono e (fun _ _ _ h=>h))⟩
def Pn.size:Pn->Nat
 |.done=>0
 |.take _ _ _ r=>r.size+1
 |.one _ r=>r.size+1
 |.two _ r _ q=>max r.size q.size+1
 |.three _ r _ q _ p=>max r.size (max q.size p.size)+1
theorem Vr(hX:RX g s a w H γ F)(w':World)(h1:w'.heap=w.heap)(h2:w'.os=w.os)(h3:w'.tape=w.tape)(h4:w'.output=w.output):RX g s a w' H γ F:=by
 have c:∀b,tot F s.m b≠0->w'.heap[b]? = w.heap[b]? := fun b _=>by rw[h1]
 have d:=gH (w':=w') hX.mem c
 refine jR hX ⟨fun b o y h=>?_,fun x hx=>bh d (fun _ _ _ h=>h) rfl (fun b _=>by rw[h1]) (hX.mem.roots x hx),hX.mem.keys,hX.mem.le1,fun b hb=>by rw[h1];exact hX.mem.lt b hb,hX.mem.nofz⟩ (Fr.refl' h1 h2 h3 h4 (fun _ h=>h)) (fun i=>dy d (fun _ _ _ h=>h) (hX.t i)) (fun _=>rfl);exact(hX.mem.agree b o y h).frame (by rw[h1])
end
end Go.Am
end
