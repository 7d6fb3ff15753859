/-
  Part 9: AmDraw.
-/
import Derived.Test.YthhkhcolidkemaaGreatDoorCt8
import Derived.Still
set_option linter.unusedSimpArgs false
set_option linter.unusedVariables false
set_option linter.unusedSectionVars false
set_option linter.unnecessarySimpa false
section
namespace Go.Am
abbrev Bs:=Nat->Prop
def F6(Pr:Bs)(w w':World):Prop:=∀b,Pr b->w'.heap[b]? = w.heap[b]?
variable{A:Nat->Bool}{B:Bs}{Pr:Nat->Bs}{Z:Exit->Act->World->Prop}{a:Act}{i j:Nat}{listed:Array Bool}{o:Oper}{v:Value}{w:World}
section
variable {P:Program} {ops:Array Oper} {md:Region.Mode}
def Still(Z:Exit->Act->World->Prop):Prop:=∀e a d v w,Z e (a.put d v) w->Z e a w
def lOp(P:Program)(ops:Array Oper)(Z:Exit->Act->World->Prop)(Pr:Nat->Bs)(i:Nat)(K:Act->World->Prop)(a:Act)(w:World):Prop:=
 match ops[i]? with
 |none=>K a w
 |some o=>if Region.wanted o (yielded ops a.tmps)then o.wp P a w (λa' w'=>F6 (Pr i) w w'/\K a' w') Z else K (a.put o.dst undef) w
def tZ(P:Program)(md:Region.Mode)(ops:Array Oper)(Z:Exit->Act->World->Prop)(Q:Act->World->Prop):Nat->Array Bool->(Nat->Bs)->Act->World->Prop
 |0,listed,_,a,w=>Region.ready md ops listed=[]/\Q a w
 |fuel+1,listed,Pr,a,w=>
  (Region.ready md ops listed=[]->Q a w) /\
  ∀i∈Region.ready md ops listed,lOp P ops Z Pr i (λa' w'=>∃c:Nat->Bs,(∀j b,Pr j b->c j b)/\tZ P md ops Z Q fuel (listed.setIfInBounds i true) c a' w') a w
theorem Yn{K K':Act->World->Prop}(h:∀a w,K a w->K' a w)(b:lOp P ops Z Pr i K a w):lOp P ops Z Pr i K' a w:=by
 unfold lOp at *;split
 .grind
 rename_i o ho;simp only[ho]at b;split
 .rename_i hw;simp only[hw]at b;exact cD (λa w⟨h1,h2⟩=>⟨h1,h _ _ h2⟩) (λ_ _ _ h=>h) b
 grind
theorem pz{Q:Act->World->Prop}{Q':Exit->Act->World->Prop}(d:∀a w,Q a w->Q' .normal a w)(f:∀e a w,Z e a w->Q' e a w):∀(fuel:Nat)(listed:Array Bool)(Pr:Nat->Bs)(a:Act)(w:World),
  tZ P md ops Z Q fuel listed Pr a w->wpAny P md ops Q' fuel listed a w
 |0,_,_,_,_,h=>⟨h.1,d _ _ h.2⟩
 |fuel+1,_,_,_,_,h=>⟨λh0=>d _ _ (h.1 h0),λi hi=>by
   have c:=h.2 i hi
   unfold lOp at c;unfold wpOp;split
   .rename_i ho;simp only[ho]at c;obtain⟨b,_,h2⟩:=c;exact pz d f fuel _ b _ _ h2
   rename_i o ho;simp only[ho]at c;split
   .rename_i hw;simp only[hw]at c;exact .inl (cD (λa' w'⟨_,b,_,h2⟩=>pz d f fuel _ b _ _ h2) f c)
   rename_i hw;simp only[hw]at c;obtain⟨b,_,h2⟩:=c;exact pz d f fuel _ b _ _ h2⟩
def fY(P:Program)(ops:Array Oper)(Pr:Bs)(o:Oper)(v:Value)(a:Act)(w:World):Prop:=
 (Region.wanted o (yielded ops a.tmps)=true/\∀w',F6 Pr w w'->(execOp a.eval o).run P w'=.ok (.value v) w') \/
 (Region.wanted o (yielded ops a.tmps)=false/\v=undef)
theorem fY.of_same{Pr:Bs}{a':Act}(hy:fY P ops Pr o v a w)(he:execOp a'.eval o=execOp a.eval o)
  (hw:Region.wanted o (yielded ops a'.tmps)=Region.wanted o (yielded ops a.tmps)):fY P ops Pr o v a' w:=by
 grind [fY]
theorem fY.later{w':World}(hy:fY P ops B o v a w)(hs:F6 B w w'):fY P ops B o v a w':=by
 rcases hy with⟨h1,h2⟩|h
 .exact .inl ⟨h1,λw'' h3=>h2 w'' (λb hb=>by rw[h3 b hb,hs b hb])⟩
 exact .inr h
def near(o:Oper)(a A:Act):Prop:=∃u ds,A={ a.put o.dst u with defers:=ds }
theorem aiH{d:Option Tmp}(j:Still Z){N i:Act->World->Prop}(l:execOp (a.put d v).eval o=execOp a.eval o)(hc:∀u,(a.put d v).put o.dst u=(a.put o.dst u).put d v)
  (h:o.wp P (a.put d v) w N Z) (hN:∀A w',near o a A->N (A.put d v) w'->i A w'):o.wp P a w i Z:=by
 have hn:∀u,near o a (a.put o.dst u):=λu=>⟨u,(a.put o.dst u).defers,rfl⟩
 unfold Oper.wp at *;rw[l]at h;cases hr:(execOp a.eval o).run P w with
 |halt x w'=>
  rw[hr]at h;cases x with
  |panic v=>exact j _ _ _ _ _ h
  |_=>exact h.elim
 |ok x w'=>
  rw[hr]at h;cases x with
  |value u=>grind [Oper.upon]
  |skip=>grind [Oper.upon]
  |defer g=>
   simp only[Oper.upon]at h|-;refine hN _ _ ⟨undef,g::a.defers,?_⟩ ?_
   .cases hd:o.dst<;>rfl
   have e:({ a with defers:=g::a.defers }.put o.dst undef).put d v={ a.put d v with defers:=g::(a.put d v).defers }.put o.dst undef:=by cases hd:o.dst<;>cases d<;>simp_all[Act.put]
   grind
  |enter f args=>
   refine Calls.mono h (λe k b=>?_);cases e with
   |returned u=>grind
   |panicked c=>exact j _ _ _ _ _ b
   |outgrown=>exact b
  |row r args=>grind [Oper.upon,Rows.mono]
  |_=>exact h.elim
theorem ac1(n:Still Z){f:Nat->Bs}(l:∀j b,Pr j b->f j b)(m:∀b,B b->f j b){c d:Oper}(hj:ops[j]? = some d)(k:c.apart ops d=true)
  (g:∀cs b,c.op≠.select cs b) (i:∀cs b,d.op≠.select cs b) {K:Act->World->Prop} {a:Act} {w:World}
  (hy:fY P ops B c v a w) (h:lOp P ops Z f j K (a.put c.dst v) w) :
  lOp P ops Z Pr j (λa' w'=>fY P ops B c v a' w'/\K (a'.put c.dst v) w') a w:=by
 obtain⟨h1,h2,h3⟩:=Oper.apart_spec k;have keep:∀A w',near d a A->F6 B w w'->fY P ops B c v A w':=by intro A w' ⟨u,ds,e⟩ hs;subst e;refine fY.later ?_ hs;exact hy.of_same (execOp_put c g a d.dst u h3) (wanted_put c a d.dst u h3)
 unfold lOp at *;simp only[hj]at *;rw[wanted_put d a c.dst v h1]at h;split
 .rename_i hw;simp only[hw]at h;exact aiH n (execOp_put d i a c.dst v h1) (λu=>Act.put_comm a v u h2) h (λA w' hn⟨k1,k2⟩=>⟨λb hb=>k1 b (l j b hb),keep A w' hn (λb hb=>k1 b (m b hb)),k2⟩)
 exact⟨keep _ _ ⟨undef,(a.put d.dst undef).defers,rfl⟩ (λ_ _=>rfl),by grind [Act.put_comm]⟩
def behind(md:Region.Mode)(ops:Array Oper)(i:Nat)(A:Nat->Bool)(listed:Array Bool):Prop:=∀j,A j=true->listed.getD j true=false->∃o,ops[j]? = some o/\∃e∈o.after,Region.binds md e=true/\listed.getD e.on true=false/\(e.on=i\/A e.on=true)
theorem na(hb:behind md ops i A listed)(d:A j=true):j ∉ Region.ready md ops listed:=by
 intro hj;obtain⟨a,f,c,b⟩:=mem_ready.1 hj;obtain⟨o,ho,e,g,h1,h2,_⟩:=hb j d a
 grind
theorem Mq(hb:behind md ops i A listed)(hj:j∈Region.ready md ops listed)(f:j≠i):behind md ops i A (listed.setIfInBounds j true):=by
 have b:A j≠true:=λh=>na hb h hj
 intro k hk a;have c:j≠k:=λe=>b (e ▸ hk)
 rw[getD_set_ne true c]at a;obtain⟨o,ho,e,d,h1,h2,h3⟩:=hb k hk a;refine⟨o,ho,e,d,h1,?_,h3⟩;have:j≠e.on:=by grind
 simp_all
theorem kH(I:Still Z){Q:Act->World->Prop}{l:Oper}(hi:ops[i]? = some l)(n:∀(j:Nat) (o:Oper) cs b,ops[j]? = some o->o.op≠.select cs b) :
  ∀(fuel:Nat)(listed:Array Bool)(Pr d:Nat->Bs)(a:Act)(w:World),(∀j b,Pr j b->d j b)->(∀j b,A j=false->B b->d j b) ->
   (∀j q,ops[j]? = some q->j≠i->listed.getD j true=false->(∀e∈q.after,Region.binds md e=true->e.on≠i)->l.apart ops q=true) ->
   behind md ops i A listed ->
   i∈Region.ready md ops listed->fY P ops B l v a w ->
   tZ P md ops Z Q fuel (listed.setIfInBounds i true) d (a.put l.dst v) w->tZ P md ops Z Q (fuel+1) listed Pr a w:=by
 have self:∀(Pr:Nat->Bs)(a:Act)(w:World)(K:Act->World->Prop),fY P ops B l v a w->K (a.put l.dst v) w->lOp P ops Z Pr i K a w:=by
  intro Pr a w K hy J;unfold lOp;simp only[hi];rcases hy with⟨hw,hv⟩|⟨hw,rfl⟩
  .simp only[hw];unfold Oper.wp;rw[hv w (λ_ _=>rfl)];exact⟨λ_ _=>rfl,J⟩
  grind
 intro fuel;induction fuel with
 |zero=>
  intro listed Pr d a w x C _ m hr hy H;refine⟨λh=>(by grind),λj hj=>?_⟩;by_cases c:j=i
  .grind
  have:=ready_mono hj c
  rw[H.1]at this
  grind
 |succ fuel ih=>
  intro listed Pr d a w x C f m hr hy H;refine⟨λh=>(by grind),λj hj=>?_⟩;by_cases c:j=i
  .grind
  have D:A j=false:=by grind [na]
  have h1:=H.2 j (ready_mono hj c)
  obtain⟨u,q,p,E⟩:=mem_ready.1 hj;have r:∀e∈q.after,Region.binds md e=true->e.on≠i:=λe M hb F=>by grind [mem_ready]
  have h2:=ac1 I x (λb hb=>C j b D hb) p (f j q p c u r) (λcs b=>n i l cs b hi) (λcs b=>n j q cs b p) hy h1
  have g:∀k ok,ops[k]? = some ok->k≠i->(listed.setIfInBounds j true).getD k true=false ->
    (∀e∈ok.after,Region.binds md e=true->e.on≠i)->l.apart ops ok=true:=λk ok hk y G hno=>by
   refine f k ok hk y ?_ hno;by_cases L:j=k
   .grind
   simp_all
  refine Yn (λa' w' h3=>?_) h2;obtain⟨z,t,s,h4⟩:=h3;refine⟨Pr,λ_ _ h=>h,ih (listed.setIfInBounds j true) Pr t a' w' (λk b hb=>s k b (x k b hb)) (λk b hk hb=>s k b (C k b hk hb)) g (Mq m hj c) (ready_mono hr (Ne.symm c)) z ?_⟩
  grind [Array.setIfInBounds_comm]
end
inductive Pn where
 |done
 |take (i:Nat) (A:List Nat) (fz:Bool) (r:Pn)
 |one (i:Nat) (r:Pn)
 |two (i:Nat) (r:Pn) (j:Nat) (q:Pn)
 |three (i:Nat) (r:Pn) (j:Nat) (q:Pn) (k:Nat) (p:Pn)
def gK(ops:List Oper)(o:Oper)(s:S)(f:S->Prop)(no:S->Prop):Prop:=
 match o.guard with
 |none=>f s
 |some (j,want)=>match(ops[j]?).bind (·.dst)with
  |some d=>match bB s.t d with
   |.one (.c (.d (.bool c)))=>gsel c want (f (s.put (some d) (sc (.bool want)))) (no ((s.put (some d) (sc (.bool (!want)))).put o.dst (.tup [])))
   |.tup []=>no (s.put o.dst (.tup []))
   |_=>False
  |none=>False
def ahT(P:Program)(cs:CT)(ops:List Oper)(i:Nat)(s:S)(k:S->Prop):Prop:=
 match ops[i]? with
 |none=>False
 |some o=>gK ops o s (λs=>opK P cs o s k) k
def unlisted(listed:Array Bool)(j:Nat):Bool:=!listed.getD j true
def BJ(ops:Array Oper)(listed:Array Bool)(i:Nat)(A:List Nat)(fz:Bool):Bool:=
 Region.free .any ops listed i&&(Region.ready .any ops listed).contains i&&(match ops[i]? with|some o=>isQ o|none=>false) &&
 (A.all λj=>!unlisted listed j||match ops[j]? with
  |some o=>o.after.any λe=>Region.binds .any e&&unlisted listed e.on&&(e.on==i||A.contains e.on)
  |none=>false) &&
 (fz||(List.range ops.size).all λj=>!unlisted listed j||j==i||A.contains j||match ops[j]? with|some o=>isQ o|none=>true)
def RF(ops:Array Oper)(listed:Array Bool)(H:FH)(Pr:Nat->Bs):Prop:=∀j o,ops[j]? = some o->listed.getD j true=false->isQ o=true\/∀b,Pr j b->∃x y,H b x=some y
def Zx(g:G)(Q:Exit->S->Prop):Exit->Act->World->Prop
 |.panic c,a,w=>∃s,s.t=[]/\Q (.panic c) s/\R g s a w
 |_,_,_=>False
variable{F:Nm->Fp}{H:FH}{γ:Gam}
theorem Wq{g:G}{s:S}{a':Act}(h:RX g s a w H γ F)(h1:a'.tmps.size=a.tmps.size)(h2:a'.defers=a.defers):RX g ⟨[],s.m⟩ a' w H γ F:=⟨h.mem,h.fr,h1.trans h.nt,⟨h2.trans h.df.1,h.df.2⟩,λ_=>trivial⟩
theorem uw(g:G)(Q:Exit->S->Prop):Still (Zx g Q):=by
 intro e a d v w h;cases e with
 |panic c=>
  obtain⟨s,h1,h2,H,γ,F,b⟩:=h;refine⟨s,h1,h2,H,γ,F,?_⟩;have:=Wq (a':=a) b (by cases d<;>simp[Act.put]) (by cases d<;>rfl)
  rw[<- h1]at this;omega
 |_=>exact h.elim
theorem aaX{g:G}{Q:Exit->S->Prop}{e:Exit}(h:Zx g Q e a w):lift g Q e a w:=by
 cases e with
 |panic c=>obtain⟨s,_,h2,h3⟩:=h;exact⟨s,h2,h3⟩
 |_=>exact h.elim
def AD(P:Program)(g:G)(ops:Array Oper)(Q:Exit->S->Prop)(K:S->Prop)(fuel:Nat)(listed:Array Bool)(s:S):Prop:=∀a w H γ F Pr,RX g s a w H γ F->RF ops listed H Pr->tZ P .any ops (Zx g Q) (λa w=>∃s',K s'/\R g s' a w) fuel listed Pr a w
variable{K:S->Prop}{fuel:Nat}
section
variable {P:Program} {cs:CT} {g:G} {s:S} {Q:Exit->S->Prop}
theorem jp(h:(listed.setIfInBounds i true).getD j true=false):listed.getD j true=false/\j≠i:=by
 by_cases a:i=j
 .simp_all
 rw[getD_set_ne true a]at h;grind
theorem RF.mono{ops:Array Oper}{listed':Array Bool}{H':FH}(h:RF ops listed H Pr)(hl:∀j,listed'.getD j true=false->listed.getD j true=false)(hH:∀b o y,H b o=some y->H' b o=some y):RF ops listed' H' Pr:=by
 intro j o hj hun;rcases h j o hj (hl j hun)with h|h
 all_goals grind
theorem U8{ops:Array Oper}(hr:Region.ready .any ops listed=[])(h:K s):∀fuel,AD P g ops Q K fuel listed s
 |0,_,_,_,_,_,_,a,_=>⟨hr,s,h,_,_,_,a⟩
 |_+1,_,_,_,_,_,_,a,_=>⟨λ_=>⟨s,h,_,_,_,a⟩,by grind⟩
theorem uQ{ops:Array Oper}(n:RX g s a w H γ F){f no:S->Prop}(h:gK ops.toList o s f no)(ho:okD g.nt o.dst=true)
  (b:(match o.guard with|none=>true|some (j,_)=>match(ops[j]?).bind (·.dst)with|some d=>decide (d<g.nt)|none=>true)=true) :
  (Region.wanted o (yielded ops a.tmps)=true/\∃s',f s'/\RX g s' a w H γ F)\/(Region.wanted o (yielded ops a.tmps)=false/\∃s',no s'/\RX g s' (a.put o.dst undef) w H γ F):=by
 unfold gK at h;cases x:o.guard with
 |none=>grind [Region.wanted]
 |some q=>
  obtain⟨j,want⟩:=q;rw[x]at h b;dsimp only at h b;have e:ops.toList[j]? = ops[j]? := by simp
  rw[e]at h;cases hj:(ops[j]?).bind (·.dst)with
  |none=>grind
  |some d=>
   rw[hj]at h b;dsimp only at h b;split at h
   .rename_i c i;obtain⟨h1,h2⟩:=Tj h;have hv:=n.t d
    have k:d<a.tmps.size:=by grind [RX.nt]
    rw[i,G.tv_lt k]at hv;obtain⟨hz,m,hv⟩:=hv;have u:a.tmps.getD d undef=.bool c:=by cases m<;>exact hv
    have l:a.tmps[d]? = some (.bool c):=by simp_all
    have hy:yielded ops a.tmps j=some c:=by grind [yielded]
    have same:a.put (some d) (.bool c)=a:=by simp_all[Act.put,oB]
    have p:RX g (s.put (some d) (.one (.c (.d (.bool c))))) a w H γ F:=by
     have:=n.put (d:=some d) (by grind [okD]) (v:=.one (.c (.d (.bool c)))) (y:=.bool c) ⟨λ_=>rfl,0,rfl⟩
     grind
    by_cases hc:c=want
    .grind [Region.wanted]
    have r:c=!want:=by cases c<;>cases want<;>simp_all
    grind [RX.put,ub,Region.wanted]
   all_goals grind [unyielded,RX.put,ub,Region.wanted]
def mf(nt:Nat)(ops:Array Oper):Bool:=ops.all λo=>opC nt o&&match o.guard with
 |none=>true
 |some (j,_)=>match(ops[j]?).bind (·.dst)with
  |some d=>decide (d<nt)
  |none=>true
theorem mg{ops:Array Oper}(h:mf g.nt ops=true)(hi:ops[i]? = some o):opC g.nt o=true/\(match o.guard with|none=>true|some (j,_)=>match(ops[j]?).bind (·.dst)with|some d=>decide (d<g.nt)|none=>true)=true:=by
 have:=Array.all_eq_true_iff_forall_mem.1 h o (Array.mem_of_getElem? hi)
 grind
theorem Region.ready_mem_of_contains{ops:Array Oper}(h:(Region.ready .any ops listed).contains i=true):i∈Region.ready .any ops listed:=by grind
theorem gq:unlisted listed j=true ↔ listed.getD j true=false:=by grind [unlisted]
theorem aj5{ops:Array Oper}{A:List Nat}{fz:Bool}(C:mf g.nt ops=true)(hs:Region.noSelect ops=true)(hi:ops[i]? = some o)
  (p:BJ ops listed i A fz=true) {D:S->Prop} (q:∀s,D s->AD P g ops Q K fuel (listed.setIfInBounds i true) s)
  (h:gK ops.toList o s (λs=>(fz=true->gX s o)/\qK P o s λv=>D (s.put o.dst v)) D):AD P g ops Q K (fuel+1) listed s:=by
 intro a w H γ F Pr u m;simp only[BJ,akI]at p;obtain⟨⟨⟨⟨r,x⟩,t3⟩,t4⟩,t5⟩:=p;obtain⟨n,I⟩:=mg C hi;have c:=Region.ready_mem_of_contains x
 have k:behind .any ops i (λj=>A.contains j) listed:=by
  intro j hj e;have:=akZ.1 t4 j (by grind)
  rw[gq.2 e]at this;cases ho:ops[j]?<;>grind [gq]
 have f:∀j,(listed.setIfInBounds i true).getD j true=false->listed.getD j true=false:=λj h=>(jp h).1
 rcases uQ u h (gl n) I with⟨hw,s',⟨hf,hq⟩,hX'⟩|⟨hw,s',hno,hX'⟩
 .obtain⟨z,d,B,e0,G,t,y⟩:=Bh hX' n hq;refine kH (uw g Q) (A:=λj=>A.contains j) (B:=B) (v:=z) hi (Region.noSelect_spec hs) fuel listed Pr (λj b=>Pr j b\/(A.contains j=false/\B b)) a w (λj b h=>.inl h) (λj b h1 h2=>.inr ⟨h1,h2⟩)
   (Region.free_spec hi r) k c (.inl ⟨hw,λw2 hs2=>G w2 hs2⟩) (q _ y (a.put o.dst z) w H γ F _ (hX'.put (gl n) t) ?_)
  intro j E hj e;obtain⟨l,J⟩:=jp e;rcases m j E hj l with hp|hp
  all_goals grind [gq]
 refine kH (uw g Q) (A:=λ_=>false) (B:=λ_=>False) (v:=undef) hi (Region.noSelect_spec hs) fuel listed Pr Pr a w (λj b h=>h) (λj b _ h2=>h2.elim)
  (Region.free_spec hi r) (λj h=>by cases h) c (.inr ⟨hw,rfl⟩) (q _ hno (a.put o.dst undef) w H γ F _ hX' (m.mono f (λ_ _ _ h=>h)))
theorem aj4{ops:Array Oper}(C:cs.Ok P)(N:mf g.nt ops=true)(q:listed.getD i true=false)
  {D:S->Prop} (v:∀s,D s->AD P g ops Q K fuel (listed.setIfInBounds i true) s) (h:ahT P cs ops.toList i s D) {a:Act} {w:World} {H:FH} {γ:Gam} {F:Nm->Fp} {Pr:Nat->Bs} (I:RX g s a w H γ F) (f:RF ops listed H Pr) :
  lOp P ops (Zx g Q) Pr i (λa' w'=>∃n:Nat->Bs,(∀j b,Pr j b->n j b)/\tZ P .any ops (Zx g Q) (λa w=>∃s',K s'/\R g s' a w) fuel (listed.setIfInBounds i true) n a' w') a w:=by
 have e:∀j,(listed.setIfInBounds i true).getD j true=false->listed.getD j true=false:=λj h=>(jp h).1
 unfold ahT at h;have l:ops.toList[i]? = ops[i]? := by simp
 rw[l]at h;unfold lOp;cases hi:ops[i]? with
 |none=>grind
 |some o=>
  rw[hi]at h;obtain⟨p,T⟩:=mg N hi;dsimp only at h|-;rcases uQ I h (gl p) T with⟨hw,s',hop,hX'⟩|⟨hw,s',hno,hX'⟩
  .rw[if_pos hw];by_cases hq:isQ o=true
   .obtain⟨z,d,B,_,O,E,M⟩:=Bh hX' p (QO hq hop);unfold Oper.wp;rw[O w (λ_ _=>rfl)];exact⟨λ_ _=>rfl,Pr,λ_ _ h=>h,v _ M (a.put o.dst z) w H γ F Pr (hX'.put (gl p) E) (f.mono e (λ_ _ _ h=>h))⟩
   have hp:∀b,Pr i b->∃x y,H b x=some y:=by
    rcases f i o hi q with h|h
    all_goals grind
   let g':G:=⟨g.nt,w,H,tot F s'.m,g.out,g.ex,g.dfs⟩
   have A:RX g' s' a w H γ F:=⟨hX'.mem,Fr.refl' rfl rfl rfl rfl (λ_ h=>h),hX'.nt,⟨hX'.df.1,hX'.df.2.1,jI hX'⟩,hX'.t⟩
   refine cD ?_ (λ_ _ _ h=>?_) (LL (g:=g') (Q:=λ_ _=>False) C p hop a w ⟨H,γ,F,A⟩)
   .intro a' w' ⟨s2,hs2,J,u,L,c⟩;have k:=c.fr
    refine⟨λb hb=>?_,Pr,λ_ _ h=>h,?_⟩
    .obtain⟨x,y,r⟩:=hp b hb;have hc:=hX'.mem.agree b x y r
     refine k.block b ?_ ?_
     .exact hc.lt
     rcases alI (tot F s'.m b)with h|h
     .exact h
     have:=hX'.mem.nofz b kQ1 x
     grind
    exact v _ hs2 a' w' J u L Pr ⟨c.mem,hX'.fr.trans k,c.nt,⟨c.df.1,c.df.2.1,hX'.df.2.2⟩,c.t⟩ (f.mono e k.hold)
   obtain⟨_,h,_⟩:=h;grind
  rw[if_neg (by grind)];exact⟨Pr,λ_ _ h=>h,v _ hno (a.put o.dst undef) w H γ F Pr hX' (f.mono e (λ_ _ _ h=>h))⟩
def Pn.size:Pn->Nat
 |.done=>0
 |.take _ _ _ r=>r.size+1
 |.one _ r=>r.size+1
 |.two _ r _ q=>max r.size q.size+1
 |.three _ r _ q _ p=>max r.size (max q.size p.size)+1
theorem Wm(c:RX g s a w H γ F)(w':World)(h1:w'.heap=w.heap)(h2:w'.os=w.os)(h3:w'.tape=w.tape)(h4:w'.output=w.output):RX g s a w' H γ F:=by
 have d:∀b,tot F s.m b≠0->w'.heap[b]? = w.heap[b]? := λb _=>by rw[h1]
 have e:=fK (w':=w') c.mem d
 refine kl c ⟨λb o y h=>?_,λx hx=>bm e (λ_ _ _ h=>h) rfl (λb _=>by rw[h1]) (c.mem.roots x hx),c.mem.keys,c.mem.le1,λb hb=>by rw[h1];exact c.mem.lt b hb,c.mem.nofz⟩ (Fr.refl' h1 h2 h3 h4 (λ_ h=>h)) (λi=>dK e (λ_ _ _ h=>h) (c.t i)) (λ_=>rfl);exact(c.mem.agree b o y h).frame (by rw[h1])
end
end Go.Am
end
