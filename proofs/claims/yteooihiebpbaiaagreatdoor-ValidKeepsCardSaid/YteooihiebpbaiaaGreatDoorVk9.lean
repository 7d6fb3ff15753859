/-
  Part 9: AmDraw.
-/
import Derived.Test.YteooihiebpbaiaaGreatDoorVk8
import Derived.Still
set_option linter.unusedSimpArgs false
set_option linter.unusedVariables false
set_option linter.unusedSectionVars false
set_option linter.unnecessarySimpa false
section
namespace Go.Am
abbrev Bs:=Nat->Prop
def Ag(Pr:Bs)(w w':World):Prop:=∀b,Pr b->w'.heap[b]? = w.heap[b]?
section
variable {P:Program} {ops:Array Oper} {md:Region.Mode}
def Still(Z:Exit->Act->World->Prop):Prop:=∀e a d v w,Z e (a.put d v) w->Z e a w
def lOp(P:Program)(ops:Array Oper)(Z:Exit->Act->World->Prop)(Pr:Nat->Bs)(i:Nat)(K:Act->World->Prop)(a:Act)(w:World):Prop:=
 match ops[i]? with
 |none=>K a w
 |some o=>if Region.wanted o (yielded ops a.tmps)then o.wp P a w (fun a' w'=>Ag (Pr i) w w'/\K a' w') Z else K (a.put o.dst undef) w
def pi(P:Program)(md:Region.Mode)(ops:Array Oper)(Z:Exit->Act->World->Prop)(Q:Act->World->Prop):Nat->Array Bool->(Nat->Bs)->Act->World->Prop
 |0,listed,_,a,w=>Region.ready md ops listed=[]/\Q a w
 |fuel+1,listed,Pr,a,w=>
  (Region.ready md ops listed=[]->Q a w) /\
  ∀i∈Region.ready md ops listed,lOp P ops Z Pr i (fun a' w'=>∃Pr':Nat->Bs,(∀j b,Pr j b->Pr' j b)/\pi P md ops Z Q fuel (listed.setIfInBounds i true) Pr' a' w') a w
theorem OF{Z:Exit->Act->World->Prop}{Pr:Nat->Bs}{i:Nat}{K K':Act->World->Prop}(h:∀a w,K a w->K' a w){a:Act}{w:World}(hh:lOp P ops Z Pr i K a w):lOp P ops Z Pr i K' a w:=by
 unfold lOp at *;split
 ·rename_i ho;simp only[ho]at hh;exact h _ _ hh
 ·rename_i o ho;simp only[ho]at hh;split
  ·rename_i hw;simp only[hw,if_true]at hh;exact bG (fun a w⟨h1,h2⟩=>⟨h1,h _ _ h2⟩) (fun _ _ _ h=>h) hh
  ·rename_i hw;simp only[hw]at hh;exact h _ _ hh
theorem lR{Z:Exit->Act->World->Prop}{Q:Act->World->Prop}{Q':Exit->Act->World->Prop}(hQ:∀a w,Q a w->Q' .normal a w)(hZ:∀e a w,Z e a w->Q' e a w):∀(fuel:Nat)(listed:Array Bool)(Pr:Nat->Bs)(a:Act)(w:World),
  pi P md ops Z Q fuel listed Pr a w->wpAny P md ops Q' fuel listed a w
 |0,_,_,_,_,h=>⟨h.1,hQ _ _ h.2⟩
 |fuel+1,_,_,_,_,h=>⟨fun h0=>hQ _ _ (h.1 h0),fun i hi=>by
   have hh:=h.2 i hi
   unfold lOp at hh;unfold wpOp;split
   ·rename_i ho;simp only[ho]at hh;obtain⟨Pr',_,h2⟩:=hh;exact lR hQ hZ fuel _ Pr' _ _ h2
   ·rename_i o ho;simp only[ho]at hh;split
    ·rename_i hw;simp only[hw,if_true]at hh;exact .inl (bG (fun a' w'⟨_,Pr',_,h2⟩=>lR hQ hZ fuel _ Pr' _ _ h2) hZ hh)
    ·rename_i hw;simp only[hw]at hh;obtain⟨Pr',_,h2⟩:=hh;exact lR hQ hZ fuel _ Pr' _ _ h2⟩
def dM(P:Program)(ops:Array Oper)(Pr:Bs)(o:Oper)(v:Value)(a:Act)(w:World):Prop:=
 (Region.wanted o (yielded ops a.tmps)=true/\∀w',Ag Pr w w'->(execOp a.eval o).run P w'=.ok (.value v) w') \/
 (Region.wanted o (yielded ops a.tmps)=false/\v=undef)
theorem dM.of_same{Pr:Bs}{o:Oper}{v:Value}{a a':Act}{w:World}(hy:dM P ops Pr o v a w)(he:execOp a'.eval o=execOp a.eval o)
  (hw:Region.wanted o (yielded ops a'.tmps)=Region.wanted o (yielded ops a.tmps)):dM P ops Pr o v a' w:=by
 unfold dM at *;rw[he,hw];exact hy
theorem dM.later{B:Bs}{o:Oper}{v:Value}{a:Act}{w w':World}(hy:dM P ops B o v a w)(hs:Ag B w w'):dM P ops B o v a w':=by
 rcases hy with⟨h1,h2⟩|h
 ·exact .inl ⟨h1,fun w'' h3=>h2 w'' (fun b hb=>by rw[h3 b hb,hs b hb])⟩
 ·exact .inr h
def near(o:Oper)(a A:Act):Prop:=∃u ds,A={ a.put o.dst u with defers:=ds }
theorem U6{o:Oper}{a:Act}{w:World}{d:Option Tmp}{v:Value}{Z:Exit->Act->World->Prop}(hZ:Still Z){N N':Act->World->Prop}(he:execOp (a.put d v).eval o=execOp a.eval o)(hc:∀u,(a.put d v).put o.dst u=(a.put o.dst u).put d v)
  (h:o.wp P (a.put d v) w N Z) (hN:∀A w',near o a A->N (A.put d v) w'->N' A w'):o.wp P a w N' Z:=by
 have hn:∀u,near o a (a.put o.dst u):=fun u=>⟨u,(a.put o.dst u).defers,rfl⟩
 unfold Oper.wp at *;rw[he]at h;cases hr:(execOp a.eval o).run P w with
 |halt x w'=>
  rw[hr]at h;cases x with
  |panic v=>exact hZ _ _ _ _ _ h
  |_=>exact h.elim
 |ok x w'=>
  rw[hr]at h;cases x with
  |value u=>simp only[Oper.upon]at h⊢;rw[hc]at h;exact hN _ _ (hn u) h
  |skip=>simp only[Oper.upon]at h⊢;rw[hc]at h;exact hN _ _ (hn _) h
  |defer dd=>
   simp only[Oper.upon]at h⊢;refine hN _ _ ⟨undef,dd::a.defers,?_⟩ ?_
   ·cases hd:o.dst<;>rfl
   ·have e:({ a with defers:=dd::a.defers }.put o.dst undef).put d v={ a.put d v with defers:=dd::(a.put d v).defers }.put o.dst undef:=by
     have:=congrArg Act.tmps (hc undef)
     cases hd:o.dst<;>cases d<;>simp_all[Act.put]
    rw[e];exact h
  |enter f args=>
   simp only[Oper.upon]at h⊢;refine Calls.mono h (fun e w'' he'=>?_);cases e with
   |returned u=>dsimp only at he'⊢;rw[hc]at he';exact hN _ _ (hn u) he'
   |panicked c=>exact hZ _ _ _ _ _ he'
   |outgrown=>exact he'
  |row r args=>
   simp only[Oper.upon]at h⊢;exact Rows.mono h (fun u w'' hv=>by rw[hc]at hv;exact hN _ _ (hn u) hv)
  |_=>exact h.elim
theorem RG{Z:Exit->Act->World->Prop}(hZ:Still Z){Pr Pr':Nat->Bs}(hP:∀j b,Pr j b->Pr' j b){B:Bs}{j:Nat}(hB:∀b,B b->Pr' j b){oi oj:Oper}{v:Value}(hj:ops[j]? = some oj)(hap:oi.apart ops oj=true)
  (hsi:∀cs b,oi.op≠.select cs b) (hsj:∀cs b,oj.op≠.select cs b) {K:Act->World->Prop} {a:Act} {w:World}
  (hy:dM P ops B oi v a w) (h:lOp P ops Z Pr' j K (a.put oi.dst v) w) :
  lOp P ops Z Pr j (fun a' w'=>dM P ops B oi v a' w'/\K (a'.put oi.dst v) w') a w:=by
 obtain⟨h1,h2,h3⟩:=Oper.apart_spec hap;have keep:∀A w',near oj a A->Ag B w w'->dM P ops B oi v A w':=by
  intro A w' ⟨u,ds,e⟩ hs;subst e;refine dM.later ?_ hs;exact hy.of_same (execOp_put oi hsi a oj.dst u h3) (wanted_put oi a oj.dst u h3)
 unfold lOp at *;simp only[hj]at *;rw[wanted_put oj a oi.dst v h1]at h;split
 ·rename_i hw;simp only[hw,if_true]at h;exact U6 hZ (execOp_put oj hsj a oi.dst v h1) (fun u=>Act.put_comm a v u h2) h (fun A w' hn⟨k1,k2⟩=>⟨fun b hb=>k1 b (hP j b hb),keep A w' hn (fun b hb=>k1 b (hB b hb)),k2⟩)
 ·rename_i hw;simp only[hw]at h;exact⟨keep _ _ ⟨undef,(a.put oj.dst undef).defers,rfl⟩ (fun _ _=>rfl),by rw[<- Act.put_comm a v undef h2];exact h⟩
def behind(md:Region.Mode)(ops:Array Oper)(i:Nat)(A:Nat->Bool)(listed:Array Bool):Prop:=
 ∀j,A j=true->listed.getD j true=false->∃o,ops[j]? = some o/\∃e∈o.after,Region.binds md e=true/\listed.getD e.on true=false/\(e.on=i\/A e.on=true)
theorem I2{l:Array Bool}{i:Nat}(h:l.getD i true=false):l.getD i false=false:=by
 rcases W4 i l.size with h'|h'
 ·simp[h']at h⊢;exact h
 ·simp[XL h']at h
theorem kw{i j:Nat}{A:Nat->Bool}{listed:Array Bool}(hb:behind md ops i A listed)(hA:A j=true):j ∉ Region.ready md ops listed:=by
 intro hj;obtain⟨hjun,oj,hoj,hall⟩:=mem_ready.1 hj;obtain⟨o,ho,e,he,h1,h2,_⟩:=hb j hA hjun;rw[hoj]at ho;obtain rfl:=Option.some.inj ho;have:=hall e he h1
 rw[I2 h2]at this;cases this
theorem EK{i j:Nat}{A:Nat->Bool}{listed:Array Bool}(hb:behind md ops i A listed)(hj:j∈Region.ready md ops listed)(hji:j≠i):behind md ops i A (listed.setIfInBounds j true):=by
 have hAj:A j≠true:=fun h=>kw hb h hj
 intro k hk hun;have hjk:j≠k:=fun e=>hAj (e ▸ hk)
 rw[getD_set_ne true hjk]at hun;obtain⟨o,ho,e,he,h1,h2,h3⟩:=hb k hk hun;refine⟨o,ho,e,he,h1,?_,h3⟩;have:j≠e.on:=by
  intro e';rcases h3 with h3|h3
  ·exact hji (by rw[e',h3])
  ·exact hAj (by rw[e'];exact h3)
 rw[getD_set_ne true this];exact h2
theorem iw{Z:Exit->Act->World->Prop}(hZ:Still Z){Q:Act->World->Prop}{i:Nat}{oi:Oper}{v:Value}{A:Nat->Bool}{B:Bs}(hi:ops[i]? = some oi)(hsel:∀(j:Nat) (o:Oper) cs b,ops[j]? = some o->o.op≠.select cs b) :
  ∀(fuel:Nat)(listed:Array Bool)(Pr Pr':Nat->Bs)(a:Act)(w:World),(∀j b,Pr j b->Pr' j b)->(∀j b,A j=false->B b->Pr' j b) ->
   (∀j oj,ops[j]? = some oj->j≠i->listed.getD j true=false->(∀e∈oj.after,Region.binds md e=true->e.on≠i)->oi.apart ops oj=true) ->
   behind md ops i A listed ->
   i∈Region.ready md ops listed->dM P ops B oi v a w ->
   pi P md ops Z Q fuel (listed.setIfInBounds i true) Pr' (a.put oi.dst v) w->pi P md ops Z Q (fuel+1) listed Pr a w:=by
 have self:∀(Pr:Nat->Bs)(a:Act)(w:World)(K:Act->World->Prop),dM P ops B oi v a w->K (a.put oi.dst v) w->lOp P ops Z Pr i K a w:=by
  intro Pr a w K hy hK;unfold lOp;simp only[hi];rcases hy with⟨hw,hv⟩|⟨hw,rfl⟩
  ·simp only[hw,if_true];unfold Oper.wp;rw[hv w (fun _ _=>rfl)];exact⟨fun _ _=>rfl,hK⟩
  ·simp only[hw,WP,if_false];exact hK
 intro fuel;induction fuel with
 |zero=>
  intro listed Pr Pr' a w hP hB _ hbeh hr hy H;refine⟨fun h=>(by rw[h]at hr;cases hr),fun j hj=>?_⟩;by_cases hji:j=i
  ·subst hji;exact self _ _ _ _ hy ⟨Pr',hP,H⟩
  ·have:=ready_mono hj hji
   rw[H.1]at this;cases this
 |succ fuel ih=>
  intro listed Pr Pr' a w hP hB hfree hbeh hr hy H;refine⟨fun h=>(by rw[h]at hr;cases hr),fun j hj=>?_⟩;by_cases hji:j=i
  ·subst hji;exact self _ _ _ _ hy ⟨Pr',hP,H⟩
  ·have hAj:A j=false:=by
    cases hA:A j with
    |false=>rfl
    |true=>exact absurd hj (kw hbeh hA)
   have h1:=H.2 j (ready_mono hj hji)
   obtain⟨hjun,oj,hoj,hall⟩:=mem_ready.1 hj;have hnot:∀e∈oj.after,Region.binds md e=true->e.on≠i:=fun e he hb heq=>by
    have h1:=hall e he hb
    have h0:=(mem_ready.1 hr).1
    rw[heq]at h1;rw[I2 h0]at h1;cases h1
   have h2:=RG hZ hP (fun b hb=>hB j b hAj hb) hoj (hfree j oj hoj hji hjun hnot) (fun cs b=>hsel i oi cs b hi) (fun cs b=>hsel j oj cs b hoj) hy h1
   have hfree':∀k ok,ops[k]? = some ok->k≠i->(listed.setIfInBounds j true).getD k true=false ->
     (∀e∈ok.after,Region.binds md e=true->e.on≠i)->oi.apart ops ok=true:=fun k ok hk hki hun hno=>by
    refine hfree k ok hk hki ?_ hno;by_cases hjk:j=k
    ·subst hjk;exact hjun
    ·rw[getD_set_ne true hjk]at hun;exact hun
   refine OF (fun a' w' h3=>?_) h2;obtain⟨hy',Pr'',hP2,h4⟩:=h3;refine⟨Pr,fun _ _ h=>h,ih (listed.setIfInBounds j true) Pr Pr'' a' w' (fun k b hb=>hP2 k b (hP k b hb)) (fun k b hk hb=>hP2 k b (hB k b hk hb)) hfree' (EK hbeh hj hji) (ready_mono hr (Ne.symm hji)) hy' ?_⟩;rw[Array.setIfInBounds_comm _ _ hji];exact h4
end
inductive Pn where
 |done
 |take (i:Nat) (A:List Nat) (fz:Bool) (r:Pn)
 |one (i:Nat) (r:Pn)
 |two (i:Nat) (r:Pn) (j:Nat) (q:Pn)
 |three (i:Nat) (r:Pn) (j:Nat) (q:Pn) (k:Nat) (p:Pn)
def gK(ops:List Oper)(o:Oper)(s:S)(f:S->Prop)(no:S->Prop):Prop:=
 match o.guard with
 |none=>f s
 |some (j,want)=>match(ops[j]?).bind (·.dst)with
  |some d=>match aL s.t d with
   |.one (.c (.d (.bool c)))=>gsel c want (f (s.put (some d) (sc (.bool want)))) (no ((s.put (some d) (sc (.bool (!want)))).put o.dst (.tup [])))
   |.tup []=>no (s.put o.dst (.tup []))
   |_=>False
  |none=>False
def UL(P:Program)(cs:CT)(ops:List Oper)(i:Nat)(s:S)(k:S->Prop):Prop:=
 match ops[i]? with
 |none=>False
 |some o=>gK ops o s (fun s=>opK P cs o s k) k
def unlisted(listed:Array Bool)(j:Nat):Bool:=!listed.getD j true
def wm(ops:Array Oper)(listed:Array Bool)(i:Nat)(A:List Nat)(fz:Bool):Bool:=
 Region.free .any ops listed i&&(Region.ready .any ops listed).contains i&&(match ops[i]? with|some o=>isQ o|none=>false) &&
 (A.all fun j=>!unlisted listed j||match ops[j]? with
  |some o=>o.after.any fun e=>Region.binds .any e&&unlisted listed e.on&&(e.on==i||A.contains e.on)
  |none=>false) &&
 (fz||(List.range ops.size).all fun j=>!unlisted listed j||j==i||A.contains j||match ops[j]? with|some o=>isQ o|none=>true)
def JM(ops:Array Oper)(listed:Array Bool)(H:FH)(Pr:Nat->Bs):Prop:=
 ∀j o,ops[j]? = some o->listed.getD j true=false->isQ o=true\/∀b,Pr j b->∃x y,H b x=some y
def Zx(g:G)(Q:Exit->S->Prop):Exit->Act->World->Prop
 |.panic c,a,w=>∃s,s.t=[]/\Q (.panic c) s/\R g s a w
 |_,_,_=>False
theorem Nb{g:G}{s:S}{a a':Act}{w:World}{H:FH}{γ:Gam}{F:Nm->Fp}(h:RX g s a w H γ F)(h1:a'.tmps.size=a.tmps.size)(h2:a'.defers=a.defers):RX g ⟨[],s.m⟩ a' w H γ F:=
 ⟨h.mem,h.fr,h1.trans h.nt,⟨h2.trans h.df.1,h.df.2⟩,fun _=>trivial⟩
theorem pI(g:G)(Q:Exit->S->Prop):Still (Zx g Q):=by
 intro e a d v w h;cases e with
 |panic c=>
  obtain⟨s,h1,h2,H,γ,F,hX⟩:=h;refine⟨s,h1,h2,H,γ,F,?_⟩;have:=Nb (a':=a) hX (by cases d<;>simp[Act.put]) (by cases d<;>rfl)
  rw[<- h1]at this;exact this
 |_=>exact h.elim
theorem Qt{g:G}{Q:Exit->S->Prop}{e:Exit}{a:Act}{w:World}(h:Zx g Q e a w):lift g Q e a w:=by
 cases e with
 |panic c=>obtain⟨s,_,h2,h3⟩:=h;exact⟨s,h2,h3⟩
 |_=>exact h.elim
def AD(P:Program)(g:G)(ops:Array Oper)(Q:Exit->S->Prop)(K:S->Prop)(fuel:Nat)(listed:Array Bool)(s:S):Prop:=
 ∀a w H γ F Pr,RX g s a w H γ F->JM ops listed H Pr->pi P .any ops (Zx g Q) (fun a w=>∃s',K s'/\R g s' a w) fuel listed Pr a w
section
variable {P:Program} {cs:CT} {g:G} {s:S} {Q:Exit->S->Prop}
theorem fR{listed:Array Bool}{i j:Nat}(h:(listed.setIfInBounds i true).getD j true=false):listed.getD j true=false/\j≠i:=by
 by_cases hij:i=j
 ·subst hij;rcases W4 i listed.size with h'|h'
  ·simp[h']at h
  ·simp[XL h']at h
 ·rw[getD_set_ne true hij]at h;exact⟨h,fun e=>hij e.symm⟩
theorem JM.mono{ops:Array Oper}{listed listed':Array Bool}{H H':FH}{Pr:Nat->Bs}(h:JM ops listed H Pr)(hl:∀j,listed'.getD j true=false->listed.getD j true=false)(hH:∀b o y,H b o=some y->H' b o=some y):JM ops listed' H' Pr:=by
 intro j o hj hun;rcases h j o hj (hl j hun)with h|h
 ·exact .inl h
 ·exact .inr fun b hb=>by obtain⟨x,y,e⟩:=h b hb;exact⟨x,y,hH _ _ _ e⟩
theorem Mi{ops:Array Oper}{K:S->Prop}{listed:Array Bool}(hr:Region.ready .any ops listed=[])(h:K s):∀fuel,AD P g ops Q K fuel listed s
 |0,_,_,_,_,_,_,hX,_=>⟨hr,s,h,_,_,_,hX⟩
 |_+1,_,_,_,_,_,_,hX,_=>⟨fun _=>⟨s,h,_,_,_,hX⟩,by rw[hr];simp⟩
theorem pX{ops:Array Oper}{o:Oper}{a:Act}{w:World}{H:FH}{γ:Gam}{F:Nm->Fp}(hX:RX g s a w H γ F){f no:S->Prop}(h:gK ops.toList o s f no)(ho:okD g.nt o.dst=true)
  (hgd:(match o.guard with|none=>true|some (j,_)=>match(ops[j]?).bind (·.dst)with|some d=>decide (d<g.nt)|none=>true)=true) :
  (Region.wanted o (yielded ops a.tmps)=true/\∃s',f s'/\RX g s' a w H γ F)\/(Region.wanted o (yielded ops a.tmps)=false/\∃s',no s'/\RX g s' (a.put o.dst undef) w H γ F):=by
 unfold gK at h;cases hg:o.guard with
 |none=>
  rw[hg]at h;exact .inl ⟨by simp[Region.wanted,hg],s,h,hX⟩
 |some q=>
  obtain⟨j,want⟩:=q;rw[hg]at h hgd;dsimp only at h hgd;have hopj:ops.toList[j]? = ops[j]? := by simp
  rw[hopj]at h;cases hj:(ops[j]?).bind (·.dst)with
  |none=>rw[hj]at h;exact h.elim
  |some d=>
   rw[hj]at h hgd;dsimp only at h hgd;split at h
   ·rename_i c hcc;obtain⟨h1,h2⟩:=K7 h;have hv:=hX.t d
    have hd':d<a.tmps.size:=by rw[hX.nt];simpa using hgd
    rw[hcc,G.tv_lt hd']at hv;obtain⟨hz,m,hv⟩:=hv;have hv':a.tmps.getD d undef=.bool c:=by cases m<;>exact hv
    have hget:a.tmps[d]? = some (.bool c):=by
     rw[Xf,X8 hd']at hv';rw[X8 hd'];simpa using hv'
    have hy:yielded ops a.tmps j=some c:=by
     simp only[yielded,hj,W6,hget]
    have same:a.put (some d) (.bool c)=a:=by
     simp only[Act.put];have:a.tmps.setIfInBounds d (.bool c)=a.tmps:=lm hget
     rw[this]
    have hput:RX g (s.put (some d) (.one (.c (.d (.bool c))))) a w H γ F:=by
     have:=hX.put (d:=some d) (by simpa[okD]using hgd) (v:=.one (.c (.d (.bool c)))) (y:=.bool c) ⟨fun _=>rfl,0,rfl⟩
     rw[same]at this;exact this
    by_cases hc:c=want
    ·subst hc;exact .inl ⟨by simp[Region.wanted,hg,hy],_,h1 rfl,hput⟩
    ·have hc':c=!want:=by cases c<;>cases want<;>simp_all
     subst hc';refine .inr ⟨?_,_,h2 rfl,hput.put ho pu⟩;simp only[Region.wanted,hg,hy];cases want<;>rfl
   ·rename_i hcc;have hy:=unyielded hX hj hcc
    refine .inr ⟨?_,_,h,hX.put ho pu⟩;simp only[Region.wanted,hg,hy];rfl
   ·exact h.elim
def jy(nt:Nat)(ops:Array Oper):Bool:=ops.all fun o=>opC nt o&&match o.guard with
 |none=>true
 |some (j,_)=>match(ops[j]?).bind (·.dst)with
  |some d=>decide (d<nt)
  |none=>true
theorem gO{ops:Array Oper}(h:jy g.nt ops=true){i:Nat}{o:Oper}(hi:ops[i]? = some o):opC g.nt o=true/\(match o.guard with|none=>true|some (j,_)=>match(ops[j]?).bind (·.dst)with|some d=>decide (d<g.nt)|none=>true)=true:=by
 have:=Array.all_eq_true_iff_forall_mem.1 h o (Array.mem_of_getElem? hi)
 simpa only[WI]using this
theorem Region.ready_mem_of_contains{ops:Array Oper}{listed:Array Bool}{i:Nat}(h:(Region.ready .any ops listed).contains i=true):i∈Region.ready .any ops listed:=by simpa using h
theorem dT{listed:Array Bool}{j:Nat}:unlisted listed j=true ↔ listed.getD j true=false:=by
 unfold unlisted;cases listed.getD j true<;>simp
theorem V4{ops:Array Oper}{K:S->Prop}{fuel:Nat}{listed:Array Bool}{i:Nat}{A:List Nat}{fz:Bool}{o:Oper}(hC:jy g.nt ops=true)(hs:Region.noSelect ops=true)(hi:ops[i]? = some o)
  (ht:wm ops listed i A fz=true) {D:S->Prop} (hD:∀s,D s->AD P g ops Q K fuel (listed.setIfInBounds i true) s)
  (h:gK ops.toList o s (fun s=>(fz=true->eT s o)/\qK P o s fun v=>D (s.put o.dst v)) D):AD P g ops Q K (fuel+1) listed s:=by
 intro a w H γ F Pr hX hPr;simp only[wm,WI]at ht;obtain⟨⟨⟨⟨t1,t2⟩,t3⟩,t4⟩,t5⟩:=ht;obtain⟨c1,c2⟩:=gO hC hi;have hready:=Region.ready_mem_of_contains t2
 have hbeh:behind .any ops i (fun j=>A.contains j) listed:=by
  intro j hj hun;have:=WY.1 t4 j (by simpa using hj)
  rw[dT.2 hun]at this;cases ho:ops[j]? with
  |none=>rw[ho]at this;simp at this
  |some oj=>
   rw[ho]at this;simp only[YA,XG]at this;obtain⟨e,he,h1⟩:=Array.any_eq_true'.1 this;simp only[WI,XB,beq_iff_eq]at h1;exact⟨oj,rfl,e,he,h1.1.1,dT.1 h1.1.2,h1.2⟩
 have hset:∀j,(listed.setIfInBounds i true).getD j true=false->listed.getD j true=false:=fun j h=>(fR h).1
 rcases pX hX h (dy c1) c2 with⟨hw,s',⟨hf,hq⟩,hX'⟩|⟨hw,s',hno,hX'⟩
 ·obtain⟨z,d,B,e0,e1,e2,e3⟩:=vT hX' c1 hq;refine iw (pI g Q) (A:=fun j=>A.contains j) (B:=B) (v:=z) hi (Region.noSelect_spec hs) fuel listed Pr (fun j b=>Pr j b\/(A.contains j=false/\B b)) a w (fun j b h=>.inl h) (fun j b h1 h2=>.inr ⟨h1,h2⟩)
   (Region.free_spec hi t1) hbeh hready (.inl ⟨hw,fun w2 hs2=>e1 w2 hs2⟩) (hD _ e3 (a.put o.dst z) w H γ F _ (hX'.put (dy c1) e2) ?_)
  intro j oj hj hun;obtain⟨hun1,hji⟩:=fR hun;rcases hPr j oj hj hun1 with hp|hp
  ·exact .inl hp
  cases hfz:fz with
  |true=>
   refine .inr fun b hb=>?_
   rcases hb with hb|⟨_,hb⟩
   ·exact hp b hb
   ·exact e0 (hf hfz) b hb
  |false=>
   rw[hfz,XG]at t5;have:=WY.1 t5 j (Yi.2 (XU.1 hj).1)
   rw[dT.2 hun1,hj]at this;simp only[YA,XG,XB,beq_iff_eq]at this;rcases this with(this|this)|this
   ·exact absurd this hji
   ·refine .inr fun b hb=>?_
    rcases hb with hb|⟨hb,_⟩
    ·exact hp b hb
    ·rw[this]at hb;cases hb
   ·exact .inl this
 ·refine iw (pI g Q) (A:=fun _=>false) (B:=fun _=>False) (v:=undef) hi (Region.noSelect_spec hs) fuel listed Pr Pr a w (fun j b h=>h) (fun j b _ h2=>h2.elim)
   (Region.free_spec hi t1) (fun j h=>by cases h) hready (.inr ⟨hw,rfl⟩) (hD _ hno (a.put o.dst undef) w H γ F _ hX' (hPr.mono hset (fun _ _ _ h=>h)))
theorem V3{ops:Array Oper}{K:S->Prop}{fuel:Nat}{listed:Array Bool}{i:Nat}(hcs:cs.Ok P)(hC:jy g.nt ops=true)(hun:listed.getD i true=false)
  {D:S->Prop} (hD:∀s,D s->AD P g ops Q K fuel (listed.setIfInBounds i true) s) (h:UL P cs ops.toList i s D) {a:Act} {w:World} {H:FH} {γ:Gam} {F:Nm->Fp} {Pr:Nat->Bs} (hX:RX g s a w H γ F) (hPr:JM ops listed H Pr) :
  lOp P ops (Zx g Q) Pr i (fun a' w'=>∃Pr':Nat->Bs,(∀j b,Pr j b->Pr' j b)/\pi P .any ops (Zx g Q) (fun a w=>∃s',K s'/\R g s' a w) fuel (listed.setIfInBounds i true) Pr' a' w') a w:=by
 have hset:∀j,(listed.setIfInBounds i true).getD j true=false->listed.getD j true=false:=fun j h=>(fR h).1
 unfold UL at h;have hopi:ops.toList[i]? = ops[i]? := by simp
 rw[hopi]at h;unfold lOp;cases hi:ops[i]? with
 |none=>rw[hi]at h;exact h.elim
 |some o=>
  rw[hi]at h;obtain⟨c1,c2⟩:=gO hC hi;dsimp only at h⊢;rcases pX hX h (dy c1) c2 with⟨hw,s',hop,hX'⟩|⟨hw,s',hno,hX'⟩
  ·rw[if_pos hw];by_cases hq:isQ o=true
   ·obtain⟨z,d,B,_,e1,e2,e3⟩:=vT hX' c1 (Jj hq hop);unfold Oper.wp;rw[e1 w (fun _ _=>rfl)];exact⟨fun _ _=>rfl,Pr,fun _ _ h=>h,hD _ e3 (a.put o.dst z) w H γ F Pr (hX'.put (dy c1) e2) (hPr.mono hset (fun _ _ _ h=>h))⟩
   ·have hp:∀b,Pr i b->∃x y,H b x=some y:=by
     rcases hPr i o hi hun with h|h
     ·exact absurd h hq
     ·exact h
    let g':G:=⟨g.nt,w,H,tot F s'.m,g.out,g.ex,g.dfs⟩
    have hX2:RX g' s' a w H γ F:=⟨hX'.mem,Fr.refl' rfl rfl rfl rfl (fun _ h=>h),hX'.nt,⟨hX'.df.1,hX'.df.2.1,ea hX'⟩,hX'.t⟩
    refine bG ?_ (fun _ _ _ h=>?_) (D4 (g:=g') (Q:=fun _ _=>False) hcs c1 hop a w ⟨H,γ,F,hX2⟩)
    ·intro a' w' ⟨s2,hs2,H2,γ2,F2,hX3⟩;have hfr:=hX3.fr
     refine⟨fun b hb=>?_,Pr,fun _ _ h=>h,?_⟩
     ·obtain⟨x,y,hxy⟩:=hp b hb;have hc:=hX'.mem.agree b x y hxy
      refine hfr.block b ?_ ?_
      ·exact hc.lt
      ·show tot F s'.m b=0
       rcases W7 (tot F s'.m b)with h|h
       ·exact h
       ·have:=hX'.mem.nofz b Z1 x
        rw[hxy]at this;cases this
     ·exact hD _ hs2 a' w' H2 γ2 F2 Pr ⟨hX3.mem,hX'.fr.trans hfr,hX3.nt,⟨hX3.df.1,hX3.df.2.1,hX'.df.2.2⟩,hX3.t⟩ (hPr.mono hset hfr.hold)
    ·obtain⟨_,h,_⟩:=h;exact h.elim
  ·rw[if_neg (by rw[hw];simp)];exact⟨Pr,fun _ _ h=>h,hD _ hno (a.put o.dst undef) w H γ F Pr hX' (hPr.mono hset (fun _ _ _ h=>h))⟩
def Pn.size:Pn->Nat
 |.done=>0
 |.take _ _ _ r=>r.size+1
 |.one _ r=>r.size+1
 |.two _ r _ q=>max r.size q.size+1
 |.three _ r _ q _ p=>max r.size (max q.size p.size)+1
theorem M6{a:Act}{w:World}{H:FH}{γ:Gam}{F:Nm->Fp}(hX:RX g s a w H γ F)(w':World)(h1:w'.heap=w.heap)(h2:w'.os=w.os)(h3:w'.tape=w.tape)(h4:w'.output=w.output):RX g s a w' H γ F:=by
 have hsame:∀b,tot F s.m b≠0->w'.heap[b]? = w.heap[b]? := fun b _=>by rw[h1]
 have hKp:=cD (w':=w') hX.mem hsame
 refine fp hX ⟨fun b o y h=>?_,fun x hx=>aN hKp (fun _ _ _ h=>h) rfl (fun b _=>by rw[h1]) (hX.mem.roots x hx),hX.mem.keys,hX.mem.le1,fun b hb=>by rw[h1];exact hX.mem.lt b hb,hX.mem.nofz⟩ (Fr.refl' h1 h2 h3 h4 (fun _ h=>h)) (fun i=>bV hKp (fun _ _ _ h=>h) (hX.t i)) (fun _=>rfl);exact(hX.mem.agree b o y h).frame (by rw[h1])
end
end Go.Am
end
