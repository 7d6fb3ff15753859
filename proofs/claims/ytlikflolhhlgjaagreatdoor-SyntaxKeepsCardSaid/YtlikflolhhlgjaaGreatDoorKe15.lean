/-
  Part 15: AmE8 · AmE9 · AmE10 · AmE11 · AmE12 · AmOldK · AmE14 · AmSw · AmLib · AmPan.
-/
import Derived.Test.YtlikflolhhlgjaaGreatDoorKe14
set_option linter.unusedSimpArgs false
set_option linter.unusedVariables false
set_option linter.unusedSectionVars false
set_option linter.unnecessarySimpa false
section
namespace Go.Am
section
variable {g:G} {a:Act} {w:World}
theorem Mr {s:S} {H:FH} {γ:Gam} {F:Nm->Fp} (h:RX g s a w H γ F):R g s a w:=⟨H,γ,F,h⟩
theorem xv (n:Nm):∀ m:List (Nm×Nat×Rt),bK (dw m n) n=none
 | []=>rfl
 | (k,j,v)::m=>by
  simp only [dw];by_cases h:k=n
  ·rw [if_pos h]; exact xv n m
  ·rw [if_neg h]; simp only [bK]; rw [if_neg h]; exact xv n m
theorem Ic (s:St) (n:Nm):bK (s.fresh n).m n=none:=by
 unfold St.fresh;split
 ·assumption
 ·show bK (bw _ _ (dw s.m n)) n=none
  rw [za,xv]; rfl
theorem yS (s:St) (k:Nat) (sh:List Sh) (u:U):Ext s (zv s k sh u):=by
 unfold zv;split
 ·refine (eX s (gY k)).trans ⟨WZ _,s6 _ _ _ (Wb _),iw _ _ _ (Wb _)⟩
 ·split
  ·refine ((vk s _).trans (eX _ (gY k))).trans ⟨WZ _,s6 _ _ _ (Wb _),iw _ _ _ (Wb _)⟩
  ·exact Ext.refl s
 ·exact Ext.refl s
theorem JI {s:St} (h:R g s.toS a w) (k:Nat) (sh:List Sh) (u:U):R g (zv s k sh u).toS a w:=by
 obtain ⟨H,γ,F,hX⟩:=h;have hn:=rk hX
 unfold zv;split
 ·rename_i hv;obtain ⟨γ',F',h'⟩:=BO hX k (gY k) sh;refine CH ?_ (Mr h');unfold Lx;rw [iO hv];simp only [At.toV,A1.toV,Tt.toT];have e:ae (s.toS.fresh (gY k)).m (gY k)=none:=by
   rw [<- eA hn,show (s.fresh (gY k)).toS.m=toM (s.fresh (gY k)).m from rfl,qe,Ic]; rfl
  rw [e];show SEq ⟨lZ (s.toS.fresh (gY k)).t k _,_⟩ _
  rw [<- eA hn];refine ⟨fun i=>?_,rfl⟩;show aA (lZ _ k _) i=aA ((k,_)::_) i
  rw [fY]; rfl
 ·rename_i n hv;split
  ·rename_i sh' u' l' hne hr;obtain ⟨γ',F',h'⟩:=BO hX k (gY k) sh;refine CH ?_ (Mr h');unfold Lx;rw [iO hv];simp only [At.toV,A1.toV,Tt.toT];rw [show ae s.toS.m n=some (⟨false,[.ow sh' u' l'],none⟩:Rt).toR from bq hr];show SEq ⟨lZ ((s.toS.drop n).fresh (gY k)).t k _,_⟩ _
   rw [<- bx hn,<- eA (JM hn)];refine ⟨fun i=>?_,rfl⟩;show aA (lZ _ k _) i=aA ((k,_)::_) i
   rw [fY]; rfl
  ·exact ⟨H,γ,F,hX⟩
 ·exact ⟨H,γ,F,hX⟩
theorem cO (n:Nm) (us:List U):∀ (sh:List Sh) (off:Nat) (s:St),Ext s (bd s n us sh off)
 | [],_,s=>Ext.refl s
 | .ow sub::r,off,s=>by
  simp only [bd];split
  ·split
   ·rename_i cells hr _ _ u hc hu;have h1:Ext s ⟨s.nx+1,s.t,fK s.m n s.nx ⟨true,cells.set off (.ow sub u []),none⟩⟩:=⟨WZ _,fun _ _ _ h _=>h,dH _ _ (Wb _) _⟩
    exact h1.trans (cO n us r (off+1) _)
   ·exact cO n us r (off+1) s
  ·exact Ext.refl s
 | .fr::r,off,s=>by
  simp only [bd];split
  ·split
   ·exact (rL s _).trans (cO n us r (off+1) _)
   ·exact cO n us r (off+1) s
  ·exact Ext.refl s
theorem JO {s:St} (h:R g s.toS a w) (q:Pl):R g (qk s q).toS a w:=by
 obtain ⟨H,γ,F,hX⟩:=h;obtain ⟨H',F',h'⟩:=rz hX q;exact ⟨H',γ,F',h'⟩
theorem KX {s:St} (h:R g s.toS a w) (v:At):R g (jz s v).toS a w:=by
 obtain ⟨H,γ,F,hX⟩:=h;obtain ⟨H',F',h'⟩:=kB hX v;exact ⟨H',γ,F',h'⟩
theorem cq (n:Nm) (us:List U):∀ (sh:List Sh) (off:Nat) {s:St},R g s.toS a w->R g (bd s n us sh off).toS a w
 | [],_,_,h=>h
 | .ow sub::r,off,s,h=>by
  simp only [bd];split
  ·rename_i cells hr;split
   ·rename_i u hc hu;refine cq n us r (off+1) ?_;obtain ⟨H,γ,F,hX⟩:=h;have h':=JN hX n off sub
    have e:s.toS.ownR n off sub=(⟨s.nx+1,s.t,fK s.m n s.nx ⟨true,cells.set off (.ow sub u []),none⟩⟩:St).toS:=by
     unfold S.ownR;rw [show ae s.toS.m n=some (⟨true,cells,none⟩:Rt).toR from bq hr];have ec:(⟨true,cells,none⟩:Rt).toR.cells[off]? = some .nil:=by
      show (cells.map Tt.toT)[off]? = _
      rw [Wa,hc]; rfl
     show (match (⟨true,cells,none⟩:Rt).toR.cells[off]? with | some .nil=>_ | _=>_)=_
     rw [ec];refine bx.S_ext rfl ?_;show _=toM (fK s.m n s.nx _)
     rw [fo]
     congr 1
     simp only [Rt.toR,holed,WS,Tt.toT];rfl
    rw [<- e];exact Mr h'
   ·exact cq n us r (off+1) h
  ·exact h
 | .fr::r,off,s,h=>by
  simp only [bd];split
  ·split
   ·exact cq n us r (off+1) (JO h _)
   ·exact cq n us r (off+1) h
  ·exact h
theorem mD:∀ (sp:List Sp) (s:St),Ext s (prep sp s)
 | [],s=>Ext.refl s
 | .sl k u::r,s=>(ku s _).trans (mD r _)
 | .ow k sh u::r,s=>(yS s k sh u).trans (mD r _)
 | .rt n sh u::r,s=>(cO n _ (unmark sh) 0 s).trans (mD r _)
theorem u9:∀ (sp:List Sp) {s:St},R g s.toS a w->R g (prep sp s).toS a w
 | [],_,h=>h
 | .sl k u::r,_,h=>u9 r (KX h _)
 | .ow k sh u::r,_,h=>u9 r (JI h k sh u)
 | .rt n sh u::r,_,h=>u9 r (cq n _ (unmark sh) 0 h)
mutual
theorem Sm:∀ {a b:Sh},VC a b=true->a=b
 | .fr,.fr,_=>rfl
 | .ow a,.ow b,h=>by rw [iT (show me a b=true from h)]
theorem iT:∀ {a b:List Sh},me a b=true->a=b
 | [],[],_=>rfl
 | a::r,b::q,h=>by
  simp only [me,V7] at h;rw [Sm h.1,iT h.2]
end
def CL:List Tt->List C->Prop
 | [],[]=>True
 | t::ts,c::cs=>(t=.d c\/(t=.nil/\∃ u',c=.li u' []))/\CL ts cs
 | _,_=>False
theorem JX {u:U} {t:Tt} {x:El u} (h:EQ u t=some x):t=.d (gL u x)\/(t=.nil/\∃ u',gL u x=.li u' []):=by
 unfold EQ at h;split at h
 ·rw [kD h]; exact .inl (by rw [<- kD h])
 ·split at h
  ·simp only [V6] at h; subst h; exact .inr ⟨rfl,_,rfl⟩
  ·cases h
 ·cases h
theorem E3:∀ {us:List U} {ts:List Tt} {x:Fl us},jv us ts=some x->CL ts (dK us x)
 | [],[],_,_=>trivial
 | u::r,c::cs,x,h=>by
  simp only [jv] at h;cases h1:EQ u c with
  | none=>rw [h1] at h; cases h
  | some y=>
   cases h2:jv r cs with
   | none=>rw [h1,h2] at h; cases h
   | some z=>
    rw [h1,h2] at h;simp only [V6] at h;subst h;rw [dK,jB,jh];exact ⟨JX h1,E3 h2⟩
 | [],_::_,_,h=>by simp [jv] at h
 | _::_,[],_,h=>by simp [jv] at h
theorem gX {u:U} {ts:List Tt} {x:El u} (h:je u ts=some x):CL ts (flat u x):=by
 cases u with
 | st n=>
  simp only [je] at h;cases h1:jv (sd n).fs ts with
  | none=>rw [h1] at h; cases h
  | some y=>
   rw [h1] at h;have:=Option.some.inj h
   subst this;show CL ts (dK (sd n).fs ((sd n).un ((sd n).mkF y)))
   rw [(sd n).l2]; exact E3 h1
 | _=>
  cases ts with
  | nil=>cases h
  | cons t r=>cases r with
   | nil=>rw [kg rfl]; exact ⟨JX h,trivial⟩
   | cons _ _=>cases h
theorem uO:∀ {ts:List Tt} {cs:List C},CL ts cs->(cs.map Tt.d).map Tt.toT=(ts.map Tt.toT).map T.canon/\∀ N,∀ t∈ts.map Tt.toT,nU N t
 | [],[],_=>⟨rfl,fun _ _ h=>by simp at h⟩
 | t::ts,c::cs,h=>by
  obtain ⟨h1,h2⟩:=h;obtain ⟨k1,k2⟩:=uO h2;simp only [List.map_cons,k1];rcases h1 with rfl | ⟨rfl,u',rfl⟩
  ·exact ⟨rfl,fun N t ht=>by
    rcases Wk.1 ht with rfl | ht
    ·trivial
    ·exact k2 N t ht⟩
  ·exact ⟨rfl,fun N t ht=>by
    rcases Wk.1 ht with rfl | ht
    ·trivial
    ·exact k2 N t ht⟩
 | [],_::_,h=>h.elim
 | _::_,[],h=>h.elim
theorem vw {u:U} {v:At} {x:El u} (h:mq u v=some x):(yx u x).toV=v.toV.map T.canon/\∀ N,Jh N v.toV:=by
 unfold mq at h;split at h
 ·rename_i y;unfold Qj at h;split at h
  ·rename_i t;split at h
   ·rename_i hl;have hc:=gX h
    rw [kg hl] at hc;obtain ⟨k1,k2⟩:=uO hc;have e:(yx u x)=sct (gL u x):=by cases u <;> first | rfl | cases hl
    rw [e];refine ⟨?_,fun N=>k2 N t.toT (by simp)⟩;have:=congrArg (·[0]?) k1
    simp only [List.map_cons,List.map_nil,W1,V6] at this;simp only [At.toV,A1.toV,AV.map,AV1.map,this]
   ·cases h
  ·rename_i ts;split at h
   ·cases h
   ·rename_i hl;obtain ⟨k1,k2⟩:=uO (gX h);have e:(yx u x)=.one (.agg ((flat u x).map Tt.d)):=by cases u <;> first | rfl | cases hl
    rw [e];exact ⟨by simp only [At.toV,A1.toV,AV.map,AV1.map,k1],fun N=>k2 N⟩
 ·cases h
theorem nN:∀ {sh:List Sh} {cells ts:List Tt} {cs:List C},dL sh cells=some ts->CL ts cs->(au sh cs).map Tt.toT=(cells.map Tt.toT).map T.canon/\∀ N,∀ t∈cells.map Tt.toT,nU N t
 | [],[],ts,cs,h,hc=>by
  simp only [dL,V6] at h;subst h;cases cs with
  | nil=>exact ⟨rfl,fun _ _ h=>by simp at h⟩
  | cons _ _=>exact hc.elim
 | .ow s::r,c::cells,ts,cs,h,hc=>by
  cases c with
  | ow s' u l=>
   simp only [dL] at h;split at h
   ·rename_i ts' hs hr;simp only [V6] at h;subst h;cases cs with
    | nil=>exact hc.elim
    | cons c cs=>
     obtain ⟨h1,h2⟩:=hc;obtain ⟨k1,k2⟩:=nN hr h2;rcases h1 with h1 | ⟨h1,_⟩
     ·simp only [Tt.d.injEq] at h1;subst h1;rw [iT hs];simp only [au,List.map_cons,k1];exact ⟨rfl,fun N t ht=>by
       rcases Wk.1 ht with rfl | ht
       ·trivial
       ·exact k2 N t ht⟩
     ·cases h1
   ·cases h
  | _=>simp [dL] at h
 | .fr::r,c::cells,ts,cs,h,hc=>by
  have go:∀ {t:Tt} {ts':List Tt},c=t->dL r cells=some ts'->ts=t::ts'->(∃ x,t=.d x)\/t=.nil->(au (.fr::r) cs).map Tt.toT=((c::cells).map Tt.toT).map T.canon/\∀ N,∀ t∈(c::cells).map Tt.toT,nU N t:=by
   rintro t ts' rfl hr rfl hk
   cases cs with
   | nil=>exact hc.elim
   | cons c' cs=>
    obtain ⟨h1,h2⟩:=hc;obtain ⟨k1,k2⟩:=nN hr h2;have e:au (.fr::r) (c'::cs)=.d c'::au r cs:=by cases c' <;> rfl
    rw [e];simp only [List.map_cons,k1];rcases h1 with rfl | ⟨rfl,u',rfl⟩
    ·exact ⟨rfl,fun N t ht=>by
      rcases Wk.1 ht with rfl | ht
      ·trivial
      ·exact k2 N t ht⟩
    ·exact ⟨rfl,fun N t ht=>by
      rcases Wk.1 ht with rfl | ht
      ·trivial
      ·exact k2 N t ht⟩
  cases c with
  | d x=>
   simp only [dL] at h;split at h
   ·rename_i ts' hr; exact go rfl hr (Option.some.inj h).symm (.inl ⟨x,rfl⟩)
   ·cases h
  | nil=>
   simp only [dL] at h;split at h
   ·rename_i ts' hr; exact go rfl hr (Option.some.inj h).symm (.inr rfl)
   ·cases h
  | _=>simp [dL] at h
 | [],_::_,_,_,h,_=>by simp [dL] at h
 | .ow _::_,[],_,_,h,_=>by simp [dL] at h
 | .fr::_,[],_,_,h,_=>by simp [dL] at h
theorem NX:∀ {sh:List Sh} {cells ts:List Tt} {cs:List C},fq sh cells=some ts->CL ts cs ->
  (((cz sh cs).map Tt.toT).length=(cells.map Tt.toT).length/\∀ (i:Nat) t t',(cells.map Tt.toT)[i]? = some t->((cz sh cs).map Tt.toT)[i]? = some t'->t'=t\/t'=t.canon)/\∀ N,∀ t∈cells.map Tt.toT,nU N t:=by
 intro sh;induction sh with
 | nil=>
  intro cells ts cs h hc;cases cells with
  | nil=>
   simp only [fq,V6] at h;subst h;cases cs with
   | nil=>exact ⟨⟨rfl,fun i t t' h=>by simp at h⟩,fun _ _ h=>by simp at h⟩
   | cons _ _=>exact hc.elim
  | cons _ _=>simp [fq] at h
 | cons s r ih=>
  intro cells ts cs h hc;cases cells with
  | nil=>cases s with
   | fr=>simp [fq] at h
   | ow a=>cases a <;> simp [fq] at h
  | cons c cells=>
   have go:∀ {t0:Tt} {c':C} {cs':List C} {ts':List Tt},fq r cells=some ts'->CL ts' cs'->cz (s::r) (c'::cs')=t0::cz r cs'->(t0.toT=c.toT\/t0.toT=c.toT.canon)->(∀ N,nU N c.toT) ->
     (((cz (s::r) (c'::cs')).map Tt.toT).length=((c::cells).map Tt.toT).length/\∀ (i:Nat) t t',((c::cells).map Tt.toT)[i]? = some t->((cz (s::r) (c'::cs')).map Tt.toT)[i]? = some t'->t'=t\/t'=t.canon)/\∀ N,∀ t∈(c::cells).map Tt.toT,nU N t:=by
    intro t0 c' cs' ts' h1 h2 h3 h4 h5;obtain ⟨⟨k1,k2⟩,k3⟩:=ih h1 h2;rw [h3];refine ⟨⟨by simp only [List.map_cons,Wp,k1],fun i t t' e1 e2=>?_⟩,fun N t ht=>?_⟩
    ·cases i with
     | zero=>
      simp only [List.map_cons,W1,V6] at e1 e2;rw [<- e1,<- e2]; exact h4
     | succ i=>
      simp only [List.map_cons,W9] at e1 e2;exact k2 i t t' e1 e2
    ·rcases Wk.1 ht with rfl | ht
     ·exact h5 N
     ·exact k3 N t ht
   cases s with
   | fr=>
    have gofr:∀ {t:Tt} {ts':List Tt},c=t->fq r cells=some ts'->ts=t::ts'->(∃ x,t=.d x)\/t=.nil->(((cz (.fr::r) cs).map Tt.toT).length=((c::cells).map Tt.toT).length/\∀ (i:Nat) t t',((c::cells).map Tt.toT)[i]? = some t->((cz (.fr::r) cs).map Tt.toT)[i]? = some t'->t'=t\/t'=t.canon)/\∀ N,∀ t∈(c::cells).map Tt.toT,nU N t:=by
     rintro t ts' rfl hr rfl hk
     cases cs with
     | nil=>exact hc.elim
     | cons c' cs=>
      have e:cz (.fr::r) (c'::cs)=.d c'::cz r cs:=by cases c' <;> rfl
      obtain ⟨h1,h2⟩:=hc;refine go hr h2 e ?_ ?_
      ·rcases h1 with h1 | ⟨h1,u',h1'⟩
       ·rw [h1]; exact .inl rfl
       ·rw [h1,h1']; exact .inr rfl
      ·intro N;rcases hk with ⟨x,hx⟩ | hx
       ·rw [hx]; trivial
       ·rw [hx]; trivial
    cases c with
    | d x=>
     simp only [fq] at h;split at h
     ·rename_i ts' hr; exact gofr rfl hr (Option.some.inj h).symm (.inl ⟨x,rfl⟩)
     ·cases h
    | nil=>
     simp only [fq] at h;split at h
     ·rename_i ts' hr; exact gofr rfl hr (Option.some.inj h).symm (.inr rfl)
     ·cases h
    | _=>simp [fq] at h
   | ow a=>
    cases a with
    | nil=>
     cases c with
     | nil=>
      simp only [fq] at h;split at h
      ·rename_i ts' hr;simp only [V6] at h;subst h;cases cs with
       | nil=>exact hc.elim
       | cons c' cs=>exact go hr hc.2 rfl (.inl rfl) (fun N=>trivial)
      ·cases h
     | _=>simp [fq] at h
    | cons a b=>
     cases c with
     | ow s' u l=>
      simp only [fq] at h;split at h
      ·rename_i ts' hs hr;simp only [V6] at h;subst h;cases cs with
       | nil=>exact hc.elim
       | cons c' cs=>
        obtain ⟨h1,h2⟩:=hc;rcases h1 with h1 | ⟨h1,_⟩
        ·simp only [Tt.d.injEq] at h1;subst h1;refine go hr h2 rfl (.inl ?_) (fun N=>trivial);simp only [Tt.toT];rw [iT hs]
        ·cases h1
      ·cases h
     | _=>simp [fq] at h
theorem iq (k:Nat):∀ t:List (Nat×Nat×At),gtA t k=match bX t k with | some (_,v)=>v | none=>.any
 | []=>rfl
 | (i,j,v)::t=>by
  simp only [gtA,bX];cases Nat.beq i k with
  | true=>rfl
  | false=>exact iq k t
theorem BL {rs:List Nm} {t:Tt} (h:t.inR rs=true):nU rs t.toT:=by
 cases t with
 | pl p=>show p.root∈rs; simpa [Tt.inR] using h
 | rf p=>show p.root∈rs; simpa [Tt.inR] using h
 | _=>trivial
theorem PN {rs:List Nm} {x:A1} (h:x.inR rs=true):wx rs x.toV:=by
 cases x with
 | c t=>exact BL h
 | agg ts=>
  intro t ht;obtain ⟨t',h1,rfl⟩:=WW.1 ht;exact BL (Wj.1 h t' h1)
theorem Uv {rs:List Nm} {x:At} (h:x.inR rs=true):Jh rs x.toV:=by
 cases x with
 | one x=>exact PN h
 | tup xs=>
  intro t ht;obtain ⟨t',h1,rfl⟩:=WW.1 ht;exact PN (Wj.1 h t' h1)
 | any=>trivial
theorem Lu {p:Nat->At->Prop}:∀ {t:List (Nat×Nat×At)},(∀ x∈t,p x.1 x.2.2)->∀ i,gtA t i=.any\/p i (gtA t i)
 | [],_,_=>.inl rfl
 | (k,j,v)::t,h,i=>by
  simp only [gtA];cases hb:Nat.beq k i with
  | true=>have:=Wg hb; subst this; exact .inr (h (k,j,v) (by simp))
  | false=>exact Lu (fun x hx=>h x (Wr _ hx)) i
theorem nn {t:List (Nat×Nat×At)}:∀ {ks:List Nat} {x:Nat×Nat×At},x∈zO t ks->x.1∈ks/\bX t x.1=some x.2
 | [],x,h=>by simp [zO] at h
 | k::r,x,h=>by
  simp only [zO] at h;split at h
  ·rename_i j v hl;rcases Wk.1 h with rfl | h
   ·exact ⟨by simp,hl⟩
   ·have:=nn h; exact ⟨Wr _ this.1,this.2⟩
  ·have:=nn h; exact ⟨Wr _ this.1,this.2⟩
theorem nw {t:List (Nm×Nat×Rt)}:∀ {ks:List Nm} {x:Nm×Nat×Rt},x∈m0 t ks->x.1∈ks/\cQ t x.1=some x.2
 | [],x,h=>by simp [m0] at h
 | k::r,x,h=>by
  simp only [m0] at h;split at h
  ·rename_i j v hl;rcases Wk.1 h with rfl | h
   ·exact ⟨by simp,hl⟩
   ·have:=nw h; exact ⟨Wr _ this.1,this.2⟩
  ·have:=nw h; exact ⟨Wr _ this.1,this.2⟩
theorem CG {s0 s:St} {rs:List Nm}:∀ {ks:List Nat},Q6 s0 s rs ks=true->∀ k∈ks,∃ j v0 v,bX s0.t k=some (j,v0)/\bX s.t k=some (j,v)/\j<s0.nx/\v.inR rs=true
 | [],_,k,hk=>by simp at hk
 | i::r,h,k,hk=>by
  simp only [Q6,V7] at h;rcases Wk.1 hk with rfl | hk
  ·have h1:=h.1
   split at h1
   ·rename_i j v0 j' v e1 e2;simp only [V7] at h1;have:=Wg h1.1.1
    subst this;exact ⟨_,_,_,e1,e2,Wh h1.1.2,h1.2⟩
   ·cases h1
  ·exact CG h.2 k hk
theorem vR {s0 s:St} {rs:List Nm}:∀ {ks:List Nm},Mb s0 s rs ks=true->∀ k∈ks,∃ j v0 v,cQ s0.m k=some (j,v0)/\cQ s.m k=some (j,v)/\j<s0.nx/\v.cells.all (·.inR rs)=true
 | [],_,k,hk=>by simp at hk
 | i::r,h,k,hk=>by
  simp only [Mb,V7] at h;rcases Wk.1 hk with rfl | hk
  ·have h1:=h.1
   split at h1
   ·rename_i j v0 j' v e1 e2;simp only [V7] at h1;have:=Wg h1.1.1
    subst this;exact ⟨_,_,_,e1,e2,Wh h1.1.2,h1.2⟩
   ·cases h1
  ·exact vR h.2 k hk
theorem E8 {s:St} {rs:List Nm}:∀ {ps:List (Nat×Nm×Nat)},Rd s rs ps=true->∀ p∈ps,gtA s.t p.1=.one (.c (.pl ⟨p.2.1,p.2.2,[]⟩))/\p.2.1∈rs
 | [],_,p,hp=>by simp at hp
 | (k,n,o)::r,h,p,hp=>by
  simp only [Rd,V7] at h;rcases Wk.1 hp with rfl | hp
  ·have h1:=h.1
   split at h1
   ·rename_i n' o' hg;simp only [V7,decide_eq_true_eq] at h1;obtain ⟨⟨rfl,h2⟩,h3⟩:=h1;have:=Wg h2
    subst this;exact ⟨hg,by simpa using h3⟩
   ·cases h1
  ·exact E8 h.2 p hp
theorem vf {s0 s:St} {rs:List Nm}:∀ {ks:List Nm},Mb s0 s rs ks=true->(m0 s0.m ks).map (·.1)=ks
 | [],_=>rfl
 | k::r,h=>by
  have hh:=h
  simp only [Mb,V7] at h;obtain ⟨j,v0,v,e1,_⟩:=vR hh k (by simp);simp only [m0,e1,List.map_cons,vf h.2]
theorem nM (nx:Nat):∀ (sp:List Sp) (x:Fl (eC sp)),(ki nx sp x).map (·.1)=sp.flatMap Sp.rn
 | [],_=>rfl
 | .sl k u::r,x=>by simp only [ki,Xm,Sp.rn,XA]; exact nM nx r _
 | .ow k sh u::r,x=>by simp only [ki,Xm,Sp.rn,List.map_cons,List.singleton_append]; rw [nM nx r]
 | .rt n sh u::r,x=>by simp only [ki,Xm,Sp.rn,List.map_cons,List.singleton_append]; rw [nM nx r]
theorem y9:∀ {l:List Nm},B0 l=true->l.Nodup
 | [],_=>List.nodup_nil
 | n::r,h=>by
  simp only [B0,V7,WH,List.contains_eq_mem,decide_eq_false_iff_not] at h;exact Xa.2 ⟨h.1,y9 h.2⟩
theorem PD {s:St} {nx:Nat}:∀ {sp:List Sp} {x:Fl (eC sp)},unS s sp=some x ->
  (∀ y∈s4 nx sp x,(y.2.2.toV=(gtA s.t y.1).toV\/y.2.2.toV=(gtA s.t y.1).toV.map T.canon)/\∀ N,(∀ n∈sp.flatMap Sp.rn,n∈N)->Jh N (gtA s.t y.1).toV) /\
  (∀ y∈ki nx sp x,∃ r,bK s.m y.1=some r/\oc r.toR y.2.2.toR/\∀ N,∀ t∈r.toR.cells,nU N t)
 | [],_,_=>⟨fun y h=>by simp [s4] at h,fun y h=>by simp [ki] at h⟩
 | p::r,x,h=>by
  simp only [unS] at h;cases h1:Rn s p with
  | none=>rw [h1] at h; cases h
  | some a=>
   cases h2:unS s r with
   | none=>rw [h1,h2] at h; cases h
   | some b=>
    rw [h1,h2] at h;simp only [V6] at h;obtain ⟨i1,i2⟩:=PD (nx:=nx) h2;cases p with
    | sl k u=>
     have ha:Fl.hd u (eC r) x=a:=by rw [<- h]; exact jB _ _ _ _
     have hb:Fl.tl u (eC r) x=b:=by rw [<- h]; exact jh _ _ _ _
     refine ⟨fun y hy=>?_,fun y hy=>?_⟩
     ·simp only [s4,ha,hb,Wk] at hy;rcases hy with rfl | hy
      ·obtain ⟨k1,k2⟩:=vw (v:=gtA s.t k) h1;exact ⟨.inr k1,fun N _=>k2 N⟩
      ·obtain ⟨k1,k2⟩:=i1 y hy;exact ⟨k1,fun N hN=>k2 N (fun n hn=>hN n (by simp only [Xm,WT]; exact .inr hn))⟩
     ·simp only [ki,hb] at hy; exact i2 y hy
    | ow k sh u=>
     have ha:Fl.hd (.sl u) (eC r) x=a:=by rw [<- h]; exact jB (.sl u) _ _ _
     have hb:Fl.tl (.sl u) (eC r) x=b:=by rw [<- h]; exact jh (.sl u) _ _ _
     simp only [Rn] at h1;split at h1
     ·rename_i n sh' u' l hv hr;cases hn:decide (n=gY k) <;> cases hsh:me sh sh' <;> rw [hn,hsh] at h1
      ·cases h1
      ·cases h1
      ·cases h1
      ·have hn':n=gY k:=by simpa using hn
       subst hn';obtain ⟨e,rfl⟩:=jW h1;subst e;rw [iT hsh] at *;refine ⟨fun y hy=>?_,fun y hy=>?_⟩
       ·simp only [s4,hb,Wk] at hy;rcases hy with rfl | hy
        ·refine ⟨.inl (by rw [hv]),fun N hN=>?_⟩;rw [hv];exact hN _ (by simp [Xm,Sp.rn])
        ·obtain ⟨k1,k2⟩:=i1 y hy;exact ⟨k1,fun N hN=>k2 N (fun n hn=>hN n (by simp only [Xm,WT]; exact .inr hn))⟩
       ·simp only [ki,ha,hb,Wk] at hy;rcases hy with rfl | hy
        ·exact ⟨_,hr,oc.refl _,fun N t ht=>by simp only [Rt.toR,holed,List.map_cons,List.map_nil,WJ] at ht; subst ht; trivial⟩
        ·exact i2 y hy
     ·cases h1
    | rt n sh u=>
     have ha:Fl.hd u (eC r) x=a:=by rw [<- h]; exact jB _ _ _ _
     have hb:Fl.tl u (eC r) x=b:=by rw [<- h]; exact jh _ _ _ _
     simp only [Rn] at h1;split at h1
     ·rename_i cells hr;split at h1
      ·rename_i ts hts;obtain ⟨k1,k2⟩:=NX hts (gX h1);refine ⟨fun y hy=>?_,fun y hy=>?_⟩
       ·simp only [s4,hb] at hy;obtain ⟨k1,k2⟩:=i1 y hy;exact ⟨k1,fun N hN=>k2 N (fun n hn=>hN n (by simp only [Xm,WT]; exact .inr hn))⟩
       ·simp only [ki,ha,hb,Wk] at hy;rcases hy with rfl | hy
        ·exact ⟨_,hr,⟨rfl,k1.1,k1.2⟩,fun N t ht=>k2 N t ht⟩
        ·exact i2 y hy
      ·cases h1
     ·cases h1
def jn1 (σ:Sg) (s0:St) (J:Fl (eC σ.sp)->Prop) (s:St):Prop:=σ.fit s0 s=true/\∃ x,unS s σ.sp=some x/\J x
theorem PS {σ:Sg} {s0 s1:St} {J:Fl (eC σ.sp)->Prop} (hE1:Ext s0 s1) (h:jn1 σ s0 J s1) (hR1:R g s1.toS a w):∃ v,J v/\R g (σ.st s0 v).toS a w:=by
   obtain ⟨hf,v,hv,h⟩:=h;refine ⟨v,h,?_⟩;obtain ⟨H,γ,F,hX⟩:=hR1;simp only [Sg.fit,V7] at hf;obtain ⟨⟨⟨f1,f2⟩,f3⟩,f4⟩:=hf;obtain ⟨l1,l2⟩:=PD (nx:=s0.nx) hv;have hkeys:(σ.st s0 v).toS.m.map (·.1)=σ.rn:=by
    show (toM (m0 s0.m σ.kr++ki s0.nx σ.sp v)).map (·.1)=_
    simp only [toM,Wo];show (m0 s0.m σ.kr++ki s0.nx σ.sp v).map (·.1)=_
    rw [Xb,vf f4,nM]; rfl
   refine ⟨H,γ,F,Nu hX (by rw [hkeys]; exact y9 f1) (fun x hx=>?_) (fun i=>?_)⟩
   ·rw [hkeys];obtain ⟨y,hy,rfl⟩:=WW.1 (show x∈toM (m0 s0.m σ.kr++ki s0.nx σ.sp v) from hx);rcases WT.1 hy with hy | hy
    ·obtain ⟨hk,hl⟩:=nw hy;obtain ⟨j,v0,v1,e1,e2,e3,e4⟩:=vR f4 y.1 hk;have e5:=hE1.m _ _ _ e2 e3
     rw [hl] at e5;have e6:=Option.some.inj e5
     have eg:bK s1.m y.1=some y.2.2:=by rw [kK,e2]; simp [e6]
     refine ⟨y.2.2.toR,bq eg,oc.refl _,fun t ht=>?_⟩;have hv1:y.2.2=v1:=by rw [e6]
     rw [hv1] at ht;have hH:=xH v1.cells v1.hole
     obtain ⟨i,hi,hit⟩:=List.getElem_of_mem ht;have hlen:=hH.len
     have hi':i<v1.cells.length:=by
      have:(v1.toR.cells).length=v1.cells.length:=hlen
      omega
     rcases hH.nth i _ t (V8 hi') (by rw [<- hit]; exact V8 hi) with e | ⟨_,_,_,_,_,e,_⟩
     ·rw [e]; exact BL (Wj.1 e4 _ (WX hi'))
     ·rw [e]; trivial
    ·obtain ⟨r,k1,k2,k3⟩:=l2 y hy;exact ⟨r.toR,bq k1,k2,k3 _⟩
   ·rw [hkeys];have key:∀ y∈(σ.st s0 v).t,(y.2.2.toV=(gtA s1.t y.1).toV\/y.2.2.toV=(gtA s1.t y.1).toV.map T.canon)/\Jh σ.rn (gtA s1.t y.1).toV:=by
     intro y hy;rcases WT.1 hy with hy | hy
     ·obtain ⟨hk,hl⟩:=nn hy;obtain ⟨j,v0,v1,e1,e2,e3,e4⟩:=CG f3 y.1 hk;have e5:=hE1.t _ _ _ e2 e3
      rw [hl] at e5;have e6:=Option.some.inj e5
      have eg:gtA s1.t y.1=v1:=by rw [iq,e2]
      rw [eg,e6];exact ⟨.inl rfl,Uv e4⟩
     ·rcases WT.1 hy with hy | hy
      ·obtain ⟨p,hp,rfl⟩:=WW.1 hy;obtain ⟨e1,e2⟩:=E8 f2 p hp;dsimp only;rw [e1];exact ⟨.inl rfl,e2⟩
      ·obtain ⟨k1,k2⟩:=l1 y hy;exact ⟨k1,k2 _ (fun n hn=>by unfold Sg.rn; exact List.mem_append_right _ hn)⟩
    have hs1:aA s1.toS.t i=(gtA s1.t i).toV:=cK i s1.t
    have hst:aA (σ.st s0 v).toS.t i=(gtA (σ.st s0 v).t i).toV:=cK i (σ.st s0 v).t
    rw [hs1,hst];rcases Lu (p:=fun i v=>(v.toV=(gtA s1.t i).toV\/v.toV=(gtA s1.t i).toV.map T.canon)/\Jh σ.rn (gtA s1.t i).toV) key i with e | e
    ·rw [e]; exact .inl rfl
    ·exact .inr e
theorem S2 {σ:Sg} {s0 s:St} {J:Fl (eC σ.sp)->Prop} (hE:Ext s0 s) (h:jn σ s0 J s) (hR:R g s.toS a w):∃ v,J v/\R g (σ.st s0 v).toS a w:=by
 unfold jn at h;dsimp only at h;have hR1:=u9 (g:=g) (a:=a) (w:=w) σ.sp hR
 have hE1:=hE.trans (mD σ.sp s)
 split at h
 ·rename_i hf;split at h
  ·rename_i v hv; exact PS hE1 ⟨hf,v,hv,h⟩ hR1
  ·exact h.elim
 ·exact h.elim
theorem zN {k:Nat} {y:Nat×At}:∀ {t:List (Nat×Nat×At)},bX t k=some y->(k,y)∈t
 | [],h=>by cases h
 | (i,j,v)::t,h=>by
  simp only [bX] at h;split at h
  ·rename_i hb;have:=Wg hb
   subst this;rw [<- Option.some.inj h]; simp
  ·exact Wr _ (zN h)
theorem zE {k:Nm} {y:Nat×Rt}:∀ {t:List (Nm×Nat×Rt)},cQ t k=some y->(k,y)∈t
 | [],h=>by cases h
 | (i,j,v)::t,h=>by
  simp only [cQ] at h;split at h
  ·rename_i hb;subst hb;rw [<- Option.some.inj h]; simp
  ·exact Wr _ (zE h)
theorem A6 (nx:Nat):∀ (sp:List Sp) (x:Fl (eC sp)),(∀ y∈s4 nx sp x,y.2.1=nx)/\∀ y∈ki nx sp x,y.2.1=nx
 | [],_=>⟨fun y h=>by simp [s4] at h,fun y h=>by simp [ki] at h⟩
 | .sl k u::r,x=>by
  obtain ⟨h1,h2⟩:=A6 nx r (Fl.tl u (eC r) x);refine ⟨fun y h=>?_,fun y h=>h2 y h⟩;simp only [s4,Wk] at h;rcases h with rfl | h
  ·rfl
  ·exact h1 y h
 | .ow k sh u::r,x=>by
  obtain ⟨h1,h2⟩:=A6 nx r (Fl.tl (.sl u) (eC r) x);refine ⟨fun y h=>?_,fun y h=>?_⟩
  ·simp only [s4,Wk] at h;rcases h with rfl | h
   ·rfl
   ·exact h1 y h
  ·simp only [ki,Wk] at h;rcases h with rfl | h
   ·rfl
   ·exact h2 y h
 | .rt n sh u::r,x=>by
  obtain ⟨h1,h2⟩:=A6 nx r (Fl.tl u (eC r) x);refine ⟨fun y h=>h1 y h,fun y h=>?_⟩;simp only [ki,Wk] at h;rcases h with rfl | h
  ·rfl
  ·exact h2 y h
theorem yg (σ:Sg) (s:St) (x:Fl (eC σ.sp)):Ext s (σ.st s x):=by
 obtain ⟨l1,l2⟩:=A6 s.nx σ.sp x;refine ⟨WZ _,fun k j v h hj=>?_,fun n j r h hj=>?_⟩
 ·have hm:=zN h
  rcases WT.1 hm with hm | hm
  ·exact (nn hm).2
  ·rcases WT.1 hm with hm | hm
   ·obtain ⟨p,_,e⟩:=WW.1 hm;simp only [Prod.mk.injEq] at e;omega
   ·have:=l1 _ hm; dsimp only at this; omega
 ·have hm:=zE h
  rcases WT.1 hm with hm | hm
  ·exact (nw hm).2
  ·have:=l2 _ hm; dsimp only at this; omega
end
end Go.Am
end

section
namespace Go.Am
def jf (nt:Nat):Code->Bool
 | .region _ ops false=>AS nt ops.toList ops.toList
 | .region _ ops true=>jm nt ops&&Region.noSelect ops
 | .seq a b=>jf nt a&&jf nt b
 | .cond (.tmp t) a b=>Nat.blt t 100000&&(jf nt a&&jf nt b)
 | .block _ a=>jf nt a
 | .loop a=>jf nt a
 | _=>true
def LQ (pk:PKt) (K:Kt):Exit->S->Prop
 | .normal,s=>∃ t:St,s=t.toS/\K.n t
 | .exit i,s=>∃ t:St,s=t.toS/\K.x i t
 | .ret,s=>∃ t:St,s=t.toS/\K.r t
 | .panic c,s=>∃ v,∃ t:St,c=chn v/\s=t.toS/\pk v t
 | _,_=>False
theorem S8 {pk:PKt} {K:Kt}:∀ x s,PQ pk x s->LQ pk K x s:=by
 rintro x s ⟨v,t,rfl,rfl,h2⟩
 exact ⟨v,t,rfl,rfl,h2⟩
theorem SL {σ:Sg} {s0 s:St} {J J':Fl (eC σ.sp)->Prop} (hj:∀ v,J v->J' v) (h:jn σ s0 J s):jn σ s0 J' s:=by
 unfold jn at h ⊢;dsimp only at h ⊢;split at h
 ·split at h
  ·exact hj _ h
  ·exact h.elim
 ·exact h.elim
theorem vu {α:Type} {b b':(α->Prop)->α->Prop} (hb:∀ R R':α->Prop,(∀ v,R v->R' v)->∀ v,b R v->b' R' v):∀ n v,lR b n v->lR b' n v
 | 0,_,h=>h.elim
 | n+1,v,h=>hb _ _ (vu hb n) v h
theorem B8 {e:En} (he:e.ok):∀ (c:Code) (an:An) (s:St) (K K':Kt),(∀ s',Ext s s'->K.n s'->K'.n s')->(∀ i s',Ext s s'->K.x i s'->K'.x i s')->(∀ s',Ext s s'->K.r s'->K'.r s')->wpT e an c s K->wpT e an c s K':=by
 intro c;induction c with
 | skip=>intro an s K K' hn hx hr h; simp only [wpT] at h ⊢; exact hn s (Ext.refl s) h
 | exit i=>intro an s K K' hn hx hr h; simp only [wpT] at h ⊢; exact hx i s (Ext.refl s) h
 | ret=>intro an s K K' hn hx hr h; simp only [wpT] at h ⊢; exact hr s (Ext.refl s) h
 | region id ops dr=>
  intro an s K K' hn hx hr h;cases dr with
  | false=>simp only [wpT] at h ⊢; exact xf he hn h
  | true=>simp only [wpT] at h ⊢; exact ix he hn h
 | seq a b iha ihb=>
  intro an s K K' hn hx hr h;cases an with
  | s p q=>
   simp only [wpT] at h ⊢;exact iha p s ⟨fun s'=>wpT e (q.pick s') b s' K,K.x,K.r⟩ ⟨fun s'=>wpT e (q.pick s') b s' K',K'.x,K'.r⟩ (fun s1 h1 hs1=>ihb (q.pick s1) s1 K K' (fun s2 h2=>hn s2 (h1.trans h2)) (fun i s2 h2=>hx i s2 (h1.trans h2)) (fun s2 h2=>hr s2 (h1.trans h2)) hs1) hx hr h
  | j σ p q=>
   simp only [wpT] at h ⊢;intro J hJ;refine iha p s ⟨jn σ s J,K.x,K.r⟩ ⟨jn σ s J,K'.x,K'.r⟩ (fun s1 _ h=>h) hx hr (h J (fun v hv=>hJ v ?_));exact ihb q _ K K' (fun s2 h2=>hn s2 ((yg σ s v).trans h2)) (fun i s2 h2=>hx i s2 ((yg σ s v).trans h2)) (fun s2 h2=>hr s2 ((yg σ s v).trans h2)) hv
  | _=>simp only [wpT] at h
 | cond t a b iha ihb=>
  intro an s K K' hn hx hr h;cases an with
  | c p q=>
   cases t with
   | tmp t=>
    simp only [wpT] at h ⊢;split at h
    ·rename_i c _;cases c
     ·simp only [V9,if_false] at h ⊢; exact ihb q s K K' hn hx hr h
     ·simp only [if_true] at h ⊢; exact iha p s K K' hn hx hr h
    ·exact h.elim
   | _=>simp only [wpT] at h
  | _=>cases t <;> simp only [wpT] at h
 | block id a iha=>
  intro an s K K' hn hx hr h;cases an with
  | b p=>
   simp only [wpT] at h ⊢;refine iha p s ⟨K.n,fun i s'=>match Nat.beq i id with | true=>K.n s' | false=>K.x i s',K.r⟩ ⟨K'.n,fun i s'=>match Nat.beq i id with | true=>K'.n s' | false=>K'.x i s',K'.r⟩ hn (fun i s' hE hs'=>?_) hr h;dsimp only at hs' ⊢;cases hb:Nat.beq i id with
   | true=>rw [hb] at hs'; exact hn s' hE hs'
   | false=>rw [hb] at hs'; exact hx i s' hE hs'
  | _=>simp only [wpT] at h
 | loop a iha=>
  intro an s K K' hn hx hr h;cases an with
  | lp σ p=>
   simp only [wpT] at h ⊢;have hEp:=mD σ.sp s
   generalize prep σ.sp s=s1 at h hEp;split at h
   ·split at h
    ·obtain ⟨n,hl⟩:=h;refine ⟨n,vu (fun R R' hR v hv=>?_) n _ hl⟩;have hE:=hEp.trans (yg σ s1 v)
     exact iha p _ ⟨jn σ s1 R,K.x,K.r⟩ ⟨jn σ s1 R',K'.x,K'.r⟩ (fun s2 _ h=>SL hR h) (fun i s2 h2=>hx i s2 (hE.trans h2)) (fun s2 h2=>hr s2 (hE.trans h2)) hv
    ·exact h.elim
   ·exact h.elim
  | un n p=>
   simp only [wpT] at h ⊢;have key:∀ n (s1:St),Ext s s1->tf (fun R s'=>wpT e p a s' ⟨R,K.x,K.r⟩) n s1->tf (fun R s'=>wpT e p a s' ⟨R,K'.x,K'.r⟩) n s1:=by
    intro n;induction n with
    | zero=>intro s1 _ h; exact h.elim
    | succ n ih=>
     intro s1 hE h;exact iha p s1 ⟨tf (fun R s'=>wpT e p a s' ⟨R,K.x,K.r⟩) n,K.x,K.r⟩ ⟨tf (fun R s'=>wpT e p a s' ⟨R,K'.x,K'.r⟩) n,K'.x,K'.r⟩ (fun s2 h2 hs2=>ih s2 (hE.trans h2) hs2) (fun i s2 h2=>hx i s2 (hE.trans h2)) (fun s2 h2=>hr s2 (hE.trans h2)) h
   exact key n s (Ext.refl s) h
  | _=>simp only [wpT] at h
 | _=>intro an s K K' hn hx hr h; cases an <;> simp only [wpT] at h
theorem qF {P:Program} {g:G} {c:Code} {Q Q':Exit->S->Prop} {s:S} (h:AW P g c Q s) (hq:∀ e s' a w,Q e s'->R g s' a w->∃ s'',Q' e s''/\R g s'' a w):AW P g c Q' s:=fun a w hR=>
 Code.wp_mono (fun e a' w' ⟨s',h1,h2⟩=>hq e s' a' w' h1 h2) (h a w hR)
theorem fS {e:En} (he:e.ok) (hm:e.P.follows .mixedOrders=true) {g:G}:∀ (c:Code) (an:An) (s:St) (K:Kt),jf g.nt c=true->wpT e an c s K->AW e.P g c (LQ e.pk K) s.toS:=by
 intro c;induction c with
 | skip=>intro an s K hc h; simp only [wpT] at h; exact qP ⟨s,rfl,h⟩
 | exit i=>intro an s K hc h; simp only [wpT] at h; exact KD ⟨s,rfl,h⟩
 | ret=>intro an s K hc h; simp only [wpT] at h; exact IZ ⟨s,rfl,h⟩
 | region id ops dr=>
  intro an s K hc h;obtain ⟨l⟩:=ops;cases dr with
  | false=>
   simp only [wpT] at h;exact kf (lw he S8 hc h (fun t ht=>⟨t,rfl,ht⟩))
  | true=>
   simp only [wpT] at h;simp only [jf,V7] at hc;exact NE he S8 hm hc.1 hc.2 (fun t ht=>⟨t,rfl,ht⟩) h
 | seq a b iha ihb=>
  intro an s K hc h;simp only [jf,V7] at hc;cases an with
  | s p q=>
   simp only [wpT] at h;refine mW (AW.mono (iha p s _ hc.1 h) (fun e' s' h'=>?_));cases e' with
   | normal=>obtain ⟨t,rfl,ht⟩:=h'; exact ihb (q.pick t) t K hc.2 ht
   | exit i=>exact h'
   | ret=>exact h'
   | panic c=>exact h'
   | _=>exact h'
  | j σ p q=>
   simp only [wpT] at h;have h1:=h _ (fun v hv=>hv)
   have h2:=B8 he a p s ⟨jn σ s (fun v=>wpT e q b (σ.st s v) K),K.x,K.r⟩ ⟨fun s'=>Ext s s'/\jn σ s (fun v=>wpT e q b (σ.st s v) K) s',K.x,K.r⟩ (fun s' hE hs'=>⟨hE,hs'⟩) (fun _ _ _ h=>h) (fun _ _ h=>h) h1
   refine mW (AW.mono (iha p s _ hc.1 h2) (fun e' s' h'=>?_));cases e' with
   | normal=>
    obtain ⟨t,rfl,hE,ht⟩:=h';intro a' w' hR;obtain ⟨v,hv,hR'⟩:=S2 hE ht hR;exact ihb q _ K hc.2 hv a' w' hR'
   | exit i=>exact h'
   | ret=>exact h'
   | panic c=>exact h'
   | _=>exact h'
  | _=>simp only [wpT] at h
 | cond t a b iha ihb=>
  intro an s K hc h;cases an with
  | c p q=>
   cases t with
   | tmp t=>
    simp only [jf,V7] at hc;simp only [wpT] at h;split at h
    ·rename_i c hcc;refine uI (iO hcc) (fun hb=>?_) (fun hb=>?_) (Wh hc.1)
     ·subst hb; rw [if_pos rfl] at h; exact iha p s K hc.2.1 h
     ·subst hb; rw [if_neg (by simp)] at h; exact ihb q s K hc.2.2 h
    ·exact h.elim
   | _=>simp only [wpT] at h
  | _=>cases t <;> simp only [wpT] at h
 | block id a iha=>
  intro an s K hc h;cases an with
  | b p=>
   simp only [wpT] at h;refine Dz (AW.mono (iha p s _ hc h) (fun e' s' h'=>?_));cases e' with
   | normal=>exact h'
   | exit i=>
    obtain ⟨t,rfl,ht⟩:=h';simp only [vU];dsimp only at ht;cases hb:Nat.beq i id with
    | true=>
     rw [hb] at ht;rw [if_pos (Wg hb)];exact ⟨t,rfl,ht⟩
    | false=>
     rw [hb] at ht;rw [if_neg (fun e=>by rw [e,Nat.beq_refl] at hb; cases hb)];exact ⟨t,rfl,ht⟩
   | ret=>exact h'
   | _=>exact h'
  | _=>simp only [wpT] at h
 | loop a iha=>
  intro an s K hc h;cases an with
  | lp σ p=>
   simp only [wpT] at h;have hRp:∀ a' w',R g s.toS a' w'->R g (prep σ.sp s).toS a' w':=fun a' w' hR=>u9 σ.sp hR
   generalize prep σ.sp s=s1 at h hRp;split at h
   ·rename_i hf;split at h
    ·rename_i x0 hx0;obtain ⟨n,hl⟩:=h;intro a0 w0 hR0;have hj:jn1 σ s1 (fun v=>v=x0) s1:=⟨hf,x0,hx0,rfl⟩
     obtain ⟨v,rfl,hR1⟩:=PS (Ext.refl s1) hj (hRp _ _ hR0);refine B3 (fun n S'=>∃ v,lR (fun R v=>wpT e p a (σ.st s1 v) ⟨jn σ s1 R,K.x,K.r⟩) n v/\S'=(σ.st s1 v).toS) n ⟨v,hl,rfl⟩ (fun n S' hS=>?_) a0 w0 hR1
     ·obtain ⟨v,hv,rfl⟩:=hS;cases n with
      | zero=>exact hv.elim
      | succ n=>
       have h2:=B8 he a p (σ.st s1 v) ⟨jn σ s1 (lR (fun R v=>wpT e p a (σ.st s1 v) ⟨jn σ s1 R,K.x,K.r⟩) n),K.x,K.r⟩ ⟨fun s'=>Ext (σ.st s1 v) s'/\jn σ s1 (lR (fun R v=>wpT e p a (σ.st s1 v) ⟨jn σ s1 R,K.x,K.r⟩) n) s',K.x,K.r⟩ (fun s' hE hs'=>⟨hE,hs'⟩) (fun _ _ _ h=>h) (fun _ _ h=>h) hv
       refine qF (iha p _ _ hc h2) (fun e' s' a' w' h' hR'=>?_);cases e' with
       | normal=>
        obtain ⟨t,rfl,hE,ht⟩:=h';obtain ⟨v',hv',hR2⟩:=S2 ((yg σ s1 v).trans hE) ht hR';exact ⟨_,⟨n,Nat.lt_succ_self n,v',hv',rfl⟩,hR2⟩
       | exit i=>exact ⟨s',h',hR'⟩
       | ret=>exact ⟨s',h',hR'⟩
       | panic c=>exact ⟨s',h',hR'⟩
       | _=>exact h'.elim
    ·exact h.elim
   ·exact h.elim
  | un n p=>
   simp only [wpT] at h;refine B3 (fun n S'=>∃ t:St,S'=t.toS/\tf (fun R s'=>wpT e p a s' ⟨R,K.x,K.r⟩) n t) n ⟨s,rfl,h⟩ (fun n S' hS=>?_);obtain ⟨t,rfl,ht⟩:=hS;cases n with
   | zero=>exact ht.elim
   | succ n=>
    refine qF (iha p t ⟨tf (fun R s'=>wpT e p a s' ⟨R,K.x,K.r⟩) n,K.x,K.r⟩ hc ht) (fun e' s' a' w' h' hR'=>?_);cases e' with
    | normal=>
     obtain ⟨t2,rfl,ht2⟩:=h';exact ⟨_,⟨n,Nat.lt_succ_self n,t2,rfl,ht2⟩,hR'⟩
    | exit i=>exact ⟨s',h',hR'⟩
    | ret=>exact ⟨s',h',hR'⟩
    | panic c=>exact ⟨s',h',hR'⟩
    | _=>exact h'.elim
  | _=>simp only [wpT] at h
 | _=>intro an s K hc h; cases an <;> simp only [wpT] at h
end Go.Am
end

section
namespace Go.Am
def iz:(us:List U)->Fl us->List AV
 | [],_=>[]
 | u::r,x=>(yx u (Fl.hd u r x)).toV::iz r (Fl.tl u r x)
def so:(us:List U)->Fl us->List AV1
 | [],_=>[]
 | u::r,x=>(M8 u (Fl.hd u r x)).toV::so r (Fl.tl u r x)
theorem wX (u:U) (x:El u):yx u x=.one (M8 u x):=by cases u <;> rfl
theorem oN {u:U} {v:At} {x:El u} (h:mq u v=some x):v.noRf=true/\v.toV.isFz=true:=by
 have cl:∀ {ts:List Tt} {cs:List C},CL ts cs->ts.all Tt.noRf=true/\(ts.map Tt.toT).all T.isFz=true:=by
  intro ts;induction ts with
  | nil=>exact fun _=>⟨rfl,rfl⟩
  | cons t ts ih=>
   intro cs hc;cases cs with
   | nil=>exact hc.elim
   | cons c cs=>
    obtain ⟨h1,h2⟩:=ih hc.2;rcases hc.1 with rfl | ⟨rfl,_⟩
    ·exact ⟨by simp only [Wl,h1]; rfl,by simp only [List.map_cons,Wl,h2]; rfl⟩
    ·exact ⟨by simp only [Wl,h1]; rfl,by simp only [List.map_cons,Wl,h2]; rfl⟩
 unfold mq at h;split at h
 ·unfold Qj at h;split at h
  ·split at h
   ·obtain ⟨h1,h2⟩:=cl (gX h);refine ⟨?_,?_⟩
    ·rename_i t _ _; show t.noRf=true; simpa using h1
    ·rename_i t _ _; show t.toT.isFz=true; simpa using h2
   ·cases h
  ·split at h
   ·cases h
   ·obtain ⟨h1,h2⟩:=cl (gX h);exact ⟨h1,h2⟩
 ·cases h
theorem eE:∀ {us:List U} {vs:List At} {x:Fl us},bS us vs=some x->vs.all At.noRf=true/\(vs.map At.toV).all AV.isFz=true/\(vs.map At.toV).map (AV.map T.canon)=iz us x
 | [],[],_,_=>⟨rfl,rfl,rfl⟩
 | u::r,v::vs,x,h=>by
  simp only [bS] at h;cases h1:mq u v with
  | none=>rw [h1] at h; cases h
  | some a=>
   cases h2:bS r vs with
   | none=>rw [h1,h2] at h; cases h
   | some b=>
    rw [h1,h2] at h;simp only [V6] at h;subst h;obtain ⟨i1,i2,i3⟩:=eE h2;obtain ⟨k1,k2⟩:=oN h1;refine ⟨by simp only [Wl,k1,i1,Bool.and_self],by simp only [List.map_cons,Wl,k2,i2,Bool.and_self],?_⟩;simp only [List.map_cons,iz,jB,jh,i3,(vw h1).1]
 | [],_::_,_,h=>by simp [bS] at h
 | _::_,[],_,h=>by simp [bS] at h
section
variable {P:Program}
theorem gk {s:St} {ops:List Operand} (h:ops.all aX=true):ops.map (ev s.toS)=(ops.map (evA s)).map At.toV:=by
 rw [Wo];exact Ws fun x hx=>ax (Wj.1 h x hx)
theorem mR {f:Nat} {φ:List AV->(AV->Prop)->Prop} {ps rs:List U} {pre:Fl ps->Prop} {F:Fl ps->Fl rs} (hφ:∀ x K,pre x->K (dF rs (F x)).toV->φ (iz ps x) K) (h:Con P f (oo φ)):Cont P f (fe ps rs pre F):=by
 refine ⟨h.run,fun pk s ops k k' hk hc=>?_,fun g pk s a w H γ F1 ops k hX hops hc=>?_⟩
 ·unfold fe at hc ⊢;dsimp only at hc ⊢;split at hc
  ·exact ⟨hc.1,hk _ _ (cv _ _) hc.2⟩
  ·exact hc.elim
 ·unfold fe at hc;dsimp only at hc;obtain ⟨H1,F2,h1⟩:=db (ops.map (evA s)) s H F1 hX;generalize b9 s (ops.map (evA s))=s1 at hc h1;split at hc
  ·rename_i x hx;obtain ⟨c1,c2,c3⟩:=eE hx;refine Calls.mono (h.call g s1.toS a w H1 γ F2 ops (fun s' av=>∃ t v',SEq s' t.toS/\av=v'.toV/\k t v') h1 hops ?_) ?_
   ·unfold oo;dsimp only;rw [gk hops,fJ c1];have e:(ops.map fun x=>(ev s1.toS x).map T.canon)=(ops.map (ev s1.toS)).map (AV.map T.canon):=by rw [Wo]; rfl
    rw [e,gk hops];refine ⟨c2,?_⟩;rw [c3];exact hφ x _ hc.1 ⟨s1,_,⟨fun _=>rfl,rfl⟩,rfl,hc.2⟩
   ·rintro e w' ⟨r,s',av,H',γ',F',k1,⟨t,v',e1,rfl,k2⟩,k3,k4⟩
    refine .inl ⟨r,t,v',H',γ',F',k1,k2,?_,dO e1 k4⟩;rw [e1.2] at k3;exact k3
  ·exact hc.elim
theorem uD {f:Nat} {ps rs:List U} {F:Fl ps->Fl rs} (h:Cont P f (fe ps rs (fun _=>True) F)):Cont P f (aE ps rs F):=by
 have e:∀ pk s ops k,aE ps rs F pk s ops k->fe ps rs (fun _=>True) F pk s ops k:=by
  intro pk s ops k hc;unfold aE at hc;unfold fe;dsimp only at hc ⊢;split at hc
  ·exact ⟨trivial,hc⟩
  ·exact hc.elim
 refine ⟨h.run,fun pk s ops k k' hk hc=>?_,fun g pk s a w H γ F1 ops k hX hops hc=>h.call g pk s a w H γ F1 ops k hX hops (e _ _ _ _ hc)⟩;unfold aE at hc ⊢;dsimp only at hc ⊢;split at hc
 ·exact hk _ _ (cv _ _) hc
 ·exact hc.elim
theorem cu {s:St}:∀ {rs:List ResultVar} {k:List At->Prop},(∀ vs,¬ k vs)->¬ dp P s rs k
 | [],k,hk,h=>hk _ h
 | r::rs,k,hk,h=>by
  have key:∀ v,¬ dp P s rs (fun vs=>k (v::vs)):=fun v=>cu fun vs=>hk _
  simp only [dp] at h;unfold nJ at h;cases r with
  | tmp t=>exact key _ h
  | cell a t=>
   dsimp only at h;split at h
   ·split at h
    ·split at h
     ·exact loadT_false key h
     ·exact h
    ·exact h
   ·exact h
where
 loadT_false {m:List (Nm×Nat×Rt)} {t:TypeId} {x:At} {k:At->Prop} (hk:∀ v,¬ k v) (h:ou P m t x k):False:=by
  unfold ou at h;split at h
  ·split at h
   ·split at h <;> split at h <;> first | exact hk _ h | exact h
   ·split at h
    ·exact hk _ h.2
    ·exact h
   ·split at h <;> split at h <;> first | exact hk _ h | exact h
   ·exact h
  ·exact h
theorem gC {s:St} (hop:∀ p i,gtA s.t i=.one (.c (.pl p))->okP (toM s.m) p):∀ {rs:List ResultVar} {us:List U} {K:Fl us->Prop} {k:List At->Prop},(∀ vs,k vs->∃ x,bS us vs=some x/\K x)->dp P s rs k ->
  en P s.toS rs (fun xs=>∃ x:Fl us,xs.map (·.map T.canon)=so us x/\xs.all AV1.isFz=true/\K x)
 | [],us,K,k,hk,h=>by
  obtain ⟨x,hx,hK⟩:=hk _ h;cases us with
  | nil=>exact ⟨x,rfl,rfl,hK⟩
  | cons u us=>simp [bS] at hx
 | r::rs,us,K,k,hk,h=>by
  simp only [dp] at h;simp only [en];have step:∀ {v:At},dp P s rs (fun vs=>k (v::vs))->(match v.toV with
    | .one x=>en P s.toS rs fun xs=>∃ y:Fl us,(x::xs).map (·.map T.canon)=so us y/\(x::xs).all AV1.isFz=true/\K y
    | _=>False):=by
   intro v hv;cases us with
   | nil=>exact (cu (fun vs hvs=>by obtain ⟨x,hx,_⟩:=hk _ hvs; simp [bS] at hx) hv).elim
   | cons u us=>
    cases hc:mq u v with
    | none=>exact (cu (fun vs hvs=>by obtain ⟨x,hx,_⟩:=hk _ hvs; simp only [bS,hc] at hx; cases hx) hv).elim
    | some a=>
     obtain ⟨c1,_⟩:=vw hc;obtain ⟨_,c3⟩:=oN hc;have ih:=gC hop (us:=us) (K:=fun y=>K (Fl.cons u us a y)) (fun vs hvs=>by
      obtain ⟨x,hx,hK⟩:=hk _ hvs;simp only [bS,hc] at hx;cases h2:bS us vs with
      | none=>rw [h2] at hx; cases hx
      | some b=>rw [h2] at hx; simp only [V6] at hx; subst hx; exact ⟨b,rfl,hK⟩) hv
     rw [wX] at c1;cases v with
     | one x=>
      refine resGets_mono ?_ ih;rintro xs ⟨y,e1,e2,hK⟩
      refine ⟨_,?_,?_,hK⟩
      ·simp only [List.map_cons,so,jB,jh,e1];simp only [At.toV,AV.map,AV.one.injEq] at c1;rw [c1]
      ·simp only [Wl,e2,Xe]; exact c3
     | tup _=>simp [mq] at hc
     | any=>simp [mq] at hc
  cases r with
  | tmp t=>
   simp only [nJ] at h;simp only [rQ];rw [show aA s.toS.t t=(gtA s.t t).toV from cK t s.t];exact step h
  | cell a t=>
   simp only [nJ] at h;simp only [rQ];split at h
   ·rename_i p hp;split at h
    ·split at h
     ·have hl:=CU (m:=s.m) (x:=gtA s.t a) (fun q hq=>hop q a hq) h
      rw [show aA s.toS.t a=(gtA s.t a).toV from cK a s.t];refine loadK_mono ?_ hl;rintro _ ⟨v,rfl,hv⟩
      exact step hv
     ·exact h.elim
    ·exact h.elim
   ·exact h.elim
where
 loadK_mono {m:Mm} {t:TypeId} {x:AV} {k k':AV->Prop} (hk:∀ v,k v->k' v) (h:ro P m t x k):ro P m t x k':=by
  unfold ro at h ⊢;refine ⟨h.1,?_⟩
  replace h:=h.2
  split at h
  ·split at h
   ·rename_i ha; rw [if_pos ha]; exact ⟨h.1,fun hh=>hk _ (h.2 hh)⟩
   ·rename_i ha;rw [if_neg ha];split at h
    ·exact fun hh=>hk _ (h hh)
    ·exact h.elim
  ·split at h
   ·rename_i ha; rw [if_pos ha]; exact atK_mono (fun ts hts hh=>hk _ (hts hh)) h
   ·rename_i ha;rw [if_neg ha];refine atK_mono (fun ts hts=>?_) h;split at hts
    ·exact fun hh=>hk _ (hts hh)
    ·exact hts.elim
  ·exact h.elim
 atK_mono {m:Mm} {p:Pl} {n:Nat} {k k':List T->Prop} (hk:∀ v,k v->k' v) (h:atK m p n k):atK m p n k':=by
  unfold atK at h ⊢;split at h
  ·exact h.elim
  ·split at h
   ·exact ⟨h.1,hk _ h.2⟩
   ·exact inK_mono hk h
   ·exact h.elim
 inK_mono {k k':List T->Prop} (hk:∀ v,k v->k' v):∀ {path:List Step} {sub:List Sh} {l:List (List D)} {n:Nat},inK sub l n path k->inK sub l n path k'
  | [],_,_,_,h=>h.elim
  | [st],sub,l,n,h=>by
   simp only [inK] at h ⊢;refine ⟨h.1,?_⟩
   replace h:=h.2
   split at h
   ·exact hk _ h
   ·exact h.elim
  | st::st'::r,sub,l,n,h=>by
   simp only [inK] at h ⊢;split at h
   ·split at h
    ·exact inK_mono hk h
    ·exact h.elim
   ·exact h.elim
 resGets_mono {s:S}:∀ {rs:List ResultVar} {k k':List AV1->Prop},(∀ v,k v->k' v)->en P s rs k->en P s rs k'
  | [],k,k',hk,h=>hk _ h
  | r::rs,k,k',hk,h=>by
   simp only [en] at h ⊢;have st:∀ v:AV,(match v with | .one x=>en P s rs fun xs=>k (x::xs) | _=>False)->(match v with | .one x=>en P s rs fun xs=>k' (x::xs) | _=>False):=by
    intro v hv;cases v with
    | one x=>exact resGets_mono (fun xs=>hk _) hv
    | _=>exact hv
   cases r with
   | tmp t=>exact st _ h
   | cell a t=>exact loadK_mono st h
theorem A9 {s:S} {rs:List ResultVar} {us:List U} {K:AV->Prop} {Q:Fl us->Prop} (hfrz:eH s rs=s) (hQ:∀ x,Q x->K (dF us x).toV) (h:en P s rs (fun xs=>∃ x:Fl us,xs.map (·.map T.canon)=so us x/\xs.all AV1.isFz=true/\Q x)):sx P s rs K:=by
 unfold sx;rw [hfrz];refine gC.resGets_mono ?_ h;rintro xs ⟨x,e1,e2,hq⟩
 have hK:=hQ x hq
 have resL_eq:∀ (us:List U) (x:Fl us),(dF.resL us x).map A1.toV=so us x:=by
  intro us;induction us with
  | nil=>intro _; rfl
  | cons u r ih=>intro x; simp only [dF.resL,List.map_cons,so,ih]
 match xs,e2,us,x,e1,hK with
 | [],_,[],x,_,hK=>exact ⟨rfl,hK⟩
 | [y],e2,[u],x,e1,hK=>
  simp only [List.map_cons,List.map_nil,so,List.cons.injEq,and_true] at e1;refine ⟨by simpa using e2,?_⟩;rw [e1];have:(dF [u] x).toV=.one (M8 u (Fl.hd u [] x)).toV:=by show (yx u x).toV=_; rw [wX]; rfl
  rw [<- this]; exact hK
 | y::y'::ys,e2,u::v::r,x,e1,hK=>
  refine ⟨e2,?_⟩;rw [e1,<- resL_eq]; exact hK
 | [],_,_::_,_,e1,_=>simp [so] at e1
 | [_],_,[],_,e1,_=>simp [so] at e1
 | [_],_,_::_::_,_,e1,_=>simp [so] at e1
 | _::_::_,_,[],_,e1,_=>simp [so] at e1
 | _::_::_,_,[_],_,e1,_=>simp [so] at e1
end
end Go.Am
end

section
namespace Go.Am
section
variable {P:Program}
theorem Pe {m:List (Nm×Nat×Rt)} {t:TypeId} {x:At} {k:At->Prop} (h:ou P m t x k):∃ v,k v:=by
 rcases Classical.em (∃ v,k v) with hh | hh
 ·exact hh
 ·exact (cu.loadT_false (fun v hv=>hh ⟨v,hv⟩) h).elim
theorem Nr {t:Tt} (h:t.owned=false):∀ sub l,t.toT≠.ow sub l:=by
 cases t with
 | ow _ _ _=>cases h
 | _=>intro _ _ h; cases h
theorem wC {s:St} {n:Nm} {r:Rt} (hr:bK s.m n=some r) (hh:r.hole=none) (hc:r.cells.all (fun t=>!t.owned)=true):∀ i,kP s.toS n i=s.toS
 | 0=>rfl
 | i+1=>by
  simp only [kP];rw [wC hr hh hc i];unfold DT;have e:aU s.toS.m ⟨n,i,[]⟩=(r.cells.map Tt.toT)[i]? := by
   unfold aU;rw [show ae s.toS.m n=some r.toR from bq hr];show (holed (r.cells.map Tt.toT) r.hole)[i]? = _
   rw [hh]; rfl
  rw [e,Wa];cases hi:r.cells[i]? with
  | none=>rfl
  | some t=>
   have:=Wj.1 hc t (WC hi)
   have ho:t.owned=false:=by simpa using this
   have hne:=Nr ho
   simp only [Option.map_some];cases ht:t.toT with
   | ow sub l=>exact (hne _ _ ht).elim
   | _=>rfl
theorem lH {s:St}:∀ {rs:List ResultVar} {us:List U} {k:List At->Prop},(∀ vs,k vs->∃ x,bS us vs=some x)->dp P s rs k->eH s.toS rs=s.toS
 | [],_,_,_,_=>rfl
 | r::rs,us,k,hk,h=>by
  simp only [dp] at h;have step:∀ {v:At},dp P s rs (fun vs=>k (v::vs))->v.noRf=true/\eH s.toS rs=s.toS:=by
   intro v hv;cases us with
   | nil=>exact (cu (fun vs hvs=>by obtain ⟨x,hx⟩:=hk _ hvs; simp [bS] at hx) hv).elim
   | cons u us=>
    cases hc:mq u v with
    | none=>exact (cu (fun vs hvs=>by obtain ⟨x,hx⟩:=hk _ hvs; simp only [bS,hc] at hx; cases hx) hv).elim
    | some a=>
     exact ⟨(oN hc).1,lH (us:=us) (fun vs hvs=>by
      obtain ⟨x,hx⟩:=hk _ hvs;simp only [bS,hc] at hx;cases h2:bS us vs with
      | none=>rw [h2] at hx; cases hx
      | some b=>exact ⟨b,rfl⟩) hv⟩
  simp only [eH];cases r with
  | tmp t=>
   simp only [nJ] at h;obtain ⟨h1,h2⟩:=step h;have e:mB s.toS (.tmp t)=s.toS:=by
    simp only [mB];rw [show aA s.toS.t t=(gtA s.t t).toV from cK t s.t];exact sN h1
   rw [e]; exact h2
  | cell a t=>
   simp only [nJ] at h;split at h
   ·rename_i p hp;split at h
    ·rename_i r hr;split at h
     ·rename_i hb;simp only [V7,Option.isNone_iff_eq_none] at hb;obtain ⟨v,hv⟩:=Pe h;have e:mB s.toS (.cell a t)=s.toS:=by
       simp only [mB];rw [iO hp];simp only [At.toV,A1.toV,Tt.toT];rw [show ae s.toS.m p.root=some r.toR from bq hr];exact wC hr hb.1 hb.2 _
      rw [e]; exact (step hv).2
     ·exact h.elim
    ·exact h.elim
   ·exact h.elim
variable {g:G} {a:Act} {w:World}
theorem wZ {s:St} (h:R g s.toS a w) (n:Nm):∀ i,R g (vW s n i).toS a w
 | 0=>h
 | i+1=>JO (wZ h n i) _
theorem MD {s:St} (h:R g s.toS a w) (r:ResultVar):R g (B2 s r).toS a w:=by
 cases r with
 | tmp t=>exact KX h _
 | cell a' t=>
  simp only [B2];split
  ·split
   ·exact wZ h _ _
   ·exact h
  ·exact h
theorem lG:∀ (rs:List ResultVar) {s:St},R g s.toS a w->R g (ke s rs).toS a w
 | [],_,h=>h
 | r::rs,_,h=>lG rs (MD h r)
theorem OX {s:St} (h:R g s.toS a w):∀ p i,gtA s.t i=.one (.c (.pl p))->okP (toM s.m) p:=by
 intro p i e;obtain ⟨H,γ,F,hX⟩:=h;have:=hX.t i
 rw [iO e] at this;obtain ⟨_,h1,_⟩:=this;exact NJ h1
theorem qd {rs:List ResultVar} {us:List U} {KK:Fl us->Prop} {K:AV->Prop} {t:St} (hK:∀ r,KK r->K (dF us r).toV) (h:qA P rs us KK t) (hR:R g t.toS a w):∃ s'',sx P s'' rs K/\R g s'' a w:=by
 unfold qA at h;have hR1:=lG rs hR
 refine ⟨_,A9 (us:=us) (Q:=KK) (lH (us:=us) ?_ h) hK (gC (OX hR1) ?_ h),hR1⟩
 ·intro vs hvs;split at hvs
  ·rename_i x hx; exact ⟨x,hx⟩
  ·exact hvs.elim
 ·intro vs hvs;split at hvs
  ·rename_i x hx; exact ⟨x,hx,hvs⟩
  ·exact hvs.elim
theorem i9:∀ (i:Nat) (us:List U) (x:Fl us),(yH i us x).map (fun y=>(y.1,y.2.2.toV))=aW i (iz us x)
 | _,[],_=>rfl
 | i,u::r,x=>by simp only [yH,List.map_cons,iz,aW,i9 (i+1) r]
theorem dP:∀ (us:List U) (x:Fl us),(iz us x).length=us.length
 | [],_=>rfl
 | u::r,x=>by simp only [iz,Wp,dP r]
end
theorem zG {e:En} (he:e.ok) (hm:e.P.follows .mixedOrders=true) {f:Nat} {fn:Func} (hf:e.P.funcs[f]? = some fn) (hname:(fn.name == "runtime.NumGoroutine")=false) (hb:fn.body.isSome=true) {an:An} {ps rs:List U} {pre:Fl ps->Prop} {F:Fl ps->Fl rs}
  (hlen:Nat.ble ps.length fn.ntmps=true) (hc:jf fn.ntmps (fn.body.getD .skip)=true) (law:∀ x,pre x->∀ KK:Fl rs->Prop,KK (F x)->bc e fn an ps rs x KK):Cont e.P f (fe ps rs pre F):=by
 have hb':fn.body=some (fn.body.getD .skip):=by cases h:fn.body with
  | none=>rw [h] at hb; cases hb
  | some c=>rfl
 refine mR (φ:=fun avs K=>∃ x:Fl ps,avs=iz ps x/\pre x/\K (dF rs (F x)).toV) (fun x K hp hk=>⟨x,rfl,hp,hk⟩)
  (vp hf hname hb' _ (fun avs K ⟨x,hx,_,_⟩=>by rw [hx,dP]; exact Wh hlen) (fun g avs K hg ⟨x,hx,hp,hk⟩=>?_))
 subst hx;have h:=law x hp (fun r=>r=F x) rfl
 have h1:=fS (e:=⟨e.P,e.E,e.cs,e.sh,fun _ _=>False⟩) he hm (g:=g) _ an (IV ps x) _ (by rw [hg]; exact hc) h
 have e0:(IV ps x).toS=⟨aW 0 (iz ps x),[]⟩:=bx.S_ext (i9 0 ps x) rfl
 rw [e0] at h1;refine qF h1 (fun ex s' a w h' hR=>?_);cases ex with
 | normal=>
  obtain ⟨t,rfl,ht⟩:=h';exact qd (fun r hr=>by rw [hr]; exact hk) ht hR
 | ret=>
  obtain ⟨t,rfl,ht⟩:=h';exact qd (fun r hr=>by rw [hr]; exact hk) ht hR
 | exit i=>exact h'.elim (fun t ht=>ht.2.elim)
 | panic c=>obtain ⟨_,_,_,_,hf⟩:=h'; exact hf.elim
 | _=>exact h'.elim
theorem I3 {e:En} (he:e.ok) (hm:e.P.follows .mixedOrders=true) {f:Nat} {fn:Func} (hf:e.P.funcs[f]? = some fn) (hname:(fn.name == "runtime.NumGoroutine")=false) (hb:fn.body.isSome=true) {an:An} {ps rs:List U} {F:Fl ps->Fl rs}
  (hlen:Nat.ble ps.length fn.ntmps=true) (hc:jf fn.ntmps (fn.body.getD .skip)=true) (law:∀ x,∀ KK:Fl rs->Prop,KK (F x)->bc e fn an ps rs x KK):Cont e.P f (aE ps rs F):=
 uD (zG he hm hf hname hb hlen hc (fun x _=>law x))
end Go.Am
end

section
namespace Go.Am
section
variable {P:Program} {g:G} {a:Act} {w:World} {H:FH} {γ:Gam} {F:Nm->Fp}
theorem AY {m:Mm} {t:T} {f:Fp} {v:Value} (h:TR w H γ m t f v):nU (m.map (·.1)) t:=by
 have key:∀ {n:Nm} {r:Root},ae m n=some r->n∈m.map (·.1):=fun h=>WI (f:=(·.1)) (am h)
 cases t with
 | pl p=>
  obtain ⟨_,h1,_⟩:=h;unfold bA at h1;split at h1
  ·exact h1.elim
  ·rename_i hr; exact key hr
 | rf p=>
  obtain ⟨_,h1,_⟩:=h;unfold fl at h1;split at h1
  ·exact h1.elim
  ·rename_i hr; exact key hr
 | _=>trivial
theorem KM {m:Mm} {x:AV1} {y:Value} (h:AR1 w H γ m x y):wx (m.map (·.1)) x:=by
 cases x with
 | c t=>exact AY h
 | agg ts=>
  obtain ⟨cs,_,_,h1⟩:=h;intro t ht;obtain ⟨i,hi,e⟩:=List.getElem_of_mem ht;obtain ⟨v,g',_,h2,_⟩:=BN h1 (i:=i) (t:=t) (by rw [V8 hi,e]);exact AY h2
theorem T5 {m:Mm} {x:AV} {y:Value} (h:AR w H γ m x y):Jh (m.map (·.1)) x:=by
 cases x with
 | one x=>exact KM h
 | tup xs=>
  obtain ⟨l,_,h1⟩:=h;have:∀ (xs:List AV1) (ys:List Value),ARs w H γ m xs ys->∀ x∈xs,wx (m.map (·.1)) x:=by
   intro xs;induction xs with
   | nil=>intro _ _ x hx; simp at hx
   | cons x xs ih=>
    intro ys h z hz;cases ys with
    | nil=>exact h.elim
    | cons y ys=>
     rcases Wk.1 hz with rfl | hz
     ·exact KM h.1
     ·exact ih ys h.2 z hz
  exact this xs _ h1
 | any=>trivial
theorem Nq {m:Mm} {n:Nm} {r:Root} {f:Fp} (h:be w H γ m n r f):∀ t∈r.cells,nU (m.map (·.1)) t:=by
 intro t ht;unfold be at h;split at h
 ·obtain ⟨b,cs,ty,fz,g',_,_,_,_,h1,_⟩:=h;obtain ⟨i,hi,e⟩:=List.getElem_of_mem ht;obtain ⟨v,g'',_,h2,_⟩:=BN h1 (i:=i) (t:=t) (by rw [V8 hi,e]);exact AY h2
 ·obtain ⟨v,t',_,h1,h2⟩:=h;rw [h1] at ht;simp only [WJ] at ht;subst ht;exact AY h2
theorem nl {s:S} (hX:RX g s a w H γ F) (n:Nm):RX g ⟨s.t,s.m.map fun x=>(x.1,if x.1=n then fp x.2 else x.2)⟩ a w H γ F:=by
 have hk:(s.m.map fun x=>(x.1,if x.1=n then fp x.2 else x.2)).map (·.1)=s.m.map (·.1):=by rw [Wo]; rfl
 refine Nu hX (by rw [hk]; exact hX.mem.keys) (fun x hx=>?_) (fun i=>.inr ⟨.inl rfl,by rw [hk]; exact T5 (hX.t i)⟩);rw [hk];obtain ⟨y,hy,rfl⟩:=WW.1 hx;refine ⟨y.2,oR hX.mem.keys hy,?_,Nq (hX.mem.roots y hy)⟩;dsimp only;split
 ·exact oc.canon _
 ·exact oc.refl _
theorem fT {sh:List Sh} {cells ts:List Tt} {j:Nm} (h:dL sh cells=some ts):(cells.map Tt.toT).all (T.self j)=true/\∀ r:Nm,(cells.map Tt.toT).map (T.ren r j)=cells.map Tt.toT:=by
 induction cells generalizing sh ts with
 | nil=>exact ⟨rfl,fun _=>rfl⟩
 | cons c cells ih=>
  cases sh with
  | nil=>simp [dL] at h
  | cons s sh=>
   have key:∀ {ts'},dL sh cells=some ts'->(T.self j c.toT=true/\∀ r,T.ren r j c.toT=c.toT)->((c::cells).map Tt.toT).all (T.self j)=true/\∀ r:Nm,((c::cells).map Tt.toT).map (T.ren r j)=(c::cells).map Tt.toT:=by
    intro ts' h1 h2;obtain ⟨i1,i2⟩:=ih h1;exact ⟨by simp only [List.map_cons,Wl,h2.1,i1,Bool.and_self],fun r=>by rw [List.map_cons,List.map_cons,h2.2 r,i2 r]⟩
   cases s with
   | fr=>
    cases c with
    | d x=>
     simp only [dL] at h;split at h
     ·rename_i hr; exact key hr ⟨rfl,fun _=>rfl⟩
     ·cases h
    | nil=>
     simp only [dL] at h;split at h
     ·rename_i hr; exact key hr ⟨rfl,fun _=>rfl⟩
     ·cases h
    | _=>simp [dL] at h
   | ow sub=>
    cases c with
    | ow s' u l=>
     simp only [dL] at h;split at h
     ·rename_i hr; exact key hr ⟨rfl,fun _=>rfl⟩
     ·cases h
    | _=>simp [dL] at h
theorem sR {a b:Nm}:∀ {ts:List T} {sh:List Sh} {cs:List C},ts.map T.canon=(au sh cs).map Tt.toT->ts.map (T.ren a b)=ts
 | [],_,_,_=>rfl
 | t::ts,sh,cs,h=>by
  cases sh with
  | nil=>simp [au] at h
  | cons s r=>cases cs with
   | nil=>cases s <;> simp [au] at h
   | cons c cs=>
    have hd:∃ t0:Tt,(∀ p,t0≠.pl p)/\au (s::r) (c::cs)=t0::au r cs:=by
     cases s with
     | fr=>exact ⟨.d c,(fun _ h=>by cases h),(by cases c <;> rfl)⟩
     | ow sub=>cases c with
      | li u l=>exact ⟨.ow sub u l,(fun _ h=>by cases h),rfl⟩
      | _=>exact ⟨.d _,(fun _ h=>by cases h),rfl⟩
    obtain ⟨t0,h0,h1⟩:=hd;rw [h1] at h;simp only [List.map_cons,List.cons.injEq] at h;rw [List.map_cons,sR h.2]
    congr 1
    cases t with
    | pl p=>
     have:=h.1
     cases t0 with
     | pl q=>exact (h0 q rfl).elim
     | _=>simp [T.canon,Tt.toT] at this
    | _=>rfl
theorem KW:∀ (us:List U) (x:Fl us),(dF us x).toV.isFz=true:=by
 have one:∀ (u:U) (x:El u),(M8 u x).toV.isFz=true:=by
  intro u x;cases u with
  | st n=>simp only [M8,A1.toV,AV1.isFz,Wo,XK]; exact Wj.2 fun _ _=>rfl
  | _=>rfl
 have all:∀ (us:List U) (x:Fl us),((dF.resL us x).map A1.toV).all AV1.isFz=true:=by
  intro us;induction us with
  | nil=>intro _; rfl
  | cons u r ih=>intro x; simp only [dF.resL,List.map_cons,Wl,one,ih,Bool.and_self]
 intro us x
 match us,x with
 | [],_=>rfl
 | [u],x=>show (yx u x).toV.isFz=true; rw [wX]; exact one u x
 | u::v::r,x=>exact all (u::v::r) x
theorem Oc {e:En} (he:e.ok) (hm:e.P.follows .mixedOrders=true) {f:Nat} {fn:Func} (hf:e.P.funcs[f]? = some fn) (hname:(fn.name == "runtime.NumGoroutine")=false) (hb:fn.body.isSome=true) {an:An} {sh:List Sh} {u:U} {ps rs:List U} {pre:El u->Fl ps->Prop} {Fn:El u->Fl ps->Fl rs×El u}
  (hlen:Nat.ble (ps.length+1) fn.ntmps=true) (hc:jf fn.ntmps (fn.body.getD .skip)=true) (law:∀ x y,pre x y->∀ KK:Fl rs×El u->Prop,KK (Fn x y)->oz e fn an sh u ps rs x y KK):Cont e.P f (Bf sh u ps rs pre Fn):=by
 have hb':fn.body=some (fn.body.getD .skip):=by cases h:fn.body with
  | none=>rw [h] at hb; cases hb
  | some c=>rfl
 let φ:List AV->List T->(AV->List T->Prop)->Prop:=fun avs cells K=>∃ (x:El u) (y:Fl ps),avs=iz ps y/\cells.map T.canon=(au sh (flat u x)).map Tt.toT/\pre x y /\
  ∀ cells',cells'.all (T.self (.out 0))=true->cells'.length=cells.length->cells'.map T.canon=(au sh (flat u (Fn x y).2)).map Tt.toT->K (dF rs (Fn x y).1).toV cells'
 have hcon:Con e.P f (NC 0 φ):=by
  refine RS hf hname hb' φ (fun avs cells K ⟨x,y,hx,_⟩=>by rw [hx,dP]; exact Wh hlen) (fun g avs cells K hg ⟨x,y,hx,hcells,hp,hk⟩=>?_);subst hx;have h:=law x y hp (fun r=>r=Fn x y) rfl
  have h1:=fS (e:=⟨e.P,e.E,e.cs,e.sh,fun _ _=>False⟩) he hm (g:=g) _ an _ _ (by rw [hg]; exact hc) h
  have hln:cells.length=(au sh (flat u x)).length:=by
   have:=congrArg List.length hcells
   simpa using this
  have h2:AW e.P g (fn.body.getD .skip) (LQ (fun _ _=>False) ⟨om e.P fn.results.toList sh u rs (fun r=>r=Fn x y),fun _ _=>False,om e.P fn.results.toList sh u rs (fun r=>r=Fn x y)⟩) ⟨aW 0 (.one (.c (.pl ⟨.out 0,0,[]⟩))::iz ps y),[(.out 0,⟨true,cells⟩)]⟩:=by
   intro a w ⟨H,γ,F,hX⟩;refine h1 a w ⟨H,γ,F,?_⟩;have:=nl hX (.out 0)
   have e0:(⟨1,(0,0,.one (.c (.pl ⟨.out 0,0,[]⟩)))::yH 1 ps y,[(.out 0,0,⟨true,au sh (flat u x),none⟩)]⟩:St).toS=⟨aW 0 (.one (.c (.pl ⟨.out 0,0,[]⟩))::iz ps y),[(.out 0,⟨true,cells⟩)].map fun x=>(x.1,if x.1=.out 0 then fp x.2 else x.2)⟩:=by
    refine bx.S_ext ?_ ?_
    ·simp only [List.map_cons,aW,i9]; rfl
    ·simp only [List.map_cons,List.map_nil,if_true,Rt.toR,holed,fp,hcells]
   rw [e0]; exact this
  refine qF h2 (fun ex s' a w h' hR=>?_);have fin:∀ t:St,R g t.toS a w->om e.P fn.results.toList sh u rs (fun r=>r=Fn x y) t->∃ s'',xk 0 e.P s'' fn.results.toList K/\R g s'' a w:=by
   intro t hR ht;unfold om at ht;dsimp only at ht;have hR1:=cq (.out 0) (eL u) sh 0 (lG fn.results.toList hR)
   generalize bd (ke t fn.results.toList) (.out 0) (eL u) sh 0=s1 at ht hR1;have hid:=lH (us:=rs) (k:=fun vs=>match bS rs vs,bK s1.m (.out 0) with
    | some x_1,some ⟨true,cells,none⟩=>match dL sh cells with
     | some ts=>match je u ts with
      | some y_1=>(x_1,y_1)=Fn x y
      | none=>False
     | none=>False
    | _,_=>False) (by
     intro vs hvs;split at hvs
     ·rename_i h1 _; exact ⟨_,h1⟩
     ·exact hvs.elim) ht
   refine ⟨s1.toS,?_,hR1⟩;unfold xk;rw [hid];have hg2:=gC (us:=rs) (K:=fun r=>∃ cells ts y1,bK s1.m (.out 0)=some ⟨true,cells,none⟩/\dL sh cells=some ts/\je u ts=some y1/\(r,y1)=Fn x y) (OX hR1) (by
     intro vs hvs;split at hvs
     ·rename_i x1 cells1 h1 h2;split at hvs
      ·rename_i ts h3;split at hvs
       ·rename_i y1 h4; exact ⟨x1,h1,cells1,ts,y1,h2,h3,h4,hvs⟩
       ·exact hvs.elim
      ·exact hvs.elim
     ·exact hvs.elim) ht
   have hroot:∃ cells1 ts y1,bK s1.m (.out 0)=some ⟨true,cells1,none⟩/\dL sh cells1=some ts/\je u ts=some y1:=by
    rcases Classical.em (∃ cells1 ts y1,bK s1.m (.out 0)=some ⟨true,cells1,none⟩/\dL sh cells1=some ts/\je u ts=some y1) with hh | hh
    ·exact hh
    ·refine (cu (fun vs hvs=>?_) ht).elim;split at hvs
     ·rename_i x1 cells1 h1 h2;split at hvs
      ·rename_i ts h3;split at hvs
       ·rename_i y1 h4; exact hh ⟨cells1,ts,y1,h2,h3,h4⟩
       ·exact hvs
      ·exact hvs
     ·exact hvs
   obtain ⟨cells1,ts,y1,r1,r2,r3⟩:=hroot;rw [show ae s1.toS.m (.out 0)=some (⟨true,cells1,none⟩:Rt).toR from bq r1];show sx e.P s1.toS fn.results.toList (fun v=>K v (cells1.map Tt.toT))
   refine A9 hid (Q:=fun r=>∃ cells ts y1,bK s1.m (.out 0)=some ⟨true,cells,none⟩/\dL sh cells=some ts/\je u ts=some y1/\(r,y1)=Fn x y) ?_ hg2;rintro r ⟨cells2,ts2,y2,q1,q2,q3,q4⟩
   rw [r1] at q1;have q1':=Option.some.inj q1
   simp only [Rt.mk.injEq,true_and,and_true] at q1';subst q1';have e1:r=(Fn x y).1:=by rw [<- q4]
   have e2:y2=(Fn x y).2:=by rw [<- q4]
   obtain ⟨k1,_⟩:=nN q2 (gX q3);rw [e1];refine hk _ (fT q2).1 ?_ (by rw [<- e2,k1]);have l1:(cells1.map Tt.toT).length=(au sh (flat u y2)).length:=by
    have:=congrArg List.length k1
    simpa using this.symm
   have l2:∀ (sh:List Sh) (a b:List C),a.length=b.length->(au sh a).length=(au sh b).length:=by
    intro sh;induction sh with
    | nil=>intro a b _; cases a <;> cases b <;> rfl
    | cons s r ih=>
     intro a b hab;have hcons:∀ (c:C) (cs:List C),(au (s::r) (c::cs)).length=(au r cs).length+1:=by
      intro c cs;cases s <;> cases c <;> rfl
     cases a with
     | nil=>cases b with
      | nil=>rfl
      | cons _ _=>cases hab
     | cons c cs=>cases b with
      | nil=>cases hab
      | cons d ds=>rw [hcons,hcons,ih cs ds (by simpa using hab)]
   rw [l1,hln];exact l2 sh _ _ (by rw [gv,gv])
  cases ex with
  | normal=>obtain ⟨t,rfl,ht⟩:=h'; exact fin t hR ht
  | ret=>obtain ⟨t,rfl,ht⟩:=h'; exact fin t hR ht
  | exit i=>exact h'.elim (fun t ht=>ht.2.elim)
  | panic c=>obtain ⟨_,_,_,_,hf⟩:=h'; exact hf.elim
  | _=>exact h'.elim
 refine ⟨hcon.run,fun pk s ops k k' hk hcc=>?_,fun g pk s a w H γ F1 ops k hX hops hcc=>?_⟩
 ·unfold Bf at hcc ⊢;split at hcc
  ·exact hcc.elim
  ·dsimp only at hcc ⊢;split at hcc
   ·split at hcc
    ·split at hcc
     ·split at hcc
      ·split at hcc
       ·refine ⟨hcc.1,hk _ _ ?_ hcc.2⟩;exact ((cv _ _).trans (cO _ _ _ _ _)).trans ⟨WZ _,fb (Wb _),((qG _).trans (ej (Wb _))).trans (iw _ _ _ (Wb _))⟩
       ·exact hcc.elim
      ·exact hcc.elim
     ·exact hcc.elim
    ·exact hcc.elim
   ·exact hcc.elim
 ·unfold Bf at hcc;cases ops with
  | nil=>exact hcc.elim
  | cons o os=>
   dsimp only at hcc;have hops':aX o=true/\os.all aX=true:=by simpa using hops
   obtain ⟨H1,F2,h1⟩:=db (os.map (evA s)) s H F1 hX;generalize b9 s (os.map (evA s))=s1 at hcc h1;split at hcc
   ·rename_i r hro;obtain ⟨H2,γ2,F3,h2⟩:=cq (g:=g) r (eL u) sh 0 (Mr h1);generalize bd s1 r (eL u) sh 0=s2 at hcc h2;split at hcc
    ·rename_i r' hev2;split at hcc
     ·rename_i cells hdr hty hroot;have hr':r'=r:=by simpa using hdr
      subst hr';split at hcc
      ·rename_i ts hts;split at hcc
       ·rename_i x y hx hy;have hn2:=rk h2
        obtain ⟨c1,c2,c3⟩:=eE hy;obtain ⟨k1,_⟩:=nN hts (gX hx);refine Calls.mono (hcon.call g s2.toS a w H2 γ2 F3 (o::os) (fun s' av=>∃ t v',(∀ {a:Act} {w:World} {H:FH} {γ:Gam} {F:Nm->Fp},RX g s' a w H γ F->RX g t.toS a w H γ F)/\av=v'.toV/\av.isFz=true/\k t v') h2 hops ?_) ?_
        ·unfold NC;dsimp only;rw [gk hops'.2,fJ c1,ax hops'.1,hev2];simp only [At.toV,A1.toV,Tt.toT];rw [show ae s2.toS.m r'=some (⟨true,cells,none⟩:Rt).toR from bq hroot];dsimp only [Rt.toR,holed];refine ⟨hty.symm,(fT hts).1,by rw [gk hops'.2]; exact c2,x,y,?_,?_,hcc.1,?_⟩
         ·have e:(os.map fun x=>(ev s2.toS x).map T.canon)=(os.map (ev s2.toS)).map (AV.map T.canon):=by rw [Wo]; rfl
          rw [e,gk hops'.2]; exact c3
         ·rw [(fT hts).2,k1]
         ·intro cells' s1' l1' e1';refine ⟨by simpa using l1',s1',_,_,?_,rfl,KW _ _,hcc.2⟩;intro a w H γ F hX';have hc:=nl hX' r'
          have hlist:((r',(⟨true,cells'.map (T.ren (.out 0) r')⟩:Root))::aH (bG r') (bh s2.toS.m r')).map (fun x=>(x.1,if x.1=r' then fp x.2 else x.2))=(r',⟨true,(au sh (flat u (Fn x y).2)).map Tt.toT⟩)::aH (bG r') (bh s2.toS.m r'):=by
           simp only [List.map_cons,if_true]
           congr 1
           ·rw [sR e1']; simp only [fp,e1']
           ·refine (Ws fun z hz=>?_).trans (List.map_id _);have hne:z.1≠r':=by
             intro e;have hz1:z.1∈(aH (bG r') (bh s2.toS.m r')).map (·.1):=WI (f:=(·.1)) hz
             have e2:(aH (bG r') (bh s2.toS.m r')).map (·.1)=(bh s2.toS.m r').map (·.1):=by simp only [aH,Wo]; rfl
             rw [e2,e] at hz1;exact im h2.mem.keys hz1
            rw [if_neg hne]; rfl
          have hfin:(⟨s2.nx+1,eR (dq r') s2.nx s2.t,(r',s2.nx,⟨true,au sh (flat u (Fn x y).2),none⟩)::bw (bG r') s2.nx (dw s2.m r')⟩:St).toS=⟨i7 (gn r') s2.toS.t,(r',⟨true,(au sh (flat u (Fn x y).2)).map Tt.toT⟩)::aH (bG r') (bh s2.toS.m r')⟩:=by
           refine bx.S_ext (iu _ _ _) ?_;simp only [List.map_cons]
           congr 1
           have:=dV (bG r') s2.nx (dw s2.m r')
           rw [mb _ _ hn2] at this;exact this
          rw [hfin];dsimp only at hc;rw [hlist] at hc;exact hc
        ·rintro e' w' ⟨rr,s',av,H',γ',F',q1,⟨t,v',q2,rfl,q3,q4⟩,q5,q6⟩
         exact .inl ⟨rr,t,v',H',γ',F',q1,q4,jo (fun _ _ _ h=>h) q3 q5,q2 q6⟩
       ·exact hcc.elim
      ·exact hcc.elim
     ·exact hcc.elim
    ·exact hcc.elim
   ·exact hcc.elim
theorem Ie (s:St) (k:Nat) (sh:List Sh) (u:U):Ext s (rU s k sh u):=by
 unfold rU;split
 ·exact yS s k sh u
 ·exact Ext.refl s
theorem N2 {s:St} (h:R g s.toS a w) (k:Nat) (sh:List Sh) (u:U):R g (rU s k sh u).toS a w:=by
 unfold rU;split
 ·exact JI h k sh u
 ·exact h
theorem NW {e:En} (he:e.ok) (hm:e.P.follows .mixedOrders=true) {f:Nat} {fn:Func} (hf:e.P.funcs[f]? = some fn) (hname:(fn.name == "runtime.NumGoroutine")=false) (hb:fn.body.isSome=true) {an:An} {u:U} {ps:List U} {pre:List (El u)->Fl ps->Prop} {Fn:List (El u)->Fl ps->List (El u)}
  (hlen:Nat.ble (ps.length+1) fn.ntmps=true) (hc:jf fn.ntmps (fn.body.getD .skip)=true) (law:∀ x y,pre x y->∀ KK:List (El u)->Prop,KK (Fn x y)->No e fn an u ps x y KK):Cont e.P f (RE u ps pre Fn):=by
 have hb':fn.body=some (fn.body.getD .skip):=by cases h:fn.body with
  | none=>rw [h] at hb; cases hb
  | some c=>rfl
 let φ:List AV->List Sh->List (List D)->(List (List D)->Prop)->Prop:=fun avs sub l K=>∃ (x:List (El u)) (y:Fl ps),avs=iz ps y/\sub=List.replicate (nc u) .fr/\l=x.map (ao u)/\pre x y/\K ((Fn x y).map (ao u))
 have hcon:Con e.P f (N5 φ):=by
  refine SR hf hname hb' φ (fun avs sub l K ⟨x,y,hx,_⟩=>by rw [hx,dP]; exact Wh hlen) (fun g avs sub l K hg ⟨x,y,hx,hsub,hl,hp,hk⟩=>?_);subst hx; subst hsub; subst hl;have h:=law x y hp (fun r=>r=Fn x y) rfl
  have h1:=fS (e:=⟨e.P,e.E,e.cs,e.sh,fun _ _=>False⟩) he hm (g:=g) _ an _ _ (by rw [hg]; exact hc) h
  have e0:(⟨1,(0,0,.one (.c (.rf ⟨.out 0,0,[]⟩)))::yH 1 ps y,[(.out 0,0,⟨false,[.ow (List.replicate (nc u) .fr) u x],none⟩)]⟩:St).toS=⟨aW 0 (.one (.c (.rf ⟨.out 0,0,[]⟩))::iz ps y),[(.out 0,⟨false,[.ow (List.replicate (nc u) .fr) (x.map (ao u))]⟩)]⟩:=by
   refine bx.S_ext ?_ rfl;simp only [List.map_cons,aW,i9]; rfl
  rw [e0] at h1;refine AW.mono h1 (fun ex s' h'=>?_);have fin:∀ t:St,Kw fn.results.toList u (fun r=>r=Fn x y) t->Gz t.toS fn.results.toList (fun sub' l'=>sub'=List.replicate (nc u) .fr/\K l'):=by
   intro t ht;unfold Kw at ht;unfold Gz;split at ht
   ·rename_i tt hrs;rw [hrs];dsimp only;split at ht
    ·rename_i n hgt;rw [iO hgt];simp only [At.toV,A1.toV,Tt.toT];split at ht
     ·rename_i sh u' l hr;rw [show ae t.toS.m n=some (⟨false,[.ow sh u' l],none⟩:Rt).toR from bq hr];split at ht
      ·rename_i l' hs hcast;obtain ⟨e1,rfl⟩:=jW hcast;subst e1;refine ⟨iT hs,?_⟩;have hx2:l=Fn x y:=ht
       show K (l.map (ao u'))
       rw [hx2]; exact hk
      ·exact ht.elim
     ·exact ht.elim
    ·exact ht.elim
   ·exact ht.elim
  cases ex with
  | normal=>obtain ⟨t,rfl,ht⟩:=h'; exact fin t ht
  | ret=>obtain ⟨t,rfl,ht⟩:=h'; exact fin t ht
  | exit i=>exact h'.elim (fun t ht=>ht.2.elim)
  | panic c=>obtain ⟨_,_,_,_,hf⟩:=h'; exact hf.elim
  | _=>exact h'.elim
 refine ⟨hcon.run,fun pk s ops k k' hk hcc=>?_,fun g pk s a w H γ F1 ops k hX hops hcc=>?_⟩
 ·unfold RE at hcc ⊢;split at hcc
  ·dsimp only at hcc ⊢;split at hcc
   ·split at hcc
    ·split at hcc
     ·refine ⟨hcc.1,hk _ _ ?_ hcc.2⟩;exact ((Ie _ _ _ _).trans (cv _ _)).trans ⟨WZ _,fb (Wb _),((qG _).trans (ej (Wb _))).trans (iw _ _ _ (Wb _))⟩
     ·exact hcc.elim
    ·exact hcc.elim
   ·exact hcc.elim
  ·exact hcc.elim
 ·unfold RE at hcc;split at hcc
  ·rename_i t os;have hops':os.all aX=true:=by
    have:=hops
    simp only [Wl,V7] at this;exact this.2
   dsimp only at hcc;obtain ⟨H0,γ0,F0,h0⟩:=N2 (Mr hX) t (List.replicate (nc u) .fr) u;generalize rU s t (List.replicate (nc u) .fr) u=s0 at hcc h0;obtain ⟨H1,F2,h1⟩:=db (os.map (evA s0)) s0 H0 F0 h0;generalize b9 s0 (os.map (evA s0))=s1 at hcc h1;have hn1:=rk h1
   split at hcc
   ·rename_i r hev;split at hcc
    ·rename_i sh u' l hroot;split at hcc
     ·rename_i l' x hs hcast hx;obtain ⟨e1,rfl⟩:=jW hcast;subst e1;obtain ⟨c1,c2,c3⟩:=eE hx;refine Calls.mono (hcon.call g s1.toS a w H1 γ0 F2 (.tmp t::os) (fun s' av=>∃ t' v',s'=t'.toS/\av=v'.toV/\k t' v') h1 hops ?_) ?_
      ·unfold N5;dsimp only;rw [gk hops',fJ c1];rw [show ev s1.toS (.tmp t)=(evA s1 (.tmp t)).toV from cK t s1.t,hev];simp only [At.toV,A1.toV,Tt.toT];rw [show ae s1.toS.m r=some (⟨false,[.ow sh u' l],none⟩:Rt).toR from bq hroot];dsimp only [Rt.toR,holed,List.map_cons,List.map_nil,Tt.toT];refine ⟨by rw [gk hops']; exact c2,l,x,?_,iT hs,rfl,hcc.1,_,_,?_,?_,hcc.2⟩
       ·have e:(os.map fun x=>(ev s1.toS x).map T.canon)=(os.map (ev s1.toS)).map (AV.map T.canon):=by rw [Wo]; rfl
        rw [e,gk hops']; exact c3
       ·refine (bx.S_ext (iu _ _ _) ?_).symm;simp only [List.map_cons]
        congr 1
        have:=dV (bG r) s1.nx (dw s1.m r)
        rw [mb _ _ hn1] at this;exact this
       ·rfl
      ·rintro e' w' ⟨rr,s',av,H',γ',F',q1,⟨t',v',rfl,rfl,q4⟩,q5,q6⟩
       exact .inl ⟨rr,t',v',H',γ',F',q1,q4,q5,q6⟩
     ·exact hcc.elim
    ·exact hcc.elim
   ·exact hcc.elim
  ·exact hcc.elim
end
end Go.Am
end

section
namespace Go.Am
open Go Go.Proofs
def dx (x1:Int) (KK:(Int)->Prop):Prop:=
 KK (IntKind.u8.wrap (IntKind.i64.wrap (48+x1)))
def ll (a0_n:Int) (KK:(Int)->Prop):Prop:=
 if (decide (a0_n < 0))=true then dx (IntKind.i64.wrap (0-a0_n)) KK else dx a0_n KK
def gD (x3:Int) (x4:List Int) (KK:(List UInt8)->Prop):Prop:=
 (((0:Int)<=x3/\x3.toNat<=20/\20<=20/\x4.length=20))/\KK ((((x4.take 20).drop x3.toNat).take (20-x3.toNat)).map fun n=>UInt8.ofNat n.toNat)
def fd (a0_n:Int) (x1:Int) (x2:List Int) (KK:(List UInt8)->Prop):Prop:=
 if (decide (a0_n < 0))=true then (((0:Int)<=(IntKind.i64.wrap (x1 - 1))/\(IntKind.i64.wrap (x1 - 1)) < 20/\x2.length=20))/\gD (IntKind.i64.wrap (x1 - 1)) (x2.set (IntKind.i64.wrap (x1 - 1)).toNat 45) KK else gD x1 x2 KK
def cY (a0_n:Int) (KK:(List UInt8)->Prop):Nat->Int->Int->(List Int)->Prop
 | 0,_,_,_=>False
 | n9+1,x5,x6,x7=>(True)/\(((0:Int)<=(IntKind.i64.wrap (x5 - 1))/\(IntKind.i64.wrap (x5 - 1)) < 20/\x7.length=20))/\(True)/\if (decide ((IntKind.i64.wrap (Int.tdiv x6 10))=0))=true then fd a0_n (IntKind.i64.wrap (x5 - 1)) (x7.set (IntKind.i64.wrap (x5 - 1)).toNat (Lt.dJ (Int.tmod x6 10))) KK else (fun y1 y2 y3=>cY a0_n KK n9 y1 y2 y3) (IntKind.i64.wrap (x5 - 1)) (IntKind.i64.wrap (Int.tdiv x6 10)) (x7.set (IntKind.i64.wrap (x5 - 1)).toNat (Lt.dJ (Int.tmod x6 10)))
def vY (a0_n:Int) (KK:(List UInt8)->Prop):Prop:=
 ∃ n9,cY a0_n KK n9 20 a0_n [0,0,0,0,0,0,0,0,0,0,0,0,0,0,0,0,0,0,0,0]
theorem Cn (n:Int) (KK:Int->Prop) (h:KK (Lt.dJ n)):ll n KK:=by
 unfold ll dx; unfold Lt.dJ at h;by_cases hn:n < 0
 ·simp only [hn,decide_true,if_true] at h ⊢; exact h
 ·simp only [hn,decide_false,V9,if_false] at h ⊢; exact h
theorem EM {r:Int}:UInt8.ofNat (Lt.dJ (Int.tmod r 10)).toNat=UInt8.ofNat (48+r.natAbs % 10):=by
 have hb:(Int.tmod r 10).natAbs=r.natAbs % 10:=by simp [Int.natAbs_tmod]
 have hlt:r.natAbs % 10 < 10:=Xs _ (by omega)
 have h:Lt.dJ (Int.tmod r 10)=((48+r.natAbs % 10:Nat):Int):=by
  unfold Lt.dJ;have e1:(if Int.tmod r 10 < 0 then IntKind.i64.wrap (0-Int.tmod r 10) else Int.tmod r 10)=((r.natAbs % 10:Nat):Int):=by
   split
   ·rw [dU (by omega) (by omega)]; omega
   ·omega
  rw [e1,dU (by omega) (by omega)];simp only [IntKind.wrap,IntKind.signed,IntKind.bits];simp;omega
 rw [h,Int.toNat_natCast]
abbrev by8 (l:List Int):List UInt8:=l.map fun n=>UInt8.ofNat n.toNat
theorem ya (l:List Int) (i:Nat) (v:Int) (h:i<l.length):(l.set i v).drop i=v::l.drop (i+1):=by
 rw [Wm (by simpa using h)];simp only [List.getElem_set_self]
 congr 1
 exact List.drop_set_of_lt (by omega)
theorem FE (n:Int) (KK:List UInt8->Prop):∀ (k:Nat) (r:Int) (at_:Nat) (arr:List Int),r.natAbs < 10 ^ (k+1)->k+1<=at_->at_<=20->arr.length=20->r.natAbs<=9223372036854775808 ->
  (∀ at' arr',at_<=at'+(k+1)->at' < 20->arr'.length=20->by8 (arr'.drop at')=Lt.digs r.natAbs++by8 (arr.drop at_)->fd n (at':Int) arr' KK) ->
  cY n KK (k+1) (at_:Int) r arr:=by
 intro k;induction k with
 | zero=>
  intro r at_ arr h1 h2 h3 h4 h5 hk;have w:IntKind.i64.wrap ((at_:Int) - 1)=((at_ - 1:Nat):Int):=by rw [dU (by omega) (by omega)]; omega
  have hq:IntKind.i64.wrap (Int.tdiv r 10)=0:=by
   have:(Int.tdiv r 10).natAbs=r.natAbs / 10:=by rw [Int.natAbs_tdiv]; rfl
   have h0:r.natAbs / 10=0:=by omega
   have:Int.tdiv r 10=0:=by omega
   rw [this]; rfl
  simp only [cY,w,hq,decide_true,if_true,Int.toNat_natCast];refine ⟨trivial,⟨We _,by omega,h4⟩,trivial,?_⟩;refine hk (at_ - 1) _ (by omega) (by omega) (by simpa using h4) ?_;rw [ya _ _ _ (by omega),da (by omega)];simp only [by8,List.map_cons,EM];rw [Xn (by omega),show at_ - 1+1=at_ by omega];rfl
 | succ k ih=>
  intro r at_ arr h1 h2 h3 h4 h5 hk;have w:IntKind.i64.wrap ((at_:Int) - 1)=((at_ - 1:Nat):Int):=by rw [dU (by omega) (by omega)]; omega
  have hq:(Int.tdiv r 10).natAbs=r.natAbs / 10:=by rw [Int.natAbs_tdiv]; rfl
  have wq:IntKind.i64.wrap (Int.tdiv r 10)=Int.tdiv r 10:=dU (by omega) (by omega)
  simp only [cY,w,wq,Int.toNat_natCast];refine ⟨trivial,⟨We _,by omega,h4⟩,trivial,?_⟩;have hd:by8 ((arr.set (at_ - 1) (Lt.dJ (Int.tmod r 10))).drop (at_ - 1))=UInt8.ofNat (48+r.natAbs % 10)::by8 (arr.drop at_):=by
   rw [ya _ _ _ (by omega)];simp only [by8,List.map_cons,EM];rw [show at_ - 1+1=at_ by omega]
  split
  ·rename_i hc;have hc':Int.tdiv r 10=0:=by simpa using hc
   have h0:r.natAbs / 10=0:=by rw [<- hq,hc']; rfl
   refine hk (at_ - 1) _ (by omega) (by omega) (by simpa using h4) ?_;rw [hd,da (by omega),Xn (by omega)];rfl
  ·rename_i hc;have hc':¬ Int.tdiv r 10=0:=by simpa using hc
   have h10:¬ r.natAbs < 10:=by
    intro hlt;exact hc' (by omega)
   refine ih _ _ _ (by rw [hq]; rw [Nat.pow_succ] at h1; omega) (by omega) (by omega) (by simpa using h4) (by omega) (fun at' arr' k1 k2 k3 k4=>hk at' arr' (by omega) k2 k3 ?_);rw [k4,hd,iY h10,hq];simp
theorem Gn (n:Int) (hp:Lt.gJ n) (KK:List UInt8->Prop) (h:KK (Lt.aS n)):vY n KK:=by
 unfold Lt.gJ Lt.inR at hp;refine ⟨19,FE n KK 18 n 20 _ (by omega) (by omega) (by omega) rfl (by omega) (fun at' arr' k1 k2 k3 k4=>?_)⟩;simp only [List.drop_eq_nil_of_le (show ([0,0,0,0,0,0,0,0,0,0,0,0,0,0,0,0,0,0,0,0]:List Int).length<=20 from Wb _),by8,List.map_nil,XC] at k4;unfold fd;split
 ·rename_i hc;have hn:n < 0:=by simpa using hc
  have w:IntKind.i64.wrap ((at':Int) - 1)=((at' - 1:Nat):Int):=by rw [dU (by omega) (by omega)]; omega
  rw [w,Int.toNat_natCast];refine ⟨⟨We _,by omega,k3⟩,⟨We _,by rw [Int.toNat_natCast]; omega,by omega,by simpa using k3⟩,?_⟩;rw [Int.toNat_natCast,Wu (by simp [k3]),Wu (by simp [k3]),ya _ _ _ (by omega),List.map_cons,show at' - 1+1=at' by omega];have:Lt.aS n=45::Lt.digs n.natAbs:=by simp [Lt.aS,hn]
  rw [this] at h;simp only [k4];exact h
 ·rename_i hc;have hn:¬ n < 0:=by simpa using hc
  refine ⟨⟨We _,by rw [Int.toNat_natCast]; omega,by omega,k3⟩,?_⟩;rw [Int.toNat_natCast,Wu (by simp [k3]),Wu (by simp [k3]),k4];have:Lt.aS n=Lt.digs n.natAbs:=by simp [Lt.aS,hn]
  rw [this] at h;exact h
set_option maxRecDepth 100000 in
set_option maxHeartbeats 4000000 in
theorem yn (g:G) (hg:g.nt=Tryz.f94.ntmps) (a0_n:Int) (K:AV->Prop) (KK:(Int)->Prop) (hKK:∀ r,KK r->K (o1 (cI .u8) r) ) (h:ll a0_n KK) :
  AW Tryz.prog g (Tryz.f94.body.getD .skip) (NY Tryz.prog [.tmp 2] K) ⟨aW 0 [.one ((cI .i64).enc a0_n)],[]⟩:=by
 have hcs:CT.Ok Tryz.prog []:=CT.ok0
 have hn:g.nt=10:=hg
 have hm:Tryz.prog.follows .mixedOrders=true:=by kernel_rfl
 unfold Tryz.f94;dsimp only [Option.getD_some];unfold ll at h;apply cJ
 intro K1 hK1;have hx:=True.intro
 refine rgA [0] [] ?_;refine stA ?_;refine enA ?_;refine hK1 _ ?_;refine wh [] [0] [] (fun y:Int=>⟨[(0,.one (.c (.d (.int .i64 y))))],[]⟩) (fun y=>dx y KK) ?_ ?_
 ·apply cJ
  intro K3 hK3;have hx:=True.intro
  refine rgA [0,4] [] ?_
  iterate 2 refine stA ?_
  refine enA ?_;refine hK3 _ ?_;refine cdA h rfl (fun h=>?_) (fun h=>?_)
  ·have hx:=True.intro
   refine rgA [0] [] ?_
   iterate 3 refine stA ?_
   refine enA ?_;exact ⟨(IntKind.i64.wrap (0-a0_n)),siA,h⟩
  ·apply qP
   exact ⟨a0_n,siA,h⟩
 ·rintro x1 h
  change dx x1 KK at h
  unfold dx at h;apply cJ
  intro K2 hK2;have hx:=True.intro
  refine rgA [2] [] ?_
  iterate 4 refine stA ?_
  refine enA ?_;refine hK2 _ ?_;apply IZ
  exact fiA (hKK _ h)
def px:CK1:=oo (fn1 (cI .i64) (o1 (cI .u8)) (fun _=>True) Lt.dJ)
theorem Gq:Con Tryz.prog 94 px:=
 Q3 (fn:=Tryz.f94) (c:=Tryz.f94.body.getD .skip) (by kernel_rfl) (by kernel_rfl) (by kernel_rfl) (by decide +kernel) (fun g a0_n K hg hp hK=>yn g hg a0_n K _ (fun _ h=>h) (Cn a0_n _ hK))
attribute [push_cast] px
set_option maxRecDepth 100000 in
set_option maxHeartbeats 4000000 in
theorem FO (g:G) (hg:g.nt=Tryz.f47.ntmps) (a0_n:Int) (K:AV->Prop) (KK:(List UInt8)->Prop) (hKK:∀ r,KK r->K (o1 cS r) ) (h:vY a0_n KK) :
  AW Tryz.prog g (Tryz.f47.body.getD .skip) (NY Tryz.prog [.tmp 2] K) ⟨aW 0 [.one ((cI .i64).enc a0_n)],[]⟩:=by
 have hcs:CT.Ok Tryz.prog [(94,px)]:=(CT.cons Gq CT.ok0)
 have hn:g.nt=27:=hg
 have hm:Tryz.prog.follows .mixedOrders=true:=by kernel_rfl
 unfold Tryz.f47;dsimp only [Option.getD_some];unfold vY at h;apply cJ
 intro K1 hK1;have hx:=True.intro
 refine rgA [0] [] ?_;refine stA ?_;refine enA ?_;refine hK1 _ ?_;apply cJ
 intro K2 hK2;have hx:=True.intro
 refine rgA [0,3] [] ?_;refine stA ?_;refine enA ?_;refine hK2 _ ?_;apply cJ
 intro K3 hK3;have hx:=True.intro
 refine rgA [0,3,4] [] ?_;refine stA ?_;refine enA ?_;refine hK3 _ ?_;refine wh [] [0,3,4] [] (fun y:Int×List Int=>⟨[(0,.one (.c (.d (.int .i64 a0_n)))),(3,.one (.c (.pl ⟨.loc 3,0,[]⟩))),(4,.one (.c (.d (.int .i64 y.1))))],[(.loc 3,⟨true,y.2.map (tI .u8)⟩)]⟩) (fun y=>fd a0_n y.1 y.2 KK) ?_ ?_
 ·apply cJ
  intro K7 hK7;have hx:=True.intro
  refine rgA [0,3,4,5] [] ?_
  iterate 2 refine stA ?_
  refine enA ?_;refine hK7 _ ?_;apply xF
  intro Q8 hN8 hE8 hO8;obtain ⟨n9,h⟩:=h;refine Po [] [0,3,4,5] [] (fun y:Nat×Int×Int×List Int=>⟨[(0,.one (.c (.d (.int .i64 a0_n)))),(3,.one (.c (.pl ⟨.loc 3,0,[]⟩))),(4,.one (.c (.d (.int .i64 y.2.1)))),(5,.one (.c (.d (.int .i64 y.2.2.1))))],[(.loc 3,⟨true,y.2.2.2.map (tI .u8)⟩)]⟩) (fun y=>cY a0_n KK y.1 y.2.1 y.2.2.1 y.2.2.2) (fun y=>y.1) (n9,20,a0_n,[0,0,0,0,0,0,0,0,0,0,0,0,0,0,0,0,0,0,0,0]) ?_ h ?_
  ·first | exact siA (by rfl) | exact siA
  clear h;rintro ⟨n9,x5,x6,x7⟩ h K9 hK9
  cases n9 with
  | zero=>exact h.elim
  | succ n9=>
   change cY a0_n KK (n9+1) x5 x6 x7 at h
   unfold cY at h;apply xF
   intro Q10 hN10 hE10 hO10;apply cJ
   intro K11 hK11;have hx:=True.intro
   refine rgA [0,3,4,5] [] ?_
   iterate 3 refine stA ?_
   refine enA ?_;refine hK11 _ ?_;apply cJ
   intro K12 hK12;obtain ⟨ho1,ho2,h⟩:=h;have hx:=True.intro
   have hx:=And.intro (show ¬ (10:Int)=0 from by decide) hx
   have hx:=CW ho2.1 hx
   have hx:=CW (show (IntKind.i64.wrap (x5 - 1)) < ((20:Nat):Int) from ho2.2.1) hx
   have hx:=And.intro ho2.2.2 hx
   have hx:=And.intro (show (IntKind.i64.wrap (x5 - 1)).toNat < 20 from by omega) hx
   have hx:=And.intro (show 0 < 20 - (IntKind.i64.wrap (x5 - 1)).toNat from by omega) hx
   have hx:=And.intro (show (x7.map (tI .u8))[(IntKind.i64.wrap (x5 - 1)).toNat]? = some (tI .u8 (x7.getD (IntKind.i64.wrap (x5 - 1)).toNat default)) from Ke (tI .u8) x7 (by omega)) hx
   refine rgA [0,3,4,5] [] ?_
   iterate 6 refine stA ?_
   refine enA ?_;refine hK12 _ ?_;apply cJ
   intro K13 hK13;obtain ⟨ho1,h⟩:=h;have hx:=True.intro
   have hx:=And.intro (show ¬ (10:Int)=0 from by decide) hx
   refine rgA [0,3,4,5] [] ?_
   iterate 3 refine stA ?_
   refine enA ?_;refine hK13 _ ?_;apply cJ
   intro K14 hK14;have hx:=True.intro
   refine rgA [0,3,4,5,17] [] ?_
   iterate 2 refine stA ?_
   refine enA ?_;refine hK14 _ ?_;refine cdA h rfl (fun h=>?_) (fun h=>?_)
   ·apply KD
    refine hO10 _ _ (by simp) ?_;refine hE8 _ ?_;exact ⟨((IntKind.i64.wrap (x5 - 1)),(x7.set (IntKind.i64.wrap (x5 - 1)).toNat (Lt.dJ (Int.tmod x6 10)))),siA,h⟩
   ·apply qP
    refine hN10 _ ?_;exact hK9 _ (n9,(IntKind.i64.wrap (x5 - 1)),(IntKind.i64.wrap (Int.tdiv x6 10)),(x7.set (IntKind.i64.wrap (x5 - 1)).toNat (Lt.dJ (Int.tmod x6 10)))) siA h (Nat.lt_succ_self _)
 ·rintro ⟨x1,x2⟩ h
  change fd a0_n x1 x2 KK at h
  unfold fd at h;refine wh [] [3,4] [] (fun y:Int×List Int=>⟨[(3,.one (.c (.pl ⟨.loc 3,0,[]⟩))),(4,.one (.c (.d (.int .i64 y.1))))],[(.loc 3,⟨true,y.2.map (tI .u8)⟩)]⟩) (fun y=>gD y.1 y.2 KK) ?_ ?_
  ·apply cJ
   intro K5 hK5;have hx:=True.intro
   refine rgA [3,4,19] [] ?_
   iterate 2 refine stA ?_
   refine enA ?_;refine hK5 _ ?_;refine cdA h rfl (fun h=>?_) (fun h=>?_)
   ·apply cJ
    intro K6 hK6;have hx:=True.intro
    refine rgA [3,4] [] ?_
    iterate 3 refine stA ?_
    refine enA ?_;refine hK6 _ ?_;obtain ⟨ho1,h⟩:=h;have hx:=True.intro
    have hx:=CW ho1.1 hx
    have hx:=CW (show (IntKind.i64.wrap (x1 - 1)) < ((20:Nat):Int) from ho1.2.1) hx
    have hx:=And.intro ho1.2.2 hx
    have hx:=And.intro (show (IntKind.i64.wrap (x1 - 1)).toNat < 20 from by omega) hx
    have hx:=And.intro (show 0 < 20 - (IntKind.i64.wrap (x1 - 1)).toNat from by omega) hx
    have hx:=And.intro (show (x2.map (tI .u8))[(IntKind.i64.wrap (x1 - 1)).toNat]? = some (tI .u8 (x2.getD (IntKind.i64.wrap (x1 - 1)).toNat default)) from Ke (tI .u8) x2 (by omega)) hx
    refine rgA [3,4] [] ?_
    iterate 3 refine stA ?_
    refine enA ?_;exact ⟨((IntKind.i64.wrap (x1 - 1)),(x2.set (IntKind.i64.wrap (x1 - 1)).toNat 45)),siA,h⟩
   ·apply qP
    exact ⟨(x1,x2),siA,h⟩
  ·rintro ⟨x3,x4⟩ h
   change gD x3 x4 KK at h
   unfold gD at h;apply cJ
   intro K4 hK4;refine frB (.loc 3) ?_;obtain ⟨ho1,h⟩:=h;have hx:=True.intro
   have hx:=CW ho1.1 hx
   have hx:=CW ho1.2.1 hx
   have hx:=CW ho1.2.2.1 hx
   have hx:=CW ho1.2.2.2 hx
   refine rgA [2] [] ?_
   iterate 4 refine stA ?_
   refine enA ?_;refine hK4 _ ?_;apply IZ
   exact fiA (hKK _ h)
def DL:CKt:=fe [(.i .i64)] [.s] (fun x=>Lt.gJ x) (fun x=>Lt.aS x)
theorem O5:Cont Tryz.prog 47 DL:=
 mR (φ:=fun avs K=>∃ n:Int,avs=[.one ((cI .i64).enc n)]/\Lt.gJ n/\K (o1 cS (Lt.aS n))) (fun x K hp hk=>⟨x,rfl,hp,hk⟩)
  (vp (fn:=Tryz.f47) (c:=Tryz.f47.body.getD .skip) (by kernel_rfl) (by kernel_rfl) (by kernel_rfl) _ (fun avs K ⟨x,hx,_,_⟩=>by rw [hx]; exact (by decide +kernel:1<=Tryz.f47.ntmps)) (fun g avs K hg ⟨x,hx,hp,hk⟩=>by
   subst hx;exact FO g hg x K _ (fun _ h=>h) (Gn x hp _ hk)))
end Go.Am
end

section
namespace Go.Am
theorem OJ (i k:Nat):Nat.beq (i+100000) (k+100000)=Nat.beq i k:=by
 cases h:Nat.beq i k with
 | true=>have:=Wg h; subst this; exact Nat.beq_refl _
 | false=>
  cases h2:Nat.beq (i+100000) (k+100000) with
  | false=>rfl
  | true=>
   have:=Wg h2
   have:i=k:=by omega
   subst this; rw [Nat.beq_refl] at h; cases h
theorem Et (k:Nat) (t:List (Nat×Nat×At)):bX (shT t) (k+100000)=bX t k:=by
 induction t with
 | nil=>rfl
 | cons x r ih=>
  obtain ⟨i,j,v⟩:=x;simp only [shT,bX,OJ];cases Nat.beq i k with
  | true=>rfl
  | false=>exact ih
theorem CX {k:Nat} (hk:k < 100000) (t:List (Nat×Nat×At)):bX (shT t) k=none:=by
 induction t with
 | nil=>rfl
 | cons x r ih=>
  obtain ⟨i,j,v⟩:=x;have:Nat.beq (i+100000) k=false:=by
   cases h:Nat.beq (i+100000) k with
   | false=>rfl
   | true=>have:=Wg h; omega
  simp only [shT,bX,this];exact ih
theorem Es (k:Nat) (t:List (Nat×Nat×At)):bX (rR t) k=bX t (k+100000):=by
 induction t with
 | nil=>rfl
 | cons x r ih=>
  obtain ⟨i,j,v⟩:=x;simp only [rR,bX];cases hb:Nat.ble 100000 i with
  | true=>
   have hi:100000<=i:=Wh hb
   have e:Nat.beq (i - 100000) k=Nat.beq i (k+100000):=by
    have:=OJ (i - 100000) k
    rw [Nat.sub_add_cancel hi] at this;exact this.symm
   dsimp only;rw [bX,e];cases Nat.beq i (k+100000) with
   | true=>rfl
   | false=>exact ih
  | false=>
   have hi:¬ 100000<=i:=fun h=>by rw [Nat.ble_eq_true_of_le h] at hb; cases hb
   have e:Nat.beq i (k+100000)=false:=by
    cases h:Nat.beq i (k+100000) with
    | false=>rfl
    | true=>have:=Wg h; omega
   rw [e]; exact ih
theorem si {nx k:Nat} {b:List (Nat×Nat×At)}:∀ {l:List At} {i:Nat},i+l.length<=k->bX (yu nx i l++b) k=bX b k
 | [],_,_=>rfl
 | v::r,i,h=>by
  have e:Nat.beq i k=false:=by
   cases h2:Nat.beq i k with
   | false=>rfl
   | true=>have:=Wg h2; simp only [Wp] at h; omega
  simp only [yu,WR,bX,e];exact si (by simp only [Wp] at h; omega)
theorem s8 {nx k:Nat} {b:List (Nat×Nat×At)}:∀ {l:List At} {i:Nat} {v:At},i<=k->l[k-i]? = some v->bX (yu nx i l++b) k=some (nx,v)
 | [],_,_,_,h=>by simp at h
 | v::r,i,x,hi,h=>by
  simp only [yu,WR,bX];rcases Nat.lt_or_eq_of_le hi with hlt | rfl
  ·have e:Nat.beq i k=false:=by
    cases h2:Nat.beq i k with
    | false=>rfl
    | true=>have:=Wg h2; omega
   rw [e];refine s8 (by omega) ?_;rw [show k-i=(k - (i+1))+1 from by omega] at h;simpa using h
  ·rw [Nat.beq_refl];simp only [Nat.sub_self,W1,V6] at h;subst h; rfl
abbrev inS (s:St) (vs:List At):St:=⟨s.nx+1,yu s.nx 0 vs++shT s.t,s.m⟩
theorem Uw {s s':St} {vs:List At} (hl:vs.length<=100000) (h:Ext (inS s vs) s'):Ext s ⟨s'.nx,rR s'.t,s'.m⟩:=by
 refine ⟨Xt (WZ _) h.nx,fun k j v hk hj=>?_,fun n j r hk hj=>h.m n j r hk (Nat.lt_succ_of_lt hj)⟩;rw [Es] at hk;have:=h.t _ j v hk (Nat.lt_succ_of_lt hj)
 rw [show (inS s vs).t=yu s.nx 0 vs++shT s.t from rfl,si (by omega),Et] at this;exact this
theorem Dr {s s':St} {vs:List At} {res:List ResultVar} {k k':St->At->Prop} (hl:vs.length<=100000) (hk:∀ s' v,Ext s s'->k s' v->k' s' v) (hE:Ext (inS s vs) s') (h:ur res k s'):ur res k' s':=by
 unfold ur at h ⊢;split at h
 ·exact hk _ _ (Uw hl hE) h
 ·exact h.elim
section
variable {g:G} {a:Act} {w:World} {H:FH} {γ:Gam} {F:Nm->Fp}
theorem Ax {nt:Nat} {ops:List Operand} {i:Nat} {x:Operand} (hx:ops[i]? = some x):((ops.map a.eval).toArray++Array.replicate (nt - (ops.map a.eval).toArray.size) undef).getD i undef=a.eval x:=by
 rw [WD,W2 (by simp; exact ai hx)];simp [hx]
theorem UZ {s:St} (hX:RX g s.toS a w H γ F) {ops:List Operand} (hops:ops.all aX=true) {nt:Nat} (hle:ops.length<=nt) (hnt:nt<=100000) :
  RX ⟨nt,g.w0,g.H0,g.own0,g.out,some (g.tv a),[]⟩ (inS s (ops.map (evA s))).toS ⟨(ops.map a.eval).toArray++Array.replicate (nt - (ops.map a.eval).toArray.size) undef,[]⟩ w H γ F:=by
 have hsz:((ops.map a.eval).toArray++Array.replicate (nt - (ops.map a.eval).toArray.size) undef).size=nt:=by simp; omega
 refine ⟨hX.mem,hX.fr,hsz,⟨rfl,hX.df.2⟩,fun i=>?_⟩;rw [show aA (inS s (ops.map (evA s))).toS.t i=(gtA (yu s.nx 0 (ops.map (evA s))++shT s.t) i).toV from cK i _,iq];rcases WL i ops.length with hi | hi
 ·obtain ⟨x,hx⟩:∃ x,ops[i]? = some x:=⟨_,V8 hi⟩
  rw [s8 (WP i) (v:=evA s x) (by rw [Nat.sub_zero,Wa,hx]; rfl)];rw [G.tv_lt (by rw [hsz]; omega),Ax hx];have hop:=Wj.1 hops x (WC hx)
  have:=bg hX hop
  rw [ax hop] at this;exact this
 ·rw [si (by rw [Wc]; omega)];rcases WL i 100000 with hb | hb
  ·rw [CX hb]; trivial
  ·obtain ⟨j,rfl⟩:∃ j,i=j+100000:=⟨i - 100000,by omega⟩
   rw [Et,<- iq];have e:G.tv ⟨nt,g.w0,g.H0,g.own0,g.out,some (g.tv a),[]⟩ ⟨(ops.map a.eval).toArray++Array.replicate (nt - (ops.map a.eval).toArray.size) undef,[]⟩ (j+100000)=g.tv a j:=by
    unfold G.tv;dsimp only;rw [if_neg (by rw [hsz]; unfold TB; omega)];unfold TB;rw [Nat.add_sub_cancel]
   rw [e,<- cK];exact hX.t j
theorem CS {s0:S} (hX:RX g s0 a w H γ F) {nt:Nat} (hnt:nt<=100000) {a':Act} {s':St} {w':World} {H':FH} {γ':Gam} {F':Nm->Fp} (h:RX ⟨nt,g.w0,g.H0,g.own0,g.out,some (g.tv a),[]⟩ s'.toS a' w' H' γ' F') :
  RX g (⟨s'.nx,rR s'.t,s'.m⟩:St).toS a w' H' γ' F':=by
 refine ⟨h.mem,h.fr,hX.nt,⟨hX.df.1,h.df.2⟩,fun i=>?_⟩;rw [show aA (⟨s'.nx,rR s'.t,s'.m⟩:St).toS.t i=(gtA (rR s'.t) i).toV from cK i _,iq,Es,<- iq,<- cK];have:=h.t (i+100000)
 have e:G.tv ⟨nt,g.w0,g.H0,g.own0,g.out,some (g.tv a),[]⟩ a' (i+100000)=g.tv a i:=by
  have hs:a'.tmps.size=nt:=h.nt
  unfold G.tv;dsimp only;rw [if_neg (by rw [hs]; unfold TB; omega)];unfold TB;rw [Nat.add_sub_cancel]
 rw [e] at this;exact this
theorem Ki {P:Program} {s:St} (h:RX g s.toS a w H γ F):∀ {rs:List ResultVar} {xs:List A1},MP s rs=some xs->∃ ys,(rs.mapM (mh a.tmps)).run P w=.ok ys w/\ARs w H γ (toM s.m) (xs.map A1.toV) ys/\ys.length=rs.length/\xs.length=rs.length
 | [],xs,e=>by
  simp only [MP,V6] at e; subst e;exact ⟨[],rfl,trivial,rfl,rfl⟩
 | .tmp t::r,xs,e=>by
  simp only [MP] at e;split at e
  ·rename_i x xs' h1 h2 h3;simp only [V6] at e; subst e;obtain ⟨ys,k1,k2,k3,k4⟩:=Ki (P:=P) h h2;have ht:=h.t t
   rw [show aA s.toS.t t=(gtA s.t t).toV from cK t s.t,h1,G.tv_lo (show t<TB from Wh h3)] at ht;have k1':((r.mapM (mh a.tmps)).run P w)=.ok ys w:=k1
   refine ⟨a.tmps.getD t undef::ys,?_,⟨ht,k2⟩,by simp [k3],by simp [k4]⟩;simp [List.mapM_cons,mh,k1']
  ·cases e
 | .cell _ _::r,xs,e=>by simp [MP] at e
theorem Sb {P:Program} {fn:Func} {s:St} {k:St->At->Prop} (h:RX g s.toS a w H γ F) (hk:ur fn.results.toList k s) :
  ∃ y v,(results fn a.tmps).run P w=.ok y w/\AR w H γ (toM s.m) v.toV y/\k ⟨s.nx,rR s.t,s.m⟩ v:=by
 unfold ur at hk;split at hk
 ·rename_i xs hx;obtain ⟨ys,k1,k2,k3,k4⟩:=Ki (P:=P) h hx;have hrun:(results fn a.tmps).run P w=.ok (if h:ys.toArray.size=1 then ys.toArray[0] else .tuple ys.toArray) w:=by
   rw [fZ,Xz];simp [k1]
  refine ⟨_,_,hrun,?_,hk⟩
  match xs,ys,k2 with
  | [],[],_=>exact ⟨#[],by simp,trivial⟩
  | [x],[y],k2=>exact k2.1
  | x1::x2::xs,y1::y2::ys,k2=>exact ⟨(y1::y2::ys).toArray,by simp,by simpa using k2⟩
 ·exact hk.elim
end
theorem GX {P:Program} {f:Nat} {fn:Func} (hf:P.funcs[f]? = some fn) (hname:(fn.name == "runtime.NumGoroutine")=false) (hb:fn.body.isSome=true):∀ args w,(callFunc f args).run P w=.ok (.enter f args) w:=by
 intro args w;have h1:fn.name ≠ "runtime.NumGoroutine" := by simpa using hname
 obtain ⟨c,h⟩:=Option.isSome_iff_exists.1 hb;simp [callFunc,hf,h1,h]
theorem ab {e:En} (he:e.ok) (hm:e.P.follows .mixedOrders=true) {f:Nat} {fn:Func} (hf:e.P.funcs[f]? = some fn) (hname:(fn.name == "runtime.NumGoroutine")=false) (hb:fn.body.isSome=true) {an:An}
  (hc:jf fn.ntmps (fn.body.getD .skip)=true) (hnt:Nat.ble fn.ntmps 100000=true):Cont e.P f (aN e fn an):=by
 have hb':fn.body=some (fn.body.getD .skip):=by cases h:fn.body with
  | none=>rw [h] at hb; cases hb
  | some c=>rfl
 have hnt':=Wh hnt
 refine ⟨GX hf hname hb,fun pk s ops k k' hk hcc=>?_,fun g pk s a w H γ F ops k hX hops hcc=>?_⟩
 ·unfold aN at hcc ⊢;split at hcc
  ·rename_i hle;have hl:(ops.map (evA s)).length<=100000:=by rw [Wc]; exact Xt (Wh hle) hnt'
   exact B8 (e:=⟨e.P,e.E,e.cs,e.sh,fun v s=>pk v ⟨s.nx,rR s.t,s.m⟩⟩) he _ an _ ⟨ur fn.results.toList k,fun _ _=>False,ur fn.results.toList k⟩ ⟨ur fn.results.toList k',fun _ _=>False,ur fn.results.toList k'⟩ (fun s' hE h=>Dr hl hk hE h) (fun _ _ _ h=>h) (fun s' hE h=>Dr hl hk hE h) hcc
  ·exact hcc.elim
 ·unfold aN at hcc;split at hcc
  ·rename_i hle;have hle':=Wh hle
   refine calls_of_wp hf hb' (Code.wp_mono (fun x a' w' hl=>?_) (fS (e:=⟨e.P,e.E,e.cs,e.sh,fun v s=>pk v ⟨s.nx,rR s.t,s.m⟩⟩) he hm (g:=⟨fn.ntmps,g.w0,g.H0,g.own0,g.out,some (g.tv a),[]⟩) _ an _ _ hc hcc _ w ⟨H,γ,F,UZ hX hops hle' hnt'⟩));obtain ⟨s',hq,H',γ',F',hX'⟩:=hl;have fin:∀ t:St,s'=t.toS->ur fn.results.toList k t->a'.defers=[]/\∃ v,(results fn a'.tmps).run e.P w'=.ok v w'/\iV g a pk k (.returned v) w':=by
    rintro t rfl ht
    obtain ⟨y,v,k1,k2,k3⟩:=Sb (P:=e.P) hX' ht;exact ⟨hX'.df.1,y,k1,.inl ⟨y,_,v,H',γ',F',rfl,k3,k2,CS hX hnt' hX'⟩⟩
   cases x with
   | normal=>obtain ⟨t,e1,ht⟩:=hq; exact fin t e1 ht
   | ret=>obtain ⟨t,e1,ht⟩:=hq; exact fin t e1 ht
   | exit i=>obtain ⟨t,e1,ht⟩:=hq; exact ht.elim
   | panic c=>
    obtain ⟨v,t,rfl,rfl,hv⟩:=hq;exact ⟨hX'.df.1,.inr ⟨v,_,rfl,hv,H',γ',F',CS hX hnt' hX'⟩⟩
   | _=>exact hq.elim
  ·exact hcc.elim
theorem OW {P:Program} {f t:Nat} {C D:CKt} (h1:Cont P f C) (h2:Cont P f D):Cont P f (Q4 t C D):=by
 refine ⟨h1.run,fun pk s ops k k' hk hc=>?_,fun g pk s a w H γ F ops k hX hops hc=>?_⟩
 ·unfold Q4 at hc ⊢;split at hc
  ·split at hc
   ·exact h1.ext pk s _ k k' hk hc
   ·exact h2.ext pk s _ k k' hk hc
  ·exact h2.ext pk s _ k k' hk hc
 ·unfold Q4 at hc;split at hc
  ·split at hc
   ·exact h1.call g pk s a w H γ F _ k hX hops hc
   ·exact h2.call g pk s a w H γ F _ k hX hops hc
  ·exact h2.call g pk s a w H γ F _ k hX hops hc
section
variable {g:G} {s1:S} {a:Act} {w:World} {H1:FH} {γ:Gam} {F1:Nm->Fp}
theorem Bd (h1:RX g s1 a w H1 γ F1) {w':World} {H2:FH} {tt:Fp} (hfr:Fr w H1 (fun _=>0) w' H2 tt) (hag:∀ b o y,H2 b o=some y->w'.cell? ⟨b,o,none⟩=some y):RX g s1 a w' H2 γ F1:=by
 have hold:∀ b,b<w.heap.size->w'.heap[b]? = w.heap[b]? := fun b hb=>hfr.block b hb rfl
 have hnew:∀ b,b<w.heap.size->H1 b=H2 b:=by
  intro b hb
  funext o
  cases hc:H1 b o with
  | some y=>rw [hfr.hold b o y hc]
  | none=>
   cases hc2:H2 b o with
   | none=>rfl
   | some y=>
    rcases hfr.hnew b o (by rw [hc2]; simp) hc with h' | h'
    ·exact absurd rfl h'
    ·omega
 have hsame:∀ b,tot F1 s1.m b≠0->w'.heap[b]? = w.heap[b]? := fun b hb=>hold b (h1.mem.lt b hb)
 have hKp:=cP (w':=w') h1.mem hsame
 have hmem:Mem w' H2 γ s1.m F1:=by
  refine ⟨hag,fun x hx=>aM hKp hfr.hold rfl (fun b hb=>hsame b (by have:=bI (F:=F1) hx b; omega)) (h1.mem.roots x hx),h1.mem.keys,h1.mem.le1,fun b hb=>by have:=h1.mem.lt b hb; have:=hfr.size; omega,fun b hb o=>?_⟩;rw [<- hnew b (h1.mem.lt b hb)]; exact h1.mem.nofz b hb o
 have hFr:Fr w H1 (tot F1 s1.m) w' H2 (tot F1 s1.m):=
  ⟨hfr.size,hfr.os,hfr.tape,hfr.output,fun b hb _=>hold b hb,hfr.hold,fun b o h2 h3=>by
   right
   rcases WL b w.heap.size with h' | h'
   ·rw [<- hnew b h'] at h2; exact absurd h3 h2
   ·exact h',fun b hb=>.inl hb,hfr.nz⟩
 exact gj h1 hmem hFr (fun i=>cE hKp hfr.hold (h1.t i)) (fun _=>rfl)
theorem CD {s1:St} (h1:RX g s1.toS a w H1 γ F1) {ops:List Operand} (hops:ops.all aX=true) {ps:List U} {x:Fl ps} (hx:bS ps (ops.map (evA s1))=some x) {nt:Nat} (hle:ops.length<=nt) :
  RX ⟨nt,w,H1,fun _=>0,fun _=>none,none,[]⟩ ⟨aW 0 (iz ps x),[]⟩ ⟨(ops.map a.eval).toArray++Array.replicate (nt - (ops.map a.eval).toArray.size) undef,[]⟩ w H1 γ F1:=by
 obtain ⟨c1,c2,c3⟩:=eE hx;refine ⟨⟨h1.mem.agree,fun x hx=>by simp at hx,by simp,fun b=>WP _,fun b hb=>absurd rfl hb,fun b hb=>absurd rfl hb⟩,⟨Wb _,rfl,rfl,rfl,fun _ _ _=>rfl,fun _ _ _ h=>h,fun b o h2 h3=>absurd h3 h2,fun b hb=>absurd rfl hb,kZ⟩,?_,⟨rfl,fun j b e=>by simp at e,eG h1⟩,fun i=>?_⟩
 ·simp; omega
 ·show AR w H1 γ [] (aA (aW 0 (iz ps x)) i) (Array.getD _ i undef)
  rw [<- c3,eW];simp only [WP,if_true,Nat.sub_zero,Wa];cases hi:ops[i]? with
  | none=>simp only [XB,XP]; trivial
  | some y=>
   have hop:=Wj.1 hops y (WC hi)
   have hy:=bg h1 hop
   rw [ax hop] at hy;simp only [Option.map_some,Option.getD_some];have hz:(evA s1 y).toV.isFz=true:=by
    refine Wj.1 c2 _ (WI (WI (WC hi)))
   rw [Ax hi];exact dT ch (jo (fun _ _ _ h=>h) hz hy)
end
theorem QY {α:Type} {r:Except Value α} {K K':α->Prop} {KP:Value->Prop} (h:∀ x,K x->K' x) (hr:exQ r K KP):exQ r K' KP:=by
 cases r with
 | ok x=>exact h x hr
 | error v=>exact hr
theorem I0 {e:En} (he:e.ok) (hm:e.P.follows .mixedOrders=true) {f:Nat} {fn:Func} (hf:e.P.funcs[f]? = some fn) (hname:(fn.name == "runtime.NumGoroutine")=false) (hb:fn.body.isSome=true) {an:An} {ps rs:List U} {pre:Fl ps->Prop} {F:Fl ps->Except Value (Fl rs)}
  (hlen:Nat.ble ps.length fn.ntmps=true) (hc:jf fn.ntmps (fn.body.getD .skip)=true) (law:∀ x,pre x->∀ (KK:Fl rs->Prop) (KP:Value->Prop),exQ (F x) KK KP->pi e fn an ps rs x KK KP):Cont e.P f (kQ ps rs pre F):=by
 have hb':fn.body=some (fn.body.getD .skip):=by cases h:fn.body with
  | none=>rw [h] at hb; cases hb
  | some c=>rfl
 refine ⟨GX hf hname hb,fun pk s ops k k' hk hcc=>?_,fun g pk s a w H γ F1 ops k hX hops hcc=>?_⟩
 ·unfold kQ at hcc ⊢;dsimp only at hcc ⊢;split at hcc
  ·exact ⟨hcc.1,QY (fun y hy=>hk _ _ (cv _ _) hy) hcc.2⟩
  ·exact hcc.elim
 ·unfold kQ at hcc;dsimp only at hcc;obtain ⟨H1,F2,h1⟩:=db (ops.map (evA s)) s H F1 hX;generalize b9 s (ops.map (evA s))=s1 at hcc h1;split at hcc
  ·rename_i x hx;have hlx:ops.length=ps.length:=by
    obtain ⟨_,_,c3⟩:=eE hx;have:=congrArg List.length c3
    rw [dP] at this;simpa using this
   have h:=law x hcc.1 _ _ hcc.2
   have hX0:=CD h1 hops hx (nt:=fn.ntmps) (by rw [hlx]; exact Wh hlen)
   have e0:(IV ps x).toS=⟨aW 0 (iz ps x),[]⟩:=bx.S_ext (i9 0 ps x) rfl
   rw [<- e0] at hX0;refine calls_of_wp hf hb' (Code.wp_mono (fun ex a' w' hl=>?_) (fS (e:=⟨e.P,e.E,e.cs,e.sh,fun v _=>pk v s1⟩) he hm (g:=⟨fn.ntmps,w,H1,fun _=>0,fun _=>none,none,[]⟩) _ an _ _ hc h _ w ⟨H1,γ,F2,hX0⟩));obtain ⟨s',hq,hR⟩:=hl;have fin:∀ t:St,s'=t.toS->qA e.P fn.results.toList rs (fun y=>k s1 (dF rs y)) t->a'.defers=[]/\∃ v,(results fn a'.tmps).run e.P w'=.ok v w'/\iV g a pk k (.returned v) w':=by
    rintro t rfl ht
    obtain ⟨s2,hk2,H2,γ2,F3,hX2⟩:=qd (K:=fun r=>∃ y,r=(dF rs y).toV/\k s1 (dF rs y)) (fun r hr=>⟨r,rfl,hr⟩) ht hR;obtain ⟨y,v,s3,H3,F4,e1,e2,e3,e4,y0,e5,e6⟩:=uA hX2 rfl hk2;refine ⟨e2.df.1,y,e1,.inl ⟨y,s1,dF rs y0,H3,γ,F2,rfl,e6,?_,Bd h1 e2.fr e2.mem.agree⟩⟩;rw [<- e5];exact dT ch (jo (fun _ _ _ h=>h) e4 e3)
   cases ex with
   | normal=>obtain ⟨t,e1,ht⟩:=hq; exact fin t e1 ht
   | ret=>obtain ⟨t,e1,ht⟩:=hq; exact fin t e1 ht
   | exit i=>obtain ⟨t,e1,ht⟩:=hq; exact ht.elim
   | panic c=>
    obtain ⟨v,t,rfl,rfl,hv⟩:=hq;obtain ⟨H',γ',F',hX'⟩:=hR;exact ⟨hX'.df.1,.inr ⟨v,s1,rfl,hv,H',γ,F2,Bd h1 hX'.fr hX'.mem.agree⟩⟩
   | _=>exact hq.elim
  ·exact hcc.elim
end Go.Am
end

section
namespace Go.Am
def Nm.sw:Nm->Nm
 | .loc i=>.out i
 | .out i=>.loc i
 | .gh v=>.gh v
theorem Nm.sw_sw:∀ n:Nm,n.sw.sw=n
 | .loc _=>rfl
 | .out _=>rfl
 | .gh _=>rfl
theorem Nm.sw_inj {n n':Nm} (h:n.sw=n'.sw):n=n':=by rw [<- n.sw_sw,<- n'.sw_sw,h]
theorem Nm.sw_tyd:∀ n:Nm,n.sw.tyd=n.tyd
 | .loc _=>rfl
 | .out _=>rfl
 | .gh _=>rfl
def Pl.sw (p:Pl):Pl:=⟨p.root.sw,p.off,p.path⟩
def T.sw:T->T
 | .pl p=>.pl p.sw
 | .rf p=>.rf p.sw
 | t=>t
def AV1.sw:AV1->AV1
 | .c t=>.c t.sw
 | .agg ts=>.agg (ts.map T.sw)
def AV.sw:AV->AV
 | .one x=>.one x.sw
 | .tup xs=>.tup (xs.map AV1.sw)
 | .any=>.any
def Root.sw (r:Root):Root:=⟨r.blk,r.cells.map T.sw⟩
def swM (m:Mm):Mm:=m.map fun x=>(x.1.sw,x.2.sw)
def S.sw (s:S):S:=⟨s.t.map fun x=>(x.1,x.2.sw),swM s.m⟩
def Tt.sw:Tt->Tt
 | .pl p=>.pl p.sw
 | .rf p=>.rf p.sw
 | t=>t
def A1.sw:A1->A1
 | .c t=>.c t.sw
 | .agg ts=>.agg (ts.map Tt.sw)
def At.sw:At->At
 | .one x=>.one x.sw
 | .tup xs=>.tup (xs.map A1.sw)
 | .any=>.any
def Rt.sw (r:Rt):Rt:=⟨r.blk,r.cells.map Tt.sw,r.hole⟩
def St.sw (s:St):St:=⟨s.nx,s.t.map fun x=>(x.1,x.2.1,x.2.2.sw),s.m.map fun x=>(x.1.sw,x.2.1,x.2.2.sw)⟩
theorem Tt.sw_toT:∀ t:Tt,t.sw.toT=t.toT.sw
 | .d _=>rfl
 | .nil=>rfl
 | .ow _ _ _=>rfl
 | .el _ _=>rfl
 | .ga _ _ _=>rfl
 | .pl _=>rfl
 | .rf _=>rfl
 | .any=>rfl
theorem NN (ts:List Tt):(ts.map Tt.sw).map Tt.toT=(ts.map Tt.toT).map T.sw:=by
 rw [Wo,Wo];exact Ws fun t _=>Tt.sw_toT t
theorem A1.sw_toV:∀ x:A1,x.sw.toV=x.toV.sw
 | .c t=>congrArg AV1.c t.sw_toT
 | .agg ts=>congrArg AV1.agg (NN ts)
theorem At.sw_toV:∀ x:At,x.sw.toV=x.toV.sw
 | .one x=>congrArg AV.one x.sw_toV
 | .tup xs=>congrArg AV.tup (by
  rw [Wo,Wo];exact Ws fun t _=>A1.sw_toV t)
 | .any=>rfl
theorem N6 (ts:List T) (h:Option (Nat×Step×List Step)):holed (ts.map T.sw) h=(holed ts h).map T.sw:=by
 cases h with
 | none=>rfl
 | some x=>
  obtain ⟨off,st,q⟩:=x;simp only [holed,Wa];cases ts[off]? with
  | none=>rfl
  | some t=>
   cases t with
   | ow sub l=>simp only [Option.map_some,T.sw,WS]
   | _=>rfl
theorem Rt.sw_toR (r:Rt):r.sw.toR=r.toR.sw:=by
 unfold Rt.toR Rt.sw Root.sw;dsimp only;rw [NN,N6]
theorem St.sw_toS (s:St):s.sw.toS=s.toS.sw:=by
 unfold St.toS St.sw S.sw swM;simp only [Wo]
 congr 1
 ·exact Ws fun x _=>by simp only [Function.comp,At.sw_toV]
 ·exact Ws fun x _=>by simp only [Function.comp,Rt.sw_toR]
theorem Sc (t:List (Nat×AV)) (i:Nat):aA (t.map fun x=>(x.1,x.2.sw)) i=(aA t i).sw:=by
 induction t with
 | nil=>rfl
 | cons x r ih=>
  obtain ⟨k,v⟩:=x;simp only [List.map_cons,aA];split
  ·rfl
  ·exact ih
theorem Li (m:Mm) (n:Nm):ae (swM m) n.sw=(ae m n).map Root.sw:=by
 induction m with
 | nil=>rfl
 | cons x r ih=>
  obtain ⟨k,v⟩:=x;simp only [swM,List.map_cons,ae];by_cases hk:k=n
  ·subst hk; rw [if_pos rfl,if_pos rfl]; rfl
  ·rw [if_neg hk,if_neg (fun e=>hk (Nm.sw_inj e))]; exact ih
theorem BZ {cells:List T} {o:Nat} {sub:List Sh} {l:List (List D)}:(cells.map T.sw)[o]? = some (.ow sub l) ↔ cells[o]? = some (.ow sub l):=by
 rw [Wa];cases cells[o]? with
 | none=>simp
 | some t=>cases t <;> simp [T.sw]
theorem QV {m:Mm} {p:Pl} (h:bA m p):bA (swM m) p.sw:=by
 unfold bA at h ⊢;simp only [Pl.sw,Li];cases hr:ae m p.root with
 | none=>simp [hr] at h
 | some r=>
  simp only [hr,Option.map_some] at h ⊢;split
  ·rename_i hp; simp only [hp] at h; simpa [Root.sw] using h
  ·rename_i st q hp;simp only [hp] at h;split at h
   ·rename_i sub l hc;rw [show (Root.sw r).cells[p.off]? = some (.ow sub l) from BZ.2 hc];exact h
   ·exact h.elim
theorem RP {m:Mm} {p:Pl} (h:fl m p):fl (swM m) p.sw:=by
 unfold fl at h ⊢;simp only [Pl.sw,Li];cases hr:ae m p.root with
 | none=>simp [hr] at h
 | some r=>
  simp only [hr,Option.map_some] at h ⊢;split at h
  ·rename_i sub l hc hp;rw [show (Root.sw r).cells[p.off]? = some (.ow sub l) from BZ.2 hc,hp];trivial
  ·rename_i sub l st q hc hp;rw [show (Root.sw r).cells[p.off]? = some (.ow sub l) from BZ.2 hc];simpa [hp] using h
  ·exact h.elim
section
variable {w:World} {H:FH} {γ:Gam} {m:Mm} {F:Nm->Fp}
def swG (γ:Gam):Gam:=fun n=>γ n.sw
theorem O8 (n:Nm):swG γ n.sw=γ n:=by rw [swG,Nm.sw_sw]
theorem UQ (p:Pl):plA w (swG γ) p.sw=plA w γ p:=by
 unfold plA;simp only [Pl.sw,O8]
theorem Tv (p:Pl):plV w (swG γ) p.sw=plV w γ p:=by
 unfold plV;simp only [Pl.sw,O8]
theorem QJ {t:T} {f:Fp} {y:Value} (h:TR w H γ m t f y):TR w H (swG γ) (swM m) t.sw f y:=by
 cases t with
 | pl p=>
  obtain ⟨h1,h2,a,h3,h4⟩:=h;exact ⟨h1,QV h2,a,(UQ p).trans h3,h4⟩
 | rf p=>
  obtain ⟨h1,h2,h3⟩:=h;exact ⟨h1,RP h2,(Tv p).trans h3⟩
 | _=>exact h
theorem Tf {ts:List T} {f:Fp} {vs:List Value} (h:Ts (TR w H γ m) ts f vs):Ts (TR w H (swG γ) (swM m)) (ts.map T.sw) f vs:=by
 unfold Ts at h ⊢;rw [Wc];have key:∀ (ss:List Unit) (xs:List T) (f:Fp) (vs:List Value),Cs (fun _ t=>TR w H γ m t) ss xs f vs->Cs (fun _ t=>TR w H (swG γ) (swM m) t) ss (xs.map T.sw) f vs:=by
  intro ss xs;induction xs generalizing ss with
  | nil=>intro f vs h; cases ss <;> exact h
  | cons x xs ih=>
   intro f vs h;cases ss with
   | nil=>exact h.elim
   | cons u ss=>
    obtain ⟨v,r,f1,f2,hv,hf,k1,k2⟩:=h;exact ⟨v,r,f1,f2,hv,hf,QJ k1,ih ss f2 r k2⟩
 exact key _ _ _ _ h
theorem NR {n:Nm} {r:Root} {f:Fp} (h:be w H γ m n r f):be w H (swG γ) (swM m) n.sw r.sw f:=by
 unfold be at h ⊢;by_cases hb:r.blk=true
 ·rw [if_pos hb] at h;rw [if_pos (show r.sw.blk=true from hb)];obtain ⟨b,cs,ty,fz,g,h1,h2,h3,h4,h5,h6⟩:=h;exact ⟨b,cs,ty,fz,g,by rw [swG,Nm.sw_sw]; exact h1,h2,⟨h3.1,fun t ht=>h3.2 t (by rw [<- n.sw_tyd]; exact ht)⟩,by simpa [Root.sw] using h4,Tf h5,h6⟩
 ·rw [if_neg hb] at h;rw [if_neg (show ¬ r.sw.blk=true from hb)];obtain ⟨v,t,h1,h2,h3⟩:=h;exact ⟨v,t.sw,by rw [swG,Nm.sw_sw]; exact h1,by simp [Root.sw,h2],QJ h3⟩
theorem BI (m:Mm):tot (fun n=>F n.sw) (swM m)=tot F m:=by
 funext b
 induction m with
 | nil=>rfl
 | cons x r ih=>
  simp only [swM,List.map_cons,tot,Nm.sw_sw] at ih ⊢;rw [ih]
theorem Ty (h:Mem w H γ m F):Mem w H (swG γ) (swM m) (fun n=>F n.sw):=by
 refine ⟨h.agree,fun x hx=>?_,?_,fun b=>by rw [BI]; exact h.le1 b,fun b hb=>h.lt b (by rwa [BI] at hb),fun b hb=>h.nofz b (by rwa [BI] at hb)⟩
 ·simp only [swM,WW] at hx;obtain ⟨y,hy,rfl⟩:=hx;dsimp only;rw [Nm.sw_sw];exact NR (h.roots y hy)
 ·have:(swM m).map (·.1)=(m.map (·.1)).map Nm.sw:=by simp only [swM,Wo]; rfl
  rw [this,List.nodup_iff_pairwise_ne,List.pairwise_map];exact (List.nodup_iff_pairwise_ne.1 h.keys).imp (fun hne e=>hne (Nm.sw_inj e))
theorem Od {x:AV1} {y:Value} (h:AR1 w H γ m x y):AR1 w H (swG γ) (swM m) x.sw y:=by
 cases x with
 | c t=>exact QJ h
 | agg ts=>
  obtain ⟨cs,h1,h2,h3⟩:=h;exact ⟨cs,h1,by simpa using h2,Tf h3⟩
theorem Ol:∀ {xs:List AV1} {ys:List Value},ARs w H γ m xs ys->ARs w H (swG γ) (swM m) (xs.map AV1.sw) ys
 | [],[],_=>trivial
 | _::_,_::_,h=>⟨Od h.1,Ol h.2⟩
 | [],_::_,h=>h.elim
 | _::_,[],h=>h.elim
theorem Vq {x:AV} {y:Value} (h:AR w H γ m x y):AR w H (swG γ) (swM m) x.sw y:=by
 cases x with
 | one x=>exact Od h
 | tup xs=>obtain ⟨l,h1,h2⟩:=h; exact ⟨l,h1,Ol h2⟩
 | any=>trivial
def mo (γ:Gam):Nat->Option Nat:=fun i=>match γ (.loc i) with
 | .blk b=>some b
 | .gh _=>none
theorem Vl {g:G} {s:St} {a a':Act} (h:RX g s.toS a w H γ F) {ds:List Deferred} (h1:a'.tmps=a.tmps) (h2:a'.defers=ds):RX ⟨g.nt,g.w0,g.H0,g.own0,mo γ,g.ex,ds⟩ s.sw.toS a' w H (swG γ) (fun n=>F n.sw):=by
 rw [St.sw_toS];refine ⟨Ty h.mem,?_,by rw [h1]; exact h.nt,⟨h2,fun j b hb=>?_,h.df.2.2⟩,fun i=>?_⟩
 ·show Fr g.w0 g.H0 g.own0 w H (tot (fun n=>F n.sw) (swM s.toS.m))
  rw [BI]; exact h.fr
 ·show γ (.loc j)=.blk b
  dsimp only [mo] at hb;split at hb
  ·rename_i b' hb'; rw [hb']; simp only [V6] at hb; rw [hb]
  ·cases hb
 ·show AR w H (swG γ) (swM s.toS.m) (aA (s.toS.t.map fun x=>(x.1,x.2.sw)) i) _
  rw [Sc];have e:G.tv ⟨g.nt,g.w0,g.H0,g.own0,mo γ,g.ex,ds⟩ a' i=g.tv a i:=by
   unfold G.tv;rw [h1]
  rw [e];exact Vq (h.t i)
end
end Go.Am
end

section
namespace Go.Am
open Go Go.RowKit Go.Proofs
section
variable {P:Program}
theorem Mj {f:Nat} {φ:List AV->(AV->Prop)->Prop} (hrun:∀ args w,(callFunc f args).run P w=.ok (.enter f args) w)
  (hbody:∀ (avs:List AV) (K:AV->Prop) (args:List Value) (w:World) (H:FH) (γ:Gam),φ avs K->args.length=avs.length->(∀ (i:Nat) v,avs[i]? = some v->∃ y,args[i]? = some y/\AR w H γ [] v y)->Globs H ->
   (∀ b o y,H b o=some y->w.cell? ⟨b,o,none⟩=some y) ->
   Calls P f args.toArray w (fun e w'=>∃ r av H2,e=.returned r/\K av/\Below w.heap.size w w'/\(∀ b o y,H b o=some y->H2 b o=some y)/\(∀ b o,H2 b o≠none->H b o=none->w.heap.size<=b)/\(∀ b o x l c,H2 b o=some (.slice x l c)->H b o=none->Thawed w' b) /\
    (∀ b o y,H2 b o=some y->w'.cell? ⟨b,o,none⟩=some y)/\av.isFz=true/\AR w' H2 γ [] av r)):Con P f (oo φ):=by
 refine ⟨hrun,fun g s a w H γ F ops k hX hops hK=>?_⟩;unfold oo at hK;dsimp only at hK;obtain ⟨H1,F1,h1⟩:=iB (ops.map (ev s)) s H F hX;generalize gO s (ops.map (ev s))=s1 at hK h1;obtain ⟨hfz,hφ⟩:=hK;refine (hbody _ _ (ops.map a.eval) w H1 γ hφ (by simp) (fun i v hi=>?_) (eG h1) h1.mem.agree).mono ?_
 ·rw [Wa] at hi;obtain ⟨x,hx0,rfl⟩:=WN.1 hi;have hx:=bg h1 (Wj.1 hops x (WC hx0))
  have hz:(ev s1 x).isFz=true:=Wj.1 hfz (ev s1 x) (WI (WC hx0))
  exact ⟨a.eval x,by rw [Wa,hx0]; rfl,dT ch (jo (fun _ _ _ h=>h) hz hx)⟩
 ·rintro e w' ⟨r,av,H2,rfl,hk,hb,hh,hn,hnz,hag,hz,har⟩
  have hold:∀ b,b<w.heap.size->w'.heap[b]? = w.heap[b]? := hb.block
  have hnew:∀ b,b<w.heap.size->H1 b=H2 b:=by
   intro b hb
   funext o
   cases hc:H1 b o with
   | some y=>rw [hh b o y hc]
   | none=>
    cases hc2:H2 b o with
    | none=>rfl
    | some y=>have:=hn b o (by rw [hc2]; simp) hc; omega
  have hsame:∀ b,tot F1 s1.m b≠0->w'.heap[b]? = w.heap[b]? := fun b hb=>hold b (h1.mem.lt b hb)
  have hKp:=cP (w':=w') h1.mem hsame
  have hmem:Mem w' H2 γ s1.m F1:=by
   refine ⟨hag,fun x hx=>aM hKp hh rfl (fun b hb=>hsame b (by have:=bI (F:=F1) hx b; omega)) (h1.mem.roots x hx),h1.mem.keys,h1.mem.le1,fun b hb'=>by have:=h1.mem.lt b hb'; have:=hb.size; omega,fun b hb o=>?_⟩;rw [<- hnew b (h1.mem.lt b hb)]; exact h1.mem.nofz b hb o
  have hFr:Fr w H1 (tot F1 s1.m) w' H2 (tot F1 s1.m):=
   ⟨hb.size,hb.os,hb.tape,hb.output,fun b hb _=>hold b hb,hh,fun b o h2 h3=>.inr (hn b o h2 h3),fun b hb=>.inl hb,fun b h0=>h0.of_block (hold b h0.lt),hnz⟩
  exact ⟨r,s1,av,H2,γ,F1,rfl,hk,jo (fun _ _ _ h=>h) hz har,gj h1 hmem hFr (fun i=>cE hKp hh (h1.t i)) (fun _=>rfl)⟩
theorem lz {f:Nat} {ps rs:List U} {pre:Fl ps->Prop} {F:Fl ps->Fl rs} (hrun:∀ args w,(callFunc f args).run P w=.ok (.enter f args) w)
  (hbody:∀ (x:Fl ps) (args:List Value) (w:World) (H:FH) (γ:Gam),pre x->args.length=(iz ps x).length->(∀ (i:Nat) v,(iz ps x)[i]? = some v->∃ y,args[i]? = some y/\AR w H γ [] v y)->Globs H ->
   (∀ b o y,H b o=some y->w.cell? ⟨b,o,none⟩=some y) ->
   Calls P f args.toArray w (fun e w'=>∃ r H2,e=.returned r/\Below w.heap.size w w'/\(∀ b o y,H b o=some y->H2 b o=some y)/\(∀ b o,H2 b o≠none->H b o=none->w.heap.size<=b)/\(∀ b o x l c,H2 b o=some (.slice x l c)->H b o=none->Thawed w' b) /\
    (∀ b o y,H2 b o=some y->w'.cell? ⟨b,o,none⟩=some y)/\AR w' H2 γ [] (dF rs (F x)).toV r)):Cont P f (fe ps rs pre F):=
 mR (φ:=fun avs K=>∃ x:Fl ps,avs=iz ps x/\pre x/\K (dF rs (F x)).toV) (fun x K hp hk=>⟨x,rfl,hp,hk⟩)
  (Mj hrun (fun avs K args w H γ ⟨x,hx,hp,hk⟩ hl ha hg hag=>by
   subst hx;refine (hbody x args w H γ hp hl ha hg hag).mono ?_;rintro e w' ⟨r,H2,h1,h2,h3,h4,hz,h5,h6⟩
   exact ⟨r,_,H2,h1,hk,h2,h3,h4,hz,h5,KW rs (F x),h6⟩))
theorem jr {f:Nat} {fn:Func} (hf:P.funcs[f]? = some fn) (hname:(fn.name == "runtime.NumGoroutine")=false) (hb:fn.body.isSome=true) (args:Array Value) (w:World):(callFunc f args).run P w=.ok (.enter f args) w:=by
 have h1:fn.name ≠ "runtime.NumGoroutine" := by simpa using hname
 cases hc:fn.body with
 | none=>rw [hc] at hb; cases hb
 | some c=>simp [callFunc,hf,h1,hc]
theorem jj {w:World} {H:FH} {γ:Gam} {l:List UInt8} {y:Value} (h:AR w H γ [] (.one (.c (.d (.str l)))) y):y=.string ⟨l.toArray⟩/\l.length<=BIG:=by
 obtain ⟨_,m,h⟩:=h;cases m <;> exact h
theorem vi {w:World} {H:FH} {γ:Gam} {m:Mm} {l:List UInt8} (h:l.length<=BIG):AR w H γ m (.one (.c (.d (.str l)))) (.string ⟨l.toArray⟩):=⟨fun _=>rfl,0,rfl,h⟩
theorem nk (l:List UInt8):(⟨l.toArray⟩:ByteArray).data.toList=l:=by simp
theorem qI (l:List UInt8):(⟨l.toArray⟩:ByteArray).size=l.length:=by simp [ByteArray.size]
theorem JT {args:List Value} {x y:AV} {w:World} {H:FH} {γ:Gam} (hl:args.length=2) (ha:∀ (i:Nat) v,[x,y][i]? = some v->∃ y,args[i]? = some y/\AR w H γ [] v y):∃ u v,args=[u,v]/\AR w H γ [] x u/\AR w H γ [] y v:=by
 match args,hl with
 | [u,v],_=>
  obtain ⟨u',h1,h2⟩:=ha 0 x rfl;obtain ⟨v',h3,h4⟩:=ha 1 y rfl;simp only [W1,W9,V6] at h1 h3;subst h1; subst h3;exact ⟨u,v,rfl,h2,h4⟩
theorem Dm (B:Nat) (w:World) (n:Nat):Below B w (w.drewN n):=⟨rfl,rfl,rfl,Wb _,fun _ _=>rfl⟩
theorem zW {w:World} {H:FH} (hg:Globs H) (hag:∀ b o y,H b o=some y->w.cell? ⟨b,o,none⟩=some y) {k:Nat} (hk:O2=some k):∃ n,w.cell? ⟨k,0,none⟩=some (.int .i64 n):=by
 obtain ⟨n,m,h⟩:=hg.2 k hk;obtain ⟨y,h1,h2⟩:=h 0 (by simp);have h2:FD H m (.int .i64 n) y:=h2
 have:y=.int .i64 n:=by cases m <;> exact h2.1
 subst this;exact ⟨n,hag k 0 _ h1⟩
end
end Go.Am
end

section
namespace Go.Am
open Go Go.RowKit Go.Proofs
theorem Dq (n:Int) (w:World):Calls Tryz.prog 76 #[.int .i64 n] w fun e w'=>e=.panicked (chn (Lt.flt n))/\w'=w:=by
 go_enter Tryz.func76,Tryz.ntmps76
 go_wp2
 exact ⟨rfl,rfl,rfl⟩
theorem Ue {v:At} {x:Int} (h:bS [.i .i64] [v]=some x):v.toV.map T.canon=.one (.c (.d (.int .i64 x))):=by
 obtain ⟨h1,h2,h3⟩:=eE h;have:[v.toV.map T.canon]=[AV.one (.c (.d (.int .i64 x)))]:=h3
 simpa using this
theorem Nz:Cont Tryz.prog 76 (UO Lt.flt):=by
 refine ⟨jr (fn:=Tryz.f76) (by kernel_rfl) (by kernel_rfl) (by kernel_rfl),fun pk s ops k k' hk hc=>hc,fun g pk s a w H γ F1 ops k hX hops hc=>?_⟩;unfold UO at hc;split at hc
 ·rename_i x hx
  match ops,hx with
  | [],hx=>simp [bS] at hx
  | [o],hx=>
   have hop:aX o=true:=by simpa using hops
   have hv:=bg hX hop
   rw [ax hop] at hv;have hv2:=dT ch hv
   rw [Ue hx] at hv2;obtain ⟨_,m,e1⟩:=hv2;show Calls _ _ #[a.eval o] w _
   have e1:a.eval o=.int .i64 x:=by cases m <;> exact e1.1
   rw [e1];refine (Dq x w).mono ?_;rintro e w' ⟨rfl,rfl⟩
   exact .inr ⟨_,s,rfl,hc,H,γ,F1,hX⟩
  | _::_::_,hx=>simp [bS] at hx
 ·exact hc.elim
end Go.Am
end
