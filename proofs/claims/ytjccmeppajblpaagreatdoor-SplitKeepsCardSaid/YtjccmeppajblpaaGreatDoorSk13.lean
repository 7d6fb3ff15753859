/-
  Part 13: AmE3m · AmE3n · AmE5 · AmE6 · AmE7 · AmE8 · AmE9 · AmE10 · AmE11 · AmOwnCon · AmE12 · AmOldK.
-/
import Derived.Test.YtjccmeppajblpaaGreatDoorSk12
import Derived.Deep.OwnRows
set_option linter.unusedSimpArgs false
set_option linter.unusedVariables false
set_option linter.unusedSectionVars false
set_option linter.unnecessarySimpa false
section
namespace Go.Am
open Go.MapKept
theorem tk_mp {P:Program} {d:TypeDesc} {k e:TypeId} (h:tkOf P d=.mp k e):d=.map k e:=by cases d <;> simp [tkOf] at h; obtain ⟨rfl,rfl⟩:=h; rfl
abbrev encE (ku vu:U) (x:El ku×El vu):D×D:=((cellOf ku x.1).toD,(cellOf vu x.2).toD)
theorem keyEq_enc {P:Program} {t:TypeId} {ku:U} (h:okKey P t ku=true) (a b:El ku):keyEq (cellOf ku a).toD (cellOf ku b).toD=keyE ku a b:=by
 cases ku with
 | i k=>show (decide (k=k)&&decide (a=b))=decide (a=b); simp
 | bo=>rfl
 | s=>rfl
 | _=>cases h
theorem isKD_enc {P:Program} {t:TypeId} {ku:U} (h:okKey P t ku=true) (a:El ku):isKD (ty P t).k (cellOf ku a).toD=true:=by
 cases ku with
 | i k=>
  have h:decide ((ty P t).k=.int k)=true:=h
  rw [of_decide_eq_true h]; show decide (k=k)=true; simp
 | bo=>
  have h:decide ((ty P t).k=.bool)=true:=h
  rw [of_decide_eq_true h]; rfl
 | s=>
  have h:decide ((ty P t).k=.str)=true:=h
  rw [of_decide_eq_true h]; rfl
 | _=>cases h
theorem okKey_ot {P:Program} {t:TypeId} {ku:U} (h:okKey P t ku=true):(ty P t).k≠.ot:=by
 intro e
 cases ku <;> first | (unfold okKey at h; rw [e] at h; simp at h; done) | cases h
theorem all_enc {P:Program} {t:TypeId} {ku vu:U} (h:okKey P t ku=true) (l:List (El ku×El vu)):((l.map (encE ku vu)).all fun x=>isKD (ty P t).k x.1)=true:=by
 rw [List.all_map]
 exact List.all_eq_true.2 fun x _=>isKD_enc h x.1
theorem look_enc {P:Program} {t:TypeId} {ku vu:U} (h:okKey P t ku=true) (k:El ku):∀ l:List (El ku×El vu),lookD (l.map (encE ku vu)) (cellOf ku k).toD=(lookE ku l k).map fun x=>(cellOf vu x).toD
 | []=>rfl
 | x::l=>by
  simp only [List.map_cons,lookD,lookE,keyEq_enc h]
  cases keyE ku x.1 k with
  | true=>rfl
  | false=>exact look_enc h k l
theorem ins_enc {P:Program} {t:TypeId} {ku vu:U} (h:okKey P t ku=true) (k:El ku) (v:El vu):∀ l:List (El ku×El vu),insD (l.map (encE ku vu)) (cellOf ku k).toD (cellOf vu v).toD=(insE ku l k v).map (encE ku vu)
 | []=>rfl
 | x::l=>by
  simp only [List.map_cons,insD,insE,keyEq_enc h]
  cases keyE ku x.1 k with
  | true=>rfl
  | false=>simp only [List.map_cons,ins_enc h k v l]
theorem zOK_ok {P:Program} {t:TypeId} {u:U} (h:zOK P t u=true):∃ z it,P.info? t=some it/\it.zero=some z/\z.cells=#[z]/\(∀ w,(zeroValue t).run P w=.ok z w)/\(∀ H,FDx H (cellOf u (dflt u)).toD z)/\(∀ v,u=.sl v->z=.slice none 0 0)/\leaf u=true:=by
 unfold zOK at h
 have run:∀ {z:Value},(P.info? t).bind (·.zero)=some z->∃ it,P.info? t=some it/\it.zero=some z/\∀ w,(zeroValue t).run P w=.ok z w:=by
  intro z hz
  obtain ⟨it,h1,h2⟩:=Option.bind_eq_some_iff.1 hz
  exact ⟨it,h1,h2,fun w=>by simp [zeroValue,typeInfo,h1,h2]⟩
 split at h
 ·rename_i k n k' hz
  obtain ⟨it,h1,h2,h3⟩:=run hz
  simp only [Bool.and_eq_true,decide_eq_true_eq] at h
  obtain ⟨⟨rfl,rfl⟩,_⟩:=h
  exact ⟨_,it,h1,h2,rfl,h3,fun H=>⟨0,rfl,by cases k <;> decide⟩,(fun _ e=>by cases e),rfl⟩
 ·rename_i b hz
  obtain ⟨it,h1,h2,h3⟩:=run hz
  cases b with
  | true=>cases h
  | false=>exact ⟨_,it,h1,h2,rfl,h3,fun H=>⟨0,rfl⟩,(fun _ e=>by cases e),rfl⟩
 ·rename_i str hz
  obtain ⟨it,h1,h2,h3⟩:=run hz
  refine ⟨_,it,h1,h2,rfl,h3,fun H=>⟨0,?_,Nat.zero_le _⟩,(fun _ e=>by cases e),rfl⟩
  obtain ⟨⟨l⟩⟩:=str
  cases l with
  | nil=>rfl
  | cons x l=>simp at h
 ·rename_i u hz
  obtain ⟨it,h1,h2,h3⟩:=run hz
  exact ⟨_,it,h1,h2,rfl,h3,fun H=>FDx_nil,fun _ _=>rfl,rfl⟩
 ·cases h
section
variable {P:Program} {g:G} {a:Act} {w:World} {H:FH} {γ:Gam} {F:Nm->Fp} {s:St} {k k':St->Prop}
theorem makeMapT_ext {E:Ut} {t:TypeId} {d:Tmp} (hk:∀ s',Ext s s'->k s'->k' s') (h:makeMapT P E s t d k):makeMapT P E s t d k':=by
 unfold makeMapT at h ⊢
 split at h
 ·split at h
  ·exact hk _ (((Ext_fresh _ _).trans (Ext_root _ _ _)).trans (Ext_put _ _ _)) h
  ·exact h.elim
 ·exact h.elim
theorem mapGetT_mono {m:List (Nm×Nat×Rt)} {t:TypeId} {x key:At} {ok:Bool} {k k':At->Prop} (hk:∀ v,k v->k' v) (h:mapGetT P m t x key ok k):mapGetT P m t x key ok k':=by
 unfold mapGetT at h ⊢
 (repeat' split at h) <;> first | exact h.elim | exact hk _ h
theorem mapSetT_ext {t:TypeId} {x key v:At} (hk:∀ s',Ext s s'->k s'->k' s') (h:mapSetT P s t x key v k):mapSetT P s t x key v k':=by
 unfold mapSetT at h ⊢
 (repeat' split at h) <;> first | exact h.elim | exact hk _ ⟨Nat.le_succ _,fun _ _ _ h _=>h,ExtM_set _ _ (Nat.le_refl _) _⟩ h
theorem makeSliceT_ext {e:En} {t:TypeId} {n c:At} {b:Bool} {d:Tmp} (hk:∀ s',Ext s s'->k s'->k' s') (h:makeSliceT e s t n c b d k):makeSliceT e s t n c b d k':=by
 unfold makeSliceT at h ⊢
 (repeat' split at h) <;> first | exact h.elim | exact ⟨h.1,hk _ (((Ext_fresh _ _).trans (Ext_root _ _ _)).trans (Ext_put _ _ _)) h.2⟩
theorem makeMapT_ok {E:Ut} {t:TypeId} {d:Tmp} (hX:RX g s.toS a w H γ F) (hd:okD g.nt (some d)=true) (h:makeMapT P E s t d k) {r:Option Value} (hr:∀ v,r=some v->∃ κ n,v=.int κ n) :
  ∃ t' y w' γ' F',(Instr.makeMap t r).run P w=.ok y w'/\k t'/\RX g t'.toS (a.put (some d) y) w' H γ' F':=by
 unfold makeMapT at h
 split at h
 ·rename_i kt et ht
  split at h
  ·rename_i ku vu _ _
   obtain ⟨_,td,_,hu,htd,_⟩:=ty_und ht (by simp)
   obtain rfl:=tk_mp htd
   have hn:=ND_of hX
   have h1:=RX_fresh hX (.gh d)
   obtain ⟨γ',F',h2,hγ⟩:=RX_mapnew h1 (n:=.gh d) rfl (getR_fresh hX (.gh d))
   have hrun:(Instr.makeMap t r).run P w=.ok (.map (some w.heap.size)) (w.alloc (.map #[] 0)):=by
    cases r with
    | none=>rfl
    | some v=>
     obtain ⟨κ,n,rfl⟩:=hr v rfl
     simp [Instr.makeMap,run_underlying hu,asInt,asIntOf,Result.andThen]
   refine ⟨_,_,_,γ',F',hrun,h,?_⟩
   have e:((s.fresh (.gh d)).root (.gh d) ⟨false,[.mp ku vu []],none⟩).toS=⟨(s.toS.fresh (.gh d)).t,(.gh d,⟨false,[.mp []]⟩)::(s.toS.fresh (.gh d)).m⟩:=by rw [<- fresh_toS hn]; rfl
   rw [<- e] at h2
   refine RX_SEq (put_SEq _ (some d) (.one (.c (.rf ⟨.gh d,0,[]⟩)))) (h2.put hd ?_)
   refine AR_map_rf (r:=⟨false,[.mp []]⟩) (l:=[]) (by rw [e]; simp [getR]) rfl (by show rootCell _ (γ' (.gh d)) 0=_; rw [hγ]; rfl)
  ·exact h.elim
 ·exact h.elim
theorem mapAtT_ok {p:Pl} {ku vu:U} {l:List (El ku×El vu)} (h:mapAtT s.m p=some ⟨ku,vu,l⟩):∃ r,getM s.m p.root=some r/\p.path=[]/\r.hole=none/\r.cells[p.off]? = some (.mp ku vu l)/\getR s.toS.m p.root=some r.toR/\r.toR.cells[p.off]? = some (.mp (l.map (encE ku vu)))/\r.toR=⟨r.blk,r.cells.map Tt.toT⟩:=by
 unfold mapAtT at h
 split at h
 ·cases h
 ·rename_i r hr
  split at h
  ·rename_i ku' vu' l' hp hh hc
   simp only [Option.some.injEq] at h
   cases h
   have e:r.toR=⟨r.blk,r.cells.map Tt.toT⟩:=by unfold Rt.toR; rw [hh]; rfl
   refine ⟨r,hr,hp,hh,hc,getR_of hr,?_,e⟩
   rw [e]
   show (r.cells.map Tt.toT)[p.off]? = _
   rw [List.getElem?_map,hc]; rfl
  ·cases h
theorem rf_map {p:Pl} {ku vu:U} {l:List (El ku×El vu)} (hX:RX g s.toS a w H γ F) (hm:mapAtT s.m p=some ⟨ku,vu,l⟩) {y:Value} (hy:AR w H γ s.toS.m (.one (.c (.rf p))) y) :
  ∃ b es ck,y=.map (some b)/\rootCell w (γ p.root) p.off=some (.map (some b))/\w.heap[b]? = some (.map es ck)/\Stamped es ck/\MpR H (l.map (encE ku vu)) es.toList/\F p.root b=1:=by
 obtain ⟨r,_,hp,_,_,h5,h6,_⟩:=mapAtT_ok hm
 obtain ⟨b,es,ck,c1,c2,c3,c4,c5⟩:=map_at hX.mem h5 h6
 obtain ⟨_,_,hv⟩:=hy
 refine ⟨b,es,ck,?_,c1,c2,c3,c4,c5⟩
 unfold plV at hv
 rw [hp] at hv
 dsimp only at hv
 rw [c1] at hv
 exact (Option.some.inj hv).symm
theorem mapGetT_ok {t:TypeId} {x key:At} {ok:Bool} {k:At->Prop} (hX:RX g s.toS a w H γ F) {y kv:Value} (hy:AR w H γ s.toS.m x.toV y) (hkv:AR w H γ s.toS.m key.toV kv) (h:mapGetT P s.m t x key ok k) :
  ∃ z v,(Instr.lookup t y kv ok).run P w=.ok z w/\AR w H γ s.toS.m v.toV z/\k v:=by
 unfold mapGetT at h
 split at h
 ·rename_i kt et ht
  split at h
  ·rename_i p c
   split at h
   ·rename_i ku vu l hm
    split at h
    ·rename_i kx hc hk
     simp only [Bool.and_eq_true] at hc
     obtain ⟨_,td,_,hu,htd,_⟩:=ty_und ht (by simp)
     obtain rfl:=tk_mp htd
     obtain ⟨_,kd,_,hku,hkd,_⟩:=ty_und rfl (okKey_ot hc.1)
     obtain ⟨b,es,ck,rfl,_,c2,c3,c4,_⟩:=rf_map hX hm hy
     obtain ⟨z,_,_,_,_,zr,zf,_,zl⟩:=zOK_ok hc.2
     have hkey:FDx H (cellOf ku kx).toD kv:=by rw [ofCell_eq hk] at hkv; exact hkv.2
     obtain ⟨v,e1,e2⟩:=run_mapget (P:=P) hu hku c2 c4 (by rw [hkd]; exact all_enc hc.1 l) (by rw [hkd]; exact isKD_enc hc.1 kx) hkey (zr w) ok
     rw [look_enc hc.1] at e1 e2
     have hv:FDx H (cellOf vu ((lookE ku l kx).getD (dflt vu))).toD v:=by
      cases hl:lookE ku l kx with
      | none=>rw [hl] at e2; rw [show v=z from e2]; exact zf H
      | some x=>rw [hl] at e2; exact e2
     refine ⟨_,_,e1,?_,h⟩
     unfold resM
     cases ok with
     | true=>exact ⟨_,rfl,⟨fun _=>rfl,hv⟩,⟨fun _=>rfl,0,by rw [Option.isSome_map]; rfl⟩,trivial⟩
     | false=>exact ⟨fun _=>rfl,hv⟩
    ·exact h.elim
   ·exact h.elim
  ·exact h.elim
 ·exact h.elim
theorem canU_leaf {vu:U} {tv:Tt} {vx:El vu} (hl:leaf vu=true) (h:canU vu [tv]=some vx) {m:Mm} {y:Value} (hy:TR w H γ m tv.toT (fun _=>0) y):FDx H (cellOf vu vx).toD y:=by
 have h1:canC vu tv=some vx:=by cases vu <;> first | exact h | cases hl
 unfold canC at h1
 split at h1
 ·rw [ofCell_eq h1] at hy; exact hy.2
 ·split at h1
  ·simp only [Option.some.injEq] at h1; subst h1
   obtain ⟨_,rfl⟩:=hy
   exact FDx_nil
  ·cases h1
 ·cases h1
theorem mapSetT_ok {t:TypeId} {x key v:At} (hX:RX g s.toS a w H γ F) {y kv vv:Value} (hy:AR w H γ s.toS.m x.toV y) (hkv:AR w H γ s.toS.m key.toV kv) (hvv:AR w H γ s.toS.m v.toV vv) (h:mapSetT P s t x key v k) :
  ∃ t' w',(Instr.mapUpdate t y kv vv).run P w=.ok () w'/\k t'/\RX g t'.toS a w' H γ F:=by
 unfold mapSetT at h
 split at h
 ·rename_i kt et ht
  split at h
  ·rename_i p c tv
   split at h
   ·rename_i ku vu l r0 hm hr0
    split at h
    ·rename_i kx vx hc hk hcv
     simp only [Bool.and_eq_true] at hc
     obtain ⟨_,td,_,hu,htd,_⟩:=ty_und ht (by simp)
     obtain rfl:=tk_mp htd
     obtain ⟨_,kd,_,hku,hkd,_⟩:=ty_und rfl (okKey_ot hc.1)
     obtain ⟨b,es,ck,rfl,c1,c2,c3,c4,c5⟩:=rf_map hX hm hy
     obtain ⟨r,g1,g2,g3,g4,g5,g6,g7⟩:=mapAtT_ok hm
     rw [hr0] at g1
     obtain rfl:=Option.some.inj g1
     have hkey:FDx H (cellOf ku kx).toD kv:=by rw [ofCell_eq hk] at hkv; exact hkv.2
     have hval:FDx H (cellOf vu vx).toD vv:=canU_leaf hc.2 hcv hvv
     obtain ⟨es',ck',e1,e2,e3⟩:=run_mapset (P:=P) hu hku c2 c3 c4 (by rw [hkd]; exact all_enc hc.1 l) (by rw [hkd]; exact isKD_enc hc.1 kx) hkey hval
     rw [ins_enc hc.1] at e3
     refine ⟨_,_,e1,h,?_⟩
     have:=RX_mapset hX g5 g6 c1 c2 c5 e2 e3
     have e:(⟨s.nx+1,s.t,setM s.m p.root s.nx { r0 with cells:=r0.cells.set p.off (.mp ku vu (insE ku l kx vx)) }⟩:St).toS=⟨s.toS.t,setR s.toS.m p.root { r0.toR with cells:=r0.toR.cells.set p.off (.mp ((insE ku l kx vx).map (encE ku vu))) }⟩:=by
      refine drop_toS.S_ext rfl ?_
      show toM (setM s.m p.root s.nx _)=_
      rw [setM_toM]
      congr 1
      rw [g7]
      unfold Rt.toR
      rw [g3]
      simp only [holed,List.map_set,Tt.toT]
     rw [e]; exact this
    ·exact h.elim
   ·exact h.elim
  ·exact h.elim
 ·exact h.elim
theorem made_list (z:Value) (n:Nat):(madeCells #[z] n).toList=List.replicate n z:=by
 unfold madeCells
 apply List.ext_getElem
 ·simp
 ·intro i h1 h2
  simp [Nat.mod_one]
theorem makeSliceT_ok {e:En} {t:TypeId} {n c:Operand} {d:Tmp} (hX:RX g s.toS a w H γ F) (hd:okD g.nt (some d)=true) (hno:okOp n=true) (h:makeSliceT e s t (evA s n) (evA s c) (sameOp n c) d k) :
  ∃ t' y w' γ' F',(Instr.makeSlice t (a.eval n) (a.eval c)).run e.P w=.ok y w'/\k t'/\RX g t'.toS (a.put (some d) y) w' H γ' F':=by
 have hsame:sameOp n c=true->a.eval c=a.eval n:=by
  intro hs
  unfold sameOp at hs
  split at hs
  ·rw [Nat.eq_of_beq_eq_true hs]
  ·cases hs
 have hv:=ev_ok hX hno
 rw [evA_toV hno] at hv
 unfold makeSliceT at h
 split at h
 ·rename_i el ht hs
  split at h
  ·rename_i i he
   rw [he] at hv
   obtain ⟨hi,hw⟩:=AR_int hv
   split at h
   ·rename_i u hu
    split at h
    ·rename_i hc
     simp only [Bool.and_eq_true] at hc
     obtain ⟨⟨h0,h1,h2⟩,h⟩:=h
     obtain ⟨_,td,_,hud,htd,_⟩:=ty_und ht (by simp)
     obtain rfl:=tk_sl htd
     obtain ⟨z,it,z1,z2,z3,_,z5,z6,z7⟩:=zOK_ok hc.1.1
     have hok:(ty e.P el).ok=true:=by
      cases hb:(ty e.P el).ok with
      | true=>rfl
      | false=>
       have:=Nat.eq_of_beq_eq_true hc.1.2
       unfold ty at hb this
       rw [z1] at hb this
       cases hud2:e.P.underlying el with
       | none=>rw [hud2] at this; simp at this
       | some d2=>rw [hud2] at hb; simp at hb
     obtain ⟨it',_,i1,_,_,i4,i5,_⟩:=ty_ok hok
     rw [z1] at i1
     obtain rfl:=Option.some.inj i1
     have hs1:it.size=1:=by rw [<- i4]; exact Nat.eq_of_beq_eq_true hc.1.2
     rw [i5] at h2
     have hrun:=run_make_row (P:=e.P) t el it z hud z1 z2 hs1 z3 .i64 .i64 i.toNat h2 (by omega) w
     rw [Int.toNat_of_nonneg h0] at hrun
     have h3:=RX_fresh hX (.gh d)
     have hn:=ND_of hX
     have hrow:∀ k,Cs (OD w H (k+1)) (List.replicate i.toNat ((shGet e.sh el).getD [.fr])).flatten (List.replicate i.toNat [(cellOf u (dflt u)).toD]).flatten (fun _=>0) (madeCells #[z] i.toNat).toList:=by
      intro k
      rw [made_list]
      generalize i.toNat=N
      induction N with
      | zero=>exact fun _=>rfl
      | succ N ih=>
       rw [List.replicate_succ,List.replicate_succ,List.replicate_succ,List.flatten_cons,List.flatten_cons]
       have hr:=hc.2
       generalize (shGet e.sh el).getD [.fr]=sub at hr ih
       unfold rowOK at hr
       split at hr
       ·exact ⟨z,_,fun _=>0,fun _=>0,rfl,fun _=>rfl,OD_fr.2 ⟨fun _=>rfl,z5 H⟩,ih⟩
       ·rename_i sub' u'
        refine ⟨z,_,fun _=>0,fun _=>0,rfl,fun _=>rfl,?_,ih⟩
        show OD w H (k+1) (.ow sub') (.li []) _ z
        rw [OD_ow]
        exact .inl ⟨rfl,z6 _ rfl,fun _=>rfl⟩
       ·cases hr
     have hlen1:((shGet e.sh el).getD [.fr]).length=1:=by
      have hr:=hc.2
      generalize (shGet e.sh el).getD [.fr]=sub at hr
      unfold rowOK at hr
      split at hr
      ·rfl
      ·rfl
      ·cases hr
     obtain ⟨γ',F',hX2,hγ⟩:=RX_newrow2 h3 (n:=.gh d) rfl (getR_fresh hX (.gh d)) (cs:=madeCells #[z] i.toNat) (ty':=el) (len:=i.toNat) (cap:=i.toNat) (sub:=(shGet e.sh el).getD [.fr]) (l:=List.replicate i.toNat [(cellOf u (dflt u)).toD]) (by simp) (Nat.le_refl _) (by show i.toNat<=2 ^ 62; omega)
      (fun x hx=>by rw [(List.mem_replicate.1 hx).2,hlen1]; rfl) (by rw [hlen1,size_madeCells]; omega) hrow
     refine ⟨_,_,_,γ',F',by rw [hsame hs,hi]; exact hrun,h,?_⟩
     have em:(List.replicate i.toNat (dflt u)).map (encU u)=List.replicate i.toNat [(cellOf u (dflt u)).toD]:=by
      rw [List.map_replicate]
      congr 1
      rw [<- flat_enc,flat_leaf z7]; rfl
     have e2:((s.fresh (.gh d)).root (.gh d) ⟨false,[.ow ((shGet e.sh el).getD [.fr]) u (List.replicate i.toNat (dflt u))],none⟩).toS=(s.toS.fresh (.gh d)).root (.gh d) ⟨false,[.ow ((shGet e.sh el).getD [.fr]) (List.replicate i.toNat [(cellOf u (dflt u)).toD])]⟩:=by
      rw [<- em,<- fresh_toS hn]; rfl
     rw [<- e2] at hX2
     refine RX_SEq (put_SEq _ (some d) (.one (.c (.rf ⟨.gh d,0,[]⟩)))) (RX.put hX2 hd (AR_ghost (sub:=(shGet e.sh el).getD [.fr]) (l:=List.replicate i.toNat [(cellOf u (dflt u)).toD]) ?_ hγ))
     rw [e2]
     simp [S.root,getR]
    ·exact h.elim
   ·exact h.elim
  ·exact h.elim
 ·exact h.elim
end
end Go.Am
end

section
namespace Go.Am
section
variable {P:Program} {g:G} {s:S} {a:Act} {w:World} {H:FH} {γ:Gam} {F:Nm->Fp}
theorem RX_newrow3 (h:RX g s a w H γ F) {n:Nm} (hno:n.isOut=false) (hn:getR s.m n=none) {cs:Array Value} {ty':TypeId} {sub:List Sh} {row:List D} {k:Nat} {f:Fp} (hx:row.length=sub.length) (hsz:cs.size=sub.length)
  (hcs:Cs (OD w H k) sub row f cs.toList) (hd:∀ b,tot F s.m b+f b<=1) (hl:∀ b,f b≠0->b<w.heap.size/\(∀ o,H b o=none)/\(g.own0 b≠0\/g.w0.heap.size<=b)) :
  ∃ γ' F',RX g (s.root n ⟨false,[.ow sub [row]]⟩) a (w.alloc (.cells cs ty')) H γ' F'/\γ' n=.gh (.slice (some ⟨w.heap.size,0,none⟩) 1 1):=by
 obtain ⟨hm,hf,hK,hH⟩:=Mem_alloc h.mem cs ty' false
 simp only [Bool.false_eq_true,false_and,if_false] at hm hf hK hH
 have hX:RX g s a (w.alloc (.cells cs ty')) H γ F:=RX_step h hm hf (fun i=>AR_keeps hK (fun _ _ _ h=>h) (h.t i)) (fun _=>rfl)
 have hz:tot F s.m w.heap.size=0:=by
  rcases Nat.eq_zero_or_pos (tot F s.m w.heap.size) with h' | h'
  ·exact h'
  ·have:=h.mem.lt w.heap.size (by omega); omega
 have hfz:f w.heap.size=0:=by
  rcases Nat.eq_zero_or_pos (f w.heap.size) with h' | h'
  ·exact h'
  ·have:=(hl w.heap.size (by omega)).1; omega
 have hHz:∀ o,H w.heap.size o=none:=by
  intro o
  cases hc:H w.heap.size o with
  | none=>rfl
  | some y=>have:=World.block_lt_of_cell? _ _ (h.mem.agree _ _ _ hc); simp at this
 have hcs':Cs (OD (w.alloc (.cells cs ty')) H k) sub row f cs.toList:=
  Cs_mono _ _ _ _ (fun s x g v hg hod=>OD_frame (fun _ _ _ h=>h) k k _ _ _ _ (Nat.le_refl _) (fun b hb=>heap_alloc_old' (hl b (by have:=hg b; omega)).1) hod) hcs
 have hod:TR (w.alloc (.cells cs ty')) H γ s.m (.ow sub [row]) (fun b=>f b+if b=w.heap.size then 1 else 0) (.slice (some ⟨w.heap.size,0,none⟩) 1 1):=by
  refine ⟨k+1,OD_new (l:=[row]) (c:=1) (heap_alloc_new') rfl (by rw [hsz]; simp) (Nat.le_refl _) (by show 1<=4611686018427387904; omega) (fun x hx'=>by obtain rfl:=List.mem_singleton.1 hx'; exact hx) ?_⟩
  simpa using hcs'
 have hsize:(w.alloc (.cells cs ty')).heap.size=w.heap.size+1:=by show (w.heap.push _).size=_; simp
 refine RX_ghost hX hno hn hod (fun b=>?_) (fun b hb=>?_) (fun b hb=>?_)
 ·by_cases hb:b=w.heap.size
  ·subst hb; rw [hz,hfz]; simp
  ·rw [if_neg hb]; have:=hd b; omega
 ·by_cases hb':b=w.heap.size
  ·subst hb'; exact ⟨by omega,hHz⟩
  ·rw [if_neg hb'] at hb
   have:=hl b (by omega)
   exact ⟨by omega,this.2.1⟩
 ·by_cases hb':b=w.heap.size
  ·subst hb'; right; exact h.fr.size
  ·rw [if_neg hb'] at hb
   exact (hl b (by omega)).2.2
end
theorem rfOne_get:∀ {ts:List Tt} {i j:Nat} {q:Pl},rfOne ts i=some (j,q)->i<=j/\ts[j-i]? = some (.rf q)
 | [],_,_,_,h=>by cases h
 | t::r,i,j,q,h=>by
  have next:rfOne r (i+1)=some (j,q)->i<=j/\(t::r)[j-i]? = some (.rf q):=fun h=>by
   obtain ⟨h1,h2⟩:=rfOne_get h
   refine ⟨by omega,?_⟩
   rw [show j-i=(j - (i+1))+1 from by omega,List.getElem?_cons_succ]
   exact h2
  cases t with
  | rf q'=>
   simp only [rfOne,Option.some.injEq,Prod.mk.injEq] at h
   obtain ⟨rfl,rfl⟩:=h
   exact ⟨Nat.le_refl _,by simp⟩
  | _=>exact next h
theorem fill_one {n:Nat} {us z:Array Value} (hu:us.size=n) (hz:z.size=1*n):Instr.fill (fun i=>some (i*n,n)) z [(0,.agg us)]=some us:=by
 have hc:(Value.agg us).cells=us:=rfl
 simp only [Instr.fill,hc]
 rw [if_neg (by simp [hu,hz])]
 congr 1
 have key:∀ (k:Nat) (l:List Value) (z:Array Value),k+l.length<=z.size->((l.zipIdx k).foldl (fun cs (x:Value×Nat)=>cs.setIfInBounds (0*n+x.2) x.1) z).toList=z.toList.take k++l++z.toList.drop (k+l.length):=by
  intro k l
  induction l generalizing k with
  | nil=>intro z _; simp
  | cons x l ih=>
   intro z hk
   simp only [List.length_cons] at hk
   simp only [List.zipIdx_cons,List.foldl_cons]
   rw [ih (k+1) _ (by simp; omega)]
   simp only [Nat.zero_mul,Nat.zero_add,Array.toList_setIfInBounds]
   rw [List.take_set,List.drop_set_of_lt (by omega)]
   have h1:(z.toList.take (k+1)).set k x=z.toList.take k++[x]:=by
    rw [List.take_add_one,List.set_append_right _ _ (by simp; omega)]
    have:z.toList[k]? = some (z.toList[k]'(by simp; omega)):=List.getElem?_eq_getElem _
    have hmin:k-min k z.size=0:=by omega
    rw [this]
    simp [hmin]
   rw [h1]
   simp only [List.length_cons,List.append_assoc,List.singleton_append,List.cons_append,List.nil_append]
   rw [show k+1+l.length=k+(l.length+1) from by omega]
 apply Array.ext'
 have e:us.zipIdx.foldl (fun cs (x:Value×Nat)=>cs.setIfInBounds (0*n+x.2) x.1) z=(us.toList.zipIdx 0).foldl (fun cs (x:Value×Nat)=>cs.setIfInBounds (0*n+x.2) x.1) z:=by
  rw [<- Array.foldl_toList,Array.toList_zipIdx]
 rw [e,key 0 us.toList z (by simp; omega)]
 simp
 omega
section
variable {P:Program} {g:G} {s:St} {a:Act} {w:World} {H:FH} {γ:Gam} {F:Nm->Fp} {k:St->Prop}
theorem buildSliceT3_ok {E:Ut} {sub:List Sh} {t:TypeId} {len:Nat} {ps:Array (Nat×Operand)} {d:Tmp} (hX:RX g s.toS a w H γ F) (hd:okD g.nt (some d)=true) (hps:(ps.toList.all fun x=>okOp x.2)=true) (h:buildSliceT3 P E sub s t len ps d k) :
  ∃ t' y w' γ' F',(Instr.buildSlice t len (ps.map fun (i,x)=>(i,a.eval x))).run P w=.ok y w'/\k t'/\RX g t'.toS (a.put (some d) y) w' H γ' F':=by
 unfold buildSliceT3 at h
 split at h
 ·rename_i e ht
  split at h
  ·rename_i u z ts he hz hp
   split at h
   ·rename_i j q hj
    split at h
    ·rename_i sub' sh2 u' l2 hsj hsl
     split at h
     ·rename_i s1 sub3 l' hb
      split at h
      ·rename_i l hc hl
       simp only [Bool.and_eq_true] at hc
       obtain ⟨⟨⟨⟨⟨⟨c1,c2⟩,c3⟩,c4⟩,c5⟩,c6⟩,c7,c8,c9⟩:=hc
       have hsz:=Nat.eq_of_beq_eq_true c2
       obtain rfl:=Nat.eq_of_beq_eq_true c4
       have hsl5:=Nat.eq_of_beq_eq_true c5
       have htl:=Nat.eq_of_beq_eq_true c6
       obtain rfl:=shpEqs_eq c7
       obtain ⟨pl⟩:=ps
       have hp1:pl.map (fun x=>(x.1,evA s x.2))=[(0,.one (.agg ts))]:=hp
       match pl,hp1,hps with
       | [],hp1,_=>cases hp1
       | _::_::_,hp1,_=>simp at hp1
       | [(i,x)],hp1,hps=>
       simp only [List.map_cons,List.map_nil,List.cons.injEq,Prod.mk.injEq,and_true] at hp1
       obtain ⟨rfl,hx⟩:=hp1
       have hop:okOp x=true:=by simpa using hps
       have hv:=ev_ok hX hop
       rw [evA_toV hop,hx] at hv
       obtain ⟨cs,hcs1,hcs2,hcs3⟩:=hv
       have hcs2:cs.size=ts.length:=by simpa using hcs2
       obtain ⟨_,hjj⟩:=rfOne_get hj
       rw [Nat.sub_zero] at hjj
       have hjl:j<ts.length:=(List.getElem?_eq_some_iff.1 hjj).1
       have hjT:(ts.map Tt.toT)[j]? = some (.rf q):=by rw [List.getElem?_map,hjj]; rfl
       obtain ⟨_,v,gv,_,hv1,hv2,hv3⟩:=Cs_get hcs3 hjT
       have hvr:AR w H γ s.toS.m (.one (.c (.rf q))) v:=⟨fun _=>rfl,hv2.2⟩
       have hnd:=ND_of hX
       obtain ⟨b1,b2,_⟩:=baseT_ok (size:=nc u') rfl hnd (fun q' hq'=>by
        cases hq'
        exact okP_rf hv2.2.1) hb
       obtain ⟨kb,f,F1,k1,k2,k3,k4,k5⟩:=base_ok2 hX hvr b1
       have hfz:=subOk_ok c9
       obtain ⟨_,_,_,fk,fr,_,_,_,a4,_,a6,_⟩:=Cs_focus _ _ _ _ j hcs3 (by simpa using hjl)
       have hT2:Ts (TR w H γ s.toS.m) ((ts.set j .nil).map Tt.toT) (fun _=>0) (cs.toList.set j (.slice none 0 0)):=by
        have:=a6 (fun _=>TR w H γ s.toS.m) .nil (.slice none 0 0) (fun _=>0) (fun _ _ _ _ _ h=>h) ⟨fun _=>rfl,rfl⟩
        unfold Ts
        rw [List.length_map,List.length_set]
        rw [List.length_map] at this
        rw [List.map_set]
        exact Cs_congr (fun b=>by have:=a4 b; omega) this
       have hC:=Cs_fzS (k:=kb) (fun _=>rfl) hfz hT2
       obtain ⟨sj,_,_,fk2,fr2,d1,_,_,d4,_,d6,_⟩:=Cs_focus _ _ _ _ j hC (by simpa using hjl)
       rw [hsj] at d1
       obtain rfl:=Option.some.inj d1
       have hC2:=d6 (OD w H (kb+1)) (.li (l'.map (encU u'))) v f (fun _ _ _ _ _ h=>h) (OD_frame (fun _ _ _ h=>h) kb (kb+1) _ _ _ _ (Nat.le_succ _) (fun _ _=>rfl) k1)
       rw [List.set_set,show cs.toList.set j v=cs.toList from set_same hv1] at hC2
       have hrow:=fz_canRows hl
       simp only [List.map_cons,List.map_nil] at hrow
       match l,hl,hrow,h with
       | [],_,hrow,_=>cases hrow
       | _::_::_,_,hrow,_=>simp at hrow
       | [y],hl,hrow,h=>
       simp only [List.map_cons,List.map_nil,List.cons.injEq,and_true] at hrow
       have e1:((ts.set j .nil).map fun t=>t.toT.fz).set j (.li (l'.map (encU u')))=encU u y:=by
        rw [<- hrow,List.map_set,List.set_set,List.map_set]
        rfl
       rw [e1] at hC2
       have hn2:=RX_fresh k2 (.gh d)
       have hts:∀ b,tot F1 (s1.toS.fresh (.gh d)).m b<=tot F1 s1.toS.m b:=by
        intro b
        unfold S.fresh
        split
        ·exact Nat.le_refl _
        ·show tot F1 (killM _ _) b<=_
         rw [tot_killM]; exact tot_delR
       obtain ⟨_,td,_,hud,htd,_⟩:=ty_und ht (by simp)
       obtain rfl:=tk_sl htd
       obtain ⟨ie,de,hie,_,_,hsize,_,_⟩:=ty_ok c1
       obtain ⟨it',z0,hi',hz0,_,_⟩:=zcells_ok hz
       rw [hie] at hi'
       obtain rfl:ie=it':=by simpa using hi'
       have hnc:ie.size=nc u:=by rw [<- hsize,<- hsz]
       obtain ⟨us,cs',r1,r2,r3⟩:=run_buildSlice' (P:=P) (w:=w) (t:=t) (len:=1) (vs:=#[(0,a.eval x)]) (cells:=#[]) hud hie hz0 (by rw [hnc]; have:=Nat.le_of_ble_eq_true c3; omega) (fun us hus=>by
        refine ⟨cs,?_,by rw [hcs2,htl,hnc]; omega,.inr trivial⟩
        rw [hcs1]
        exact fill_one (by rw [hcs2,htl,hnc]) hus)
       have hfill:Instr.fill (fun i=>some (i*ie.size,ie.size)) us #[(0,a.eval x)].toList=some cs:=by
        rw [hcs1]
        exact fill_one (by rw [hcs2,htl,hnc]) r1
       rw [hfill] at r2
       obtain rfl:=Option.some.inj r2
       obtain ⟨γ',F',hX4,hγ⟩:=RX_newrow3 (ty':=e) hn2 (n:=.gh d) rfl (getR_fresh k2 (.gh d)) (by rw [encU_length,hsl5]) (by rw [hcs2,htl,hsl5]) (Cs_congr (f:=fun b=>f b+fr2 b) (g:=f) (fun b=>by have:=d4 b; omega) hC2)
        (fun b=>by have h1:=hts b; have h2:=k4 b; have h3:=hX.mem.le1 b; omega) k5
       have e2:((s1.fresh (.gh d)).root (.gh d) ⟨false,[.ow sub u [y]],none⟩).toS=(s1.toS.fresh (.gh d)).root (.gh d) ⟨false,[.ow sub [encU u y]]⟩:=by
        rw [<- fresh_toS b2]; rfl
       rw [<- e2] at hX4
       refine ⟨_,_,_,γ',F',by rw [show (Array.map (fun (x:Nat×Operand)=>(x.1,a.eval x.2)) ⟨[(0,x)]⟩)=#[(0,a.eval x)] from by simp]; exact r3,h,?_⟩
       refine RX_SEq (put_SEq _ (some d) (.one (.c (.rf ⟨.gh d,0,[]⟩)))) (RX.put hX4 hd (AR_ghost (sub:=sub) (l:=[encU u y]) ?_ hγ))
       rw [e2]
       simp [S.root,getR]
      ·exact h.elim
     ·exact h.elim
    ·exact h.elim
   ·exact h.elim
  ·exact h.elim
 ·exact h.elim
end
end Go.Am
end

section
namespace Go.Am
abbrev chn (v:Value):List PanicEntry:=[{ v,recovered:=false }]
def callPost (g:G) (a:Act) (pk:PKt) (k:St->At->Prop) (e:Ending) (w':World):Prop:=
 (∃ r s' av H' γ' F',e=.returned r/\k s' av/\AR w' H' γ' (toM s'.m) av.toV r/\RX g s'.toS a w' H' γ' F') \/
 ∃ v s',e=.panicked (chn v)/\pk v s'/\R g s'.toS a w'
structure Cont (P:Program) (f:Nat) (C:CKt):Prop where
 run:∀ args w,(callFunc f args).run P w=.ok (.enter f args) w
 ext:∀ (pk:PKt) (s:St) (ops:List Operand) (k k':St->At->Prop),(∀ s' v,Ext s s'->k s' v->k' s' v)->C pk s ops k->C pk s ops k'
 call:∀ (g:G) (pk:PKt) (s:St) (a:Act) (w:World) (H:FH) (γ:Gam) (F:Nm->Fp) (ops:List Operand) (k:St->At->Prop),RX g s.toS a w H γ F->ops.all okOp=true->C pk s ops k ->
  Calls P f (ops.map a.eval).toArray w (callPost g a pk k)
def En.ok (e:En):Prop:=∀ x∈e.cs,Cont e.P x.1 x.2
theorem En.ok_get {e:En} (h:e.ok) {f:Nat} {C:CKt} (hg:e.cs.get f=some C):Cont e.P f C:=by
 have:∀ cs:CTt,(∀ x∈cs,Cont e.P x.1 x.2)->cs.get f=some C->Cont e.P f C:=by
  intro cs
  induction cs with
  | nil=>intro _ h; cases h
  | cons x cs ih=>
   obtain ⟨f',C'⟩:=x
   intro h hg2
   simp only [CTt.get] at hg2
   split at hg2
   ·rename_i hb
    have:=Nat.eq_of_beq_eq_true hb
    subst this
    have hg':C'=C:=by simpa using hg2
    subst hg'
    exact h (f',C') (by simp)
   ·exact ih (fun y hy=>h y (List.mem_cons_of_mem _ hy)) hg2
 exact this e.cs h hg
section
variable {k k':At->Prop}
theorem pickT_mono {c x y:At} (hk:∀ v,k v->k' v) (h:pickT c x y k):pickT c x y k':=by
 unfold pickT at h ⊢
 (repeat' split at h) <;> first | exact h.elim | exact hk _ h | exact ⟨h.1,hk _ h.2⟩ | (simp_all; done)
theorem numT_mono {op:BinOp} {κ:IntKind} {a b:Int} {K K':C->Prop} (hk:∀ v,K v->K' v) (h:numT op κ a b K):numT op κ a b K':=by
 unfold numT at h ⊢
 cases op <;> first | exact hk _ h | exact ⟨h.1,hk _ h.2⟩
theorem binC_mono {op:BinOp} {x y:C} {K K':C->Prop} (hk:∀ v,K v->K' v) (h:binC op x y K):binC op x y K':=by
 unfold binC at h ⊢
 split at h
 ·split at h <;> first | exact h.elim | exact hk _ h | exact ⟨h.1,hk _ h.2⟩
 ·split at h
  ·split at h
   ·rename_i hc; rw [if_pos hc]; exact numT_mono hk h
   ·exact h.elim
  ·exact h.elim
theorem binT_mono {P:Program} {op:BinOp} {t:TypeId} {x y:At} (hk:∀ v,k v->k' v) (h:binT P op t x y k):binT P op t x y k':=by
 unfold binT at h ⊢
 (repeat' split at h) <;> first | exact h.elim | exact hk _ h | exact ⟨h.1,hk _ h.2⟩ | exact binC_mono (fun v hv=>hk _ hv) h | (simp_all; done)
theorem unT_mono {op:UnOp} {x:At} (hk:∀ v,k v->k' v) (h:unT op x k):unT op x k':=by
 unfold unT at h ⊢
 (repeat' split at h) <;> first | exact h.elim | exact hk _ h | exact ⟨h.1,hk _ h.2⟩ | (simp_all; done)
theorem extractT_mono {x:At} {i:Nat} (hk:∀ v,k v->k' v) (h:extractT x i k):extractT x i k':=by
 unfold extractT at h ⊢
 (repeat' split at h) <;> first | exact h.elim | exact hk _ h | exact ⟨h.1,hk _ h.2⟩ | (simp_all; done)
theorem strAtT_mono {x i:At} (hk:∀ v,k v->k' v) (h:strAtT x i k):strAtT x i k':=by
 unfold strAtT at h ⊢
 (repeat' split at h) <;> first | exact h.elim | exact hk _ h | exact ⟨h.1,hk _ h.2⟩ | (simp_all; done)
theorem boundT_mono {y:Option At} {d:Nat} {k1 k2:Nat->Prop} (hk:∀ n,k1 n->k2 n) (hb:boundT y d k1):boundT y d k2:=by
 unfold boundT at hb ⊢
 split at hb
 ·exact hk _ hb
 ·exact ⟨hb.1,hk _ hb.2⟩
 ·exact hb.elim
theorem sliceT_mono {P:Program} {t:TypeId} {x:At} {lo hi:Option At} (hk:∀ v,k v->k' v) (h:sliceT P t x lo hi k):sliceT P t x lo hi k':=by
 unfold sliceT at h ⊢
 split at h
 ·split at h
  ·exact boundT_mono (fun a ha=>boundT_mono (fun b hb=>⟨hb.1,hk _ hb.2⟩) ha) h
  ·exact h.elim
 ·split at h
  ·skip
   split at h
   ·exact boundT_mono (fun a ha=>boundT_mono (fun b hb=>⟨hb.1,hk _ hb.2⟩) ha) h
   ·exact h.elim
  ·exact h.elim
 ·split at h
  ·skip
   split at h
   ·exact boundT_mono (fun a ha=>boundT_mono (fun b hb=>⟨hb.1,hb.2.1,hk _ hb.2.2⟩) ha) h
   ·exact h.elim
  ·exact h.elim
 ·exact h.elim
theorem fieldAddrT_mono {P:Program} {m:List (Nm×Nat×Rt)} {t:TypeId} {x:At} {i:Nat} (hk:∀ v,k v->k' v) (h:fieldAddrT P m t x i k):fieldAddrT P m t x i k':=by
 unfold fieldAddrT at h ⊢
 split at h
 ·skip
  split at h
  ·skip
   split at h
   ·split at h
    ·exact hk _ h
    ·exact h.elim
   ·exact hk _ h
   ·exact h.elim
  ·exact h.elim
 ·exact h.elim
theorem indexAddrT_mono {P:Program} {m:List (Nm×Nat×Rt)} {t:TypeId} {x i:At} (hk:∀ v,k v->k' v) (h:indexAddrT P m t x i k):indexAddrT P m t x i k':=by
 unfold indexAddrT at h ⊢
 split at h
 ·split at h
  ·skip
   split at h
   ·split at h
    ·exact ⟨h.1,hk _ h.2⟩
    ·exact h.elim
   ·split at h
    ·skip
     split at h
     ·skip
      split at h
      ·exact ⟨h.1,hk _ h.2⟩
      ·exact h.elim
     ·exact h.elim
    ·exact h.elim
   ·exact h.elim
  ·skip
   split at h
   ·split at h
    ·exact ⟨h.1,hk _ h.2⟩
    ·exact h.elim
   ·split at h
    ·exact ⟨h.1,hk _ h.2⟩
    ·exact h.elim
   ·exact h.elim
  ·exact h.elim
 ·exact h.elim
theorem loadT_mono {P:Program} {m:List (Nm×Nat×Rt)} {t:TypeId} {x:At} (hk:∀ v,k v->k' v) (h:loadT P m t x k):loadT P m t x k':=by
 unfold loadT at h ⊢
 split at h
 ·skip
  split at h
  ·split at h
   ·skip
    split at h
    ·exact hk _ h
    ·exact h.elim
   ·skip
    split at h
    ·exact hk _ h
    ·exact h.elim
  ·split at h
   ·exact ⟨h.1,hk _ h.2⟩
   ·exact h.elim
  ·split at h
   ·skip
    split at h
    ·exact hk _ h
    ·exact h.elim
   ·skip
    split at h
    ·exact hk _ h
    ·exact h.elim
  ·exact h.elim
 ·exact h.elim
theorem fieldT_mono {P:Program} {t:TypeId} {x:At} {i:Nat} (hk:∀ v,k v->k' v) (h:fieldT P t x i k):fieldT P t x i k':=by
 unfold fieldT at h ⊢
 split at h
 ·skip
  split at h
  ·skip
   split at h
   ·exact hk _ h
   ·exact h.elim
  ·skip
   split at h
   ·exact hk _ h
   ·exact h.elim
  ·exact h.elim
 ·exact h.elim
theorem nilCheckT_mono {x:At} (hk:∀ v,k v->k' v) (h:nilCheckT x k):nilCheckT x k':=by
 unfold nilCheckT at h ⊢
 split at h
 ·exact hk _ h
 ·exact hk _ h
 ·exact hk _ h
 ·exact h.elim
theorem buildT_mono {P:Program} {t:TypeId} {ps:List (Nat×At)} (hk:∀ v,k v->k' v) (h:buildT P t ps k):buildT P t ps k':=by
 unfold buildT at h ⊢
 split at h
 ·skip
  split at h
  ·exact hk _ h
  ·exact h.elim
 ·exact h.elim
theorem convT_mono {P:Program} {su du:TypeId} {x:At} (hk:∀ v,k v->k' v) (h:convT P su du x k):convT P su du x k':=by
 unfold convT at h ⊢
 split at h
 ·skip
  split at h
  ·split at h
   ·exact hk _ h
   ·exact h.elim
  ·exact h.elim
 ·skip
  split at h
  ·skip
   split at h
   ·exact hk _ h
   ·exact hk _ h
   ·exact h.elim
  ·exact h.elim
 ·exact h.elim
theorem qT_mono {e:En} {o:Oper} {s:St} (hk:∀ v,k v->k' v) (h:qT e o s k):qT e o s k':=by
 unfold qT at h ⊢
 cases ho:o.op with
 | move x=>rw [ho] at h; exact hk _ h
 | assign x=>rw [ho] at h; exact hk _ h
 | pick c x y=>rw [ho] at h; exact pickT_mono hk h
 | binOp op t x y z=>rw [ho] at h; exact binT_mono hk h
 | unOp op t x=>rw [ho] at h; exact unT_mono hk h
 | load t x=>rw [ho] at h; exact loadT_mono hk h
 | field t x i=>rw [ho] at h; exact fieldT_mono hk h
 | fieldAddr t x i=>rw [ho] at h; exact fieldAddrT_mono hk h
 | indexAddr t x i=>rw [ho] at h; exact indexAddrT_mono hk h
 | index t x i=>
  rw [ho] at h
  dsimp only at h ⊢
  split at h
  ·exact strAtT_mono hk h
  ·exact h.elim
 | extract x i=>rw [ho] at h; exact extractT_mono hk h
 | convert su du x=>rw [ho] at h; exact convT_mono hk h
 | slice t x lo hi mx=>
  rw [ho] at h
  cases mx with
  | some _=>exact h.elim
  | none=>exact sliceT_mono hk h
 | nilCheck x=>rw [ho] at h; exact nilCheckT_mono hk h
 | build t ps=>rw [ho] at h; exact buildT_mono hk h
 | call c=>
  rw [ho] at h
  dsimp only at h ⊢
  split at h
  ·skip
   split at h
   ·exact lenT_mono (fun n hn=>hk _ hn) h
   ·exact h.elim
  ·exact h.elim
 | _=>rw [ho] at h; exact h.elim
end
section
variable {k k':St->Prop} {s:St}
theorem allocT_ext {P:Program} {t:TypeId} {d:Tmp} (hk:∀ s',Ext s s'->k s'->k' s') (h:allocT P s t d k):allocT P s t d k':=by
 unfold allocT at h ⊢
 split at h
 ·skip
  split at h
  ·exact hk _ (((Ext_fresh _ _).trans (Ext_root _ _ _)).trans (Ext_put _ _ _)) h
  ·exact h.elim
 ·exact h.elim
theorem boxT_ext {x:Operand} {d:Tmp} (hk:∀ s',Ext s s'->k s'->k' s') (h:boxT s x d k):boxT s x d k':=by
 unfold boxT at h ⊢
 split at h
 ·skip
  split at h
  ·exact hk _ (((Ext_fresh _ _).trans (Ext_root _ _ _)).trans (Ext_put _ _ _)) h
  ·exact h.elim
 ·exact h.elim
theorem buildSliceT_ext {P:Program} {E:Ut} {t:TypeId} {n:Nat} {ps:Array (Nat×Operand)} {d:Tmp} (hk:∀ s',Ext s s'->k s'->k' s') (h:buildSliceT P E s t n ps d k):buildSliceT P E s t n ps d k':=by
 unfold buildSliceT at h ⊢
 split at h
 ·skip
  split at h
  ·skip
   split at h
   ·skip
    dsimp only at h ⊢
    split at h
    ·skip
     split at h
     ·skip
      exact hk _ ((((Ext_frzAts _ _).trans (Ext_fresh _ _)).trans (Ext_root _ _ _)).trans (Ext_put _ _ _)) h
     ·exact h.elim
    ·exact h.elim
   ·exact h.elim
  ·exact h.elim
 ·exact h.elim
theorem putT_ext {p:Pl} {t:Tt} (hk:∀ s',Ext s s'->k s'->k' s') (h:putT s p t k):putT s p t k':=by
 unfold putT at h ⊢
 split at h
 ·exact h.elim
 ·skip
  split at h
  ·skip
   split at h
   ·exact hk _ ⟨Nat.le_succ _,fun _ _ _ h _=>h,ExtM_set _ _ (Nat.le_refl _) _⟩ h
   ·exact h.elim
  ·skip
   split at h
   ·exact okTP_mono (hk _ ⟨Nat.le_succ _,fun _ _ _ h _=>h,ExtM_set _ _ (Nat.le_refl _) _⟩) h
   ·exact h.elim
  ·skip
   split at h
   ·skip
    split at h
    ·exact okTP_mono (eqPath_mono (hk _ ⟨Nat.le_succ _,fun _ _ _ h _=>h,ExtM_set _ _ (Nat.le_refl _) _⟩)) h
    ·exact h.elim
   ·exact h.elim
  ·exact h.elim
theorem storesT_ext:∀ {ts:List Tt} {s:St} {p:Pl},(∀ s',Ext s s'->k s'->k' s')->storesT s p ts k->storesT s p ts k'
 | [],s,p,hk,h=>hk _ (Ext.refl s) h
 | t::ts,s,p,hk,h=>by
  cases t with
  | rf q=>
   simp only [storesT] at h ⊢
   split at h
   ·skip
    split at h
    ·skip
     exact putT_ext (fun s' he hs'=>storesT_ext (fun s'' he'=>hk s'' (((Ext_drop _ _).trans he).trans he')) hs') h
    ·exact h.elim
   ·exact h.elim
  | any=>exact h.elim
  | d c=>cases c with
   | any=>exact h.elim
   | _=>exact putT_ext (fun s' he hs'=>storesT_ext (fun s'' he'=>hk s'' (he.trans he')) hs') h
  | _=>exact putT_ext (fun s' he hs'=>storesT_ext (fun s'' he'=>hk s'' (he.trans he')) hs') h
theorem putRowT_ext {p:Pl} {ts:List Tt} (hk:∀ s',Ext s s'->k s'->k' s') (h:putRowT s p ts k):putRowT s p ts k':=by
 unfold putRowT at h ⊢
 split at h
 ·exact h.elim
 ·skip
  split at h
  ·skip
   split at h
   ·exact okTP_mono (hk _ ⟨Nat.le_succ _,fun _ _ _ h _=>h,ExtM_set _ _ (Nat.le_refl _) _⟩) h
   ·exact h.elim
  ·exact h.elim
theorem storeT_ext {P:Program} {t:TypeId} {x v:At} (hk:∀ s',Ext s s'->k s'->k' s') (h:storeT P s t x v k):storeT P s t x v k':=by
 unfold storeT at h ⊢
 split at h
 ·skip
  split at h
  ·skip
   split at h
   ·exact putRowT_ext hk h
   ·exact storesT_ext hk h
  ·exact h.elim
 ·exact h.elim
theorem baseT_ext {u:U} {v:At} {s':St} {sub:List Sh} {l:List (El u)} (h:baseT s u v=some (s',sub,l)):Ext s s':=by
 unfold baseT at h
 split at h
 ·simp only [Option.some.injEq,Prod.mk.injEq] at h
  obtain ⟨rfl,_⟩:=h; exact Ext.refl _
 ·split at h
  ·split at h
   ·rename_i htake
    simp only [Option.some.injEq,Prod.mk.injEq] at h
    obtain ⟨rfl,_⟩:=h
    unfold takeT at htake
    split at htake
    ·cases htake
    ·split at htake
     ·simp only [Option.some.injEq] at htake
      rw [<- htake]
      exact ⟨Nat.le_succ _,ExtT_kill (Nat.le_refl _),(ExtM_set _ _ (Nat.le_refl _) s.m).trans (ExtM_kill (Nat.le_refl _))⟩
     ·simp only [Option.some.injEq] at htake
      rw [<- htake]
      exact ⟨Nat.le_succ _,ExtT_kill (Nat.le_refl _),(ExtM_set _ _ (Nat.le_refl _) s.m).trans (ExtM_kill (Nat.le_refl _))⟩
     ·cases htake
   ·cases h
  ·cases h
 ·cases h
theorem appendT_ext {P:Program} {E:Ut} {t u:TypeId} {x y:Operand} {d:Tmp} (hk:∀ s',Ext s s'->k s'->k' s') (h:appendT P E s t u x y d k):appendT P E s t u x y d k':=by
 unfold appendT at h ⊢
 dsimp only at h ⊢
 split at h
 ·skip
  split at h
  ·skip
   split at h
   ·skip
    split at h
    ·rename_i h3 h4
     split at h
     ·skip
      exact ⟨h.1,hk _ (((((Ext_frzAt _ _).trans (baseT_ext h4)).trans (Ext_fresh _ _)).trans (Ext_root _ _ _)).trans (Ext_put _ _ _)) h.2⟩
     ·exact h.elim
    ·exact h.elim
   ·exact h.elim
  ·exact h.elim
 ·exact h.elim
theorem buildSliceT2_ext {P:Program} {E:Ut} {sub:List Sh} {t:TypeId} {n:Nat} {ps:Array (Nat×Operand)} {d:Tmp} (hk:∀ s',Ext s s'->k s'->k' s') (h:buildSliceT2 P E sub s t n ps d k):buildSliceT2 P E sub s t n ps d k':=by
 unfold buildSliceT2 at h ⊢
 split at h
 ·skip
  split at h
  ·skip
   split at h
   ·skip
    dsimp only at h ⊢
    split at h
    ·skip
     split at h
     ·skip
      exact hk _ ((((Ext_frzAts _ _).trans (Ext_fresh _ _)).trans (Ext_root _ _ _)).trans (Ext_put _ _ _)) h
     ·exact h.elim
    ·exact h.elim
   ·exact h.elim
  ·exact h.elim
 ·exact h.elim
theorem buildSliceT3_ext {P:Program} {E:Ut} {sub:List Sh} {t:TypeId} {n:Nat} {ps:Array (Nat×Operand)} {d:Tmp} (hk:∀ s',Ext s s'->k s'->k' s') (h:buildSliceT3 P E sub s t n ps d k):buildSliceT3 P E sub s t n ps d k':=by
 unfold buildSliceT3 at h ⊢
 (repeat' split at h) <;> first | exact h.elim | skip
 exact hk _ ((((baseT_ext (by assumption)).trans (Ext_fresh _ _)).trans (Ext_root _ _ _)).trans (Ext_put _ _ _)) h
theorem appendT2_ext {P:Program} {E:Ut} {t u:TypeId} {x y:Operand} {d:Tmp} (hk:∀ s',Ext s s'->k s'->k' s') (h:appendT2 P E s t u x y d k):appendT2 P E s t u x y d k':=by
 unfold appendT2 at h ⊢
 split at h
 ·skip
  split at h
  ·skip
   split at h
   ·skip
    split at h
    ·rename_i h3
     split at h
     ·rename_i h4
      split at h
      ·skip
       exact ⟨h.1,hk _ (((((baseT_ext h3).trans (baseT_ext h4)).trans (Ext_fresh _ _)).trans (Ext_root _ _ _)).trans (Ext_put _ _ _)) h.2⟩
      ·exact h.elim
     ·exact h.elim
    ·exact h.elim
   ·exact h.elim
  ·exact h.elim
 ·exact h.elim
theorem Ext_movT (tm:Nat):∀ (sh:List Sh) (j:Nat) (s:St),Ext s (movT tm sh j s)
 | [],_,s=>Ext.refl s
 | .fr::r,j,s=>Ext_movT tm r (j+1) s
 | .ow _::r,j,s=>by
  simp only [movT]
  split
  ·split
   ·split
    ·split
     ·rename_i h _
      split
      ·exact ((((baseT_ext (by assumption)).trans (Ext_fresh _ _)).trans (Ext_root _ _ _)).trans (Ext_put _ _ _)).trans (Ext_movT tm r (j+1) _)
      ·exact (((baseT_ext (by assumption)).trans (Ext_fresh _ _)).trans (Ext_root _ _ _)).trans (Ext_movT tm r (j+1) _)
     ·exact Ext_movT tm r (j+1) s
    ·exact Ext_movT tm r (j+1) s
   ·exact Ext_movT tm r (j+1) s
  ·exact Ext.refl s
theorem Ext_movS (sh:List (TypeId×List Sh)) (s:St) (t:TypeId) (v:Operand):Ext s (movS sh s t v):=by
 unfold movS
 split
 ·exact Ext_movT _ _ _ _
 ·exact Ext.refl s
theorem lT_ext {e:En} (he:e.ok) {o:Oper} (hk:∀ s',Ext s s'->k s'->k' s') (h:lT e o s k):lT e o s k':=by
 unfold lT at h ⊢
 cases ho:o.op with
 | store t x v=>rw [ho] at h; exact storeT_ext (fun s' he hs'=>hk _ ((((Ext_movS _ _ _ _).trans (Ext_frzTo _ _ _)).trans he).trans (Ext_put _ _ _)) hs') h
 | alloc t=>
  rw [ho] at h
  cases hd:o.dst with
  | none=>rw [hd] at h; exact h.elim
  | some d=>rw [hd] at h; exact allocT_ext hk h
 | box t x=>
  rw [ho] at h
  cases hd:o.dst with
  | none=>rw [hd] at h; exact h.elim
  | some d=>rw [hd] at h; exact boxT_ext hk h
 | buildSlice t n ps=>
  rw [ho] at h
  cases hd:o.dst with
  | none=>rw [hd] at h; exact h.elim
  | some d=>
   rw [hd] at h
   dsimp only at h ⊢
   split at h
   ·exact buildSliceT_ext hk h
   ·split at h
    ·exact buildSliceT3_ext hk h
    ·exact buildSliceT2_ext hk h
 | call c=>
  rw [ho] at h
  dsimp only at h ⊢
  split at h
  ·skip
   cases hd:o.dst with
   | none=>rw [hd] at h; exact h.elim
   | some d=>
    rw [hd] at h
    dsimp only at h ⊢
    split at h
    ·exact appendT_ext hk h
    ·exact appendT2_ext hk h
  ·skip
   split at h
   ·rename_i C hg
    exact (En.ok_get he hg).ext _ _ _ _ _ (fun s' v hE hs'=>hk _ (hE.trans (Ext_put _ _ _)) hs') h
   ·exact h.elim
  ·skip
   split at h
   ·skip
    split at h
    ·rename_i C hg
     exact (En.ok_get he hg).ext _ _ _ _ _ (fun s' v hE hs'=>hk _ (hE.trans (Ext_put _ _ _)) hs') h
    ·exact h.elim
   ·exact h.elim
  ·exact h.elim
 | makeMap t r=>
  rw [ho] at h
  dsimp only at h ⊢
  split at h
  ·exact makeMapT_ext hk h
  ·split at h
   ·exact makeMapT_ext hk h
   ·exact h.elim
  ·exact h.elim
 | lookup t x i ok=>rw [ho] at h; exact mapGetT_mono (fun v hv=>hk _ (Ext_put _ _ _) hv) h
 | mapUpdate t m i v=>rw [ho] at h; exact mapSetT_ext (fun s' hE hs'=>hk _ (((Ext_frzAt _ _).trans hE).trans (Ext_put _ _ _)) hs') h
 | makeSlice t n c=>
  rw [ho] at h
  cases hd:o.dst with
  | none=>rw [hd] at h; exact h.elim
  | some d=>rw [hd] at h; exact makeSliceT_ext hk h
 | _=>rw [ho] at h; exact h.elim
theorem opT_ext {e:En} (he:e.ok) {o:Oper} (hk:∀ s',Ext s s'->k s'->k' s') (h:opT e o s k):opT e o s k':=by
 unfold opT at h ⊢
 split at h
 ·rename_i hq
  exact qT_mono (fun v hv=>hk _ ((Ext_preF _ _).trans (Ext_put _ _ _)) hv) h
 ·exact lT_ext he hk h
end
section
variable {P:Program} {g:G} {Q:Exit->S->Prop} {s:St}
def AOt (P:Program) (g:G) (o:Oper) (k:St->Prop) (Q:Exit->S->Prop) (s:St):Prop:=
 ∀ a w,R g s.toS a w->o.wp P a w (fun a' w'=>∃ s':St,k s'/\R g s'.toS a' w') (lift g Q)
def PQ (pk:PKt):Exit->S->Prop:=fun x s=>∃ v,∃ t:St,x=.panic (chn v)/\s=t.toS/\pk v t
section
variable {g:G} {a:Act} {w:World} {H:FH}
theorem gtA_eq {s:St} {i:Nat} {v:At} (h:gtA s.t i=v):getT s.toS.t i=v.toV:=by rw [<- h]; exact gtA_toS i s.t
theorem agg_cell {γ:Gam} {F:Nm->Fp} {s:St} (hX:RX g s.toS a w H γ F) {tm j:Nat} {ts:List Tt} {t:Tt} (hg:gtA s.t tm=.one (.agg ts)) (hj:ts[j]? = some t) :
  ∃ vs v,g.tv a tm=.agg vs/\vs.toList[j]? = some v/\TR w H γ s.toS.m t.toT (fun _=>0) v:=by
 have h:=hX.t tm
 rw [gtA_eq hg] at h
 obtain ⟨vs,h1,_,h3⟩:=h
 obtain ⟨_,v,g',_,h4,h5,h6⟩:=Cs_get h3 (k:=j) (x:=t.toT) (by rw [List.getElem?_map,hj]; rfl)
 refine ⟨vs,v,h1,h4,?_⟩
 have:g'=fun _=>0:=funext fun b=>by have:=h6 b; omega
 rw [<- this]; exact h5
theorem RXt_movT (tm:Nat):∀ (sh:List Sh) (j:Nat) (s:St) (γ:Gam) (F:Nm->Fp),RX g s.toS a w H γ F->∃ γ' F',RX g (movT tm sh j s).toS a w H γ' F'
 | [],_,s,γ,F,hX=>⟨γ,F,hX⟩
 | .fr::r,j,s,γ,F,hX=>RXt_movT tm r (j+1) s γ F hX
 | .ow _::r,j,s,γ,F,hX=>by
  simp only [movT]
  split
  ·rename_i ts hg
   split
   ·rename_i q hj
    split
    ·rename_i u l0 _ _ _
     split
     ·rename_i s1 sub l hb
      obtain ⟨vs,v,e1,e2,e3⟩:=agg_cell hX hg hj
      have hy:AR w H γ s.toS.m (.one (.c (.rf q))) v:=e3
      obtain ⟨b1,b2,_⟩:=baseT_ok (size:=nc u) rfl (ND_of hX) (fun q' hq'=>by
       cases hq'
       exact okP_rf e3.2.1) hb
      obtain ⟨kb,f,F1,k1,k2,k3,k4,k5⟩:=base_ok2 hX hy b1
      have hn2:=RX_fresh k2 (.gh (700000+j))
      have hts:∀ b,tot F1 (s1.toS.fresh (.gh (700000+j))).m b<=tot F1 s1.toS.m b:=by
       intro b
       unfold S.fresh
       split
       ·exact Nat.le_refl _
       ·show tot F1 (killM _ _) b<=_
        rw [tot_killM]; exact tot_delR
      obtain ⟨γ',F',hX4,hγ⟩:=RX_ghost hn2 (n:=.gh (700000+j)) rfl (getR_fresh k2 (.gh (700000+j))) (v:=v) (t:=.ow sub (l.map (encU u))) (f:=f) ⟨kb,k1⟩
       (fun b=>by have h1:=hts b; have h2:=k4 b; have h3:=hX.mem.le1 b; omega) (fun b hb=>⟨(k5 b hb).1,(k5 b hb).2.1⟩) (fun b hb=>(k5 b hb).2.2)
      have e4:((s1.fresh (.gh (700000+j))).root (.gh (700000+j)) ⟨false,[.ow sub u l],none⟩).toS=⟨(s1.toS.fresh (.gh (700000+j))).t,(.gh (700000+j),⟨false,[.ow sub (l.map (encU u))]⟩)::(s1.toS.fresh (.gh (700000+j))).m⟩:=by
       rw [<- fresh_toS b2]; rfl
      rw [<- e4] at hX4
      generalize hs2:(s1.fresh (.gh (700000+j))).root (.gh (700000+j)) ⟨false,[.ow sub u l],none⟩=s2 at hX4 e4
      split
      ·rename_i ts2 hg2
       refine RXt_movT tm r (j+1) _ γ' F' ⟨hX4.mem,hX4.fr,hX4.nt,hX4.df,fun i=>?_⟩
       show AR w H γ' s2.toS.m (getT ((tm,At.toV (.one (.agg (ts2.set j (.rf ⟨.gh (700000+j),0,[]⟩)))))::s2.toS.t) i) _
       simp only [getT]
       split
       ·rename_i hi
        subst hi
        have h:=hX4.t tm
        rw [gtA_eq hg2,e1] at h
        obtain ⟨cs,h1,h2,h3⟩:=h
        obtain rfl:=Value.agg.inj h1
        rw [e1]
        refine ⟨vs,rfl,by simpa using h2,?_⟩
        by_cases hjl:j<ts2.length
        ·obtain ⟨_,_,_,fk,fr,_,_,_,a4,_,a6,_⟩:=Cs_focus _ _ _ _ j h3 (by simpa using hjl)
         have hr:TR w H γ' s2.toS.m (.rf ⟨.gh (700000+j),0,[]⟩) (fun _=>0) v:=(AR_ghost (H:=H) (w:=w) (sub:=sub) (l:=l.map (encU u)) (by rw [e4]; simp [getR]) hγ:AR w H γ' s2.toS.m (.one (.c (.rf ⟨.gh (700000+j),0,[]⟩))) v)
         have:=a6 (fun _=>TR w H γ' s2.toS.m) (.rf ⟨.gh (700000+j),0,[]⟩) v (fun _=>0) (fun _ _ _ _ _ h=>h) hr
         rw [set_same e2] at this
         unfold Ts
         rw [List.length_map] at this ⊢
         rw [List.length_set,List.map_set]
         exact Cs_congr (fun b=>by have:=a4 b; omega) this
        ·rw [List.set_eq_of_length_le (by omega)]
         exact h3
       ·exact hX4.t i
      ·exact RXt_movT tm r (j+1) _ γ' F' hX4
     ·exact RXt_movT tm r (j+1) s γ F hX
    ·exact RXt_movT tm r (j+1) s γ F hX
   ·exact RXt_movT tm r (j+1) s γ F hX
  ·exact ⟨γ,F,hX⟩
theorem RXt_movS (sh:List (TypeId×List Sh)) {s:St} {γ:Gam} {F:Nm->Fp} (t:TypeId) (v:Operand) (hX:RX g s.toS a w H γ F):∃ γ' F',RX g (movS sh s t v).toS a w H γ' F':=by
 unfold movS
 split
 ·exact RXt_movT _ _ _ _ _ _ hX
 ·exact ⟨γ,F,hX⟩
end
theorem AOt_lT {e:En} (he:e.ok) (hpk:∀ x s,PQ e.pk x s->Q x s) {o:Oper} {k:St->Prop} (hc:opC g.nt o=true) (hq:isQ o=false) (h:lT e o s k):AOt e.P g o k Q s:=by
 intro a w hR
 obtain ⟨H,γ,F,hX⟩:=hR
 have hn:=ND_of hX
 have base:∀ {s1:St},(∃ H' F',RX g s1.toS a w H' γ F')->opK e.P [] o s1.toS (upS k)->o.wp e.P a w (fun a' w'=>∃ s':St,k s'/\R g s'.toS a' w') (lift g Q):=by
  intro s1 ⟨H',F',hX1⟩ hop
  exact Oper_wp_mono (fun a' w' ⟨s',⟨t,e,hk⟩,hR'⟩=>⟨t,hk,R_SEq e hR'⟩) (fun _ _ _ h=>h) (AO_opK (Q:=Q) CT.ok0 hc hop a w ⟨H',γ,F',hX1⟩)
 have hcc:=hc
 unfold opC at hcc
 rw [Bool.and_eq_true] at hcc
 obtain ⟨hd,hcc⟩:=hcc
 unfold lT at h
 cases ho:o.op with
 | store t x v=>
  rw [ho] at h hcc
  simp only [Bool.and_eq_true] at hcc
  obtain ⟨γ0,F0,h0⟩:=RXt_movS e.sh t v hX
  obtain ⟨H1,F1,h1⟩:=RXt_frzTo h0 (evA (movS e.sh s t v) x) (evA (movS e.sh s t v) v)
  refine Oper_wp_mono (fun a' w' ⟨s',⟨t,e,hk⟩,hR'⟩=>⟨t,hk,R_SEq e hR'⟩) (fun _ _ _ h=>h) (AO_opK (Q:=Q) CT.ok0 hc (?_:opK e.P [] o _ (upS k)) a w ⟨H1,γ0,F1,h1⟩)
  unfold opK
  rw [ho]
  dsimp only
  rw [evA_toV hcc.1,evA_toV hcc.2]
  exact storeT_ok (fun t' hk=>⟨_,put_SEq t' o.dst .any,hk⟩) (ND_of h1) h
 | alloc t=>
  rw [ho] at h
  cases hdd:o.dst with
  | none=>rw [hdd] at h; exact h.elim
  | some d=>
   rw [hdd] at h
   refine base (s1:=s) ⟨H,F,hX⟩ ?_
   unfold opK
   rw [ho,hdd]
   exact allocT_ok hn h
 | box t x=>
  rw [ho] at h hcc
  cases hdd:o.dst with
  | none=>rw [hdd] at h; exact h.elim
  | some d=>
   rw [hdd] at h
   refine base (s1:=s) ⟨H,F,hX⟩ ?_
   unfold opK
   rw [ho,hdd]
   exact boxT_ok hn hcc h
 | buildSlice t n ps=>
  rw [ho] at h hcc
  cases hdd:o.dst with
  | none=>rw [hdd] at h; exact h.elim
  | some d=>
   rw [hdd] at h hd
   have hX1:=RXt_frzAts (ps.toList.map fun x=>evA s x.2) s H F hX
   dsimp only at h
   split at h
   ·refine base hX1 ?_
    unfold opK
    rw [ho,hdd]
    obtain ⟨H1,F1,h1⟩:=hX1
    exact buildSliceT_ok hcc (ND_of h1) h
   ·split at h
    ·obtain ⟨t',y,w',γ',F',e1,hk,e3⟩:=buildSliceT3_ok hX hd hcc h
     unfold Oper.wp
     have:(execOp a.eval o).run e.P w=.ok (.value y) w':=by simp only [execOp,ho]; rw [Sem.run_bind,e1]; rfl
     rw [this]
     exact ⟨t',hk,_,γ',F',by rw [hdd]; exact e3⟩
    obtain ⟨H1,F1,h1⟩:=hX1
    obtain ⟨s',y,w',H',γ',F',e1,⟨t',et,hk⟩,e3⟩:=buildSliceK2_ok (P:=e.P) h1 hd hcc (buildSliceT2_ok hcc (ND_of h1) h)
    unfold Oper.wp
    have:(execOp a.eval o).run e.P w=.ok (.value y) w':=by simp only [execOp,ho]; rw [Sem.run_bind,e1]; rfl
    rw [this]
    exact ⟨t',hk,H',γ',F',RX_SEq et (by rw [hdd]; exact e3)⟩
 | call c=>
  rw [ho] at h hcc
  obtain ⟨callee,args,argTypes⟩:=c
  obtain ⟨args⟩:=args
  obtain ⟨argTypes⟩:=argTypes
  dsimp only at h hcc
  cases callee with
  | builtin b=>
   cases b with
   | append=>
    match args,argTypes,h with
    | [x,y],[t,u],h=>
     have h1:okOp x=true/\okOp y=true:=by simpa using hcc
     cases hdd:o.dst with
     | none=>rw [hdd] at h; exact h.elim
     | some d=>
      rw [hdd] at h hd
      dsimp only at h
      split at h
      rotate_left
      ·obtain ⟨s',y',w',H',γ',F',e1,⟨t',et,hk⟩,e3⟩:=appendK2_ok (P:=e.P) (tt:=o.type) hX hd h1.1 h1.2 (appendT2_ok h1.1 h1.2 hn (fun q hq=>by
         have h3:=ev_ok hX h1.2
         rw [evA_toV h1.2,hq] at h3
         obtain ⟨_,h4,_⟩:=h3
         exact okP_rf h4) (fun size s1 sub l q hn1 hb hq=>by
         have hy:=ev_ok hX h1.2
         rw [evA_toV h1.2] at hy
         obtain ⟨_,_,F1,_,hX1,_⟩:=base_ok2 hX hy hb
         have h3:=ev_ok hX1 h1.1
         rw [evA_toV h1.1,hq] at h3
         obtain ⟨_,h4,_⟩:=h3
         exact okP_rf h4) h)
       unfold Oper.wp
       have:(execOp a.eval o).run e.P w=.ok (.value y') w':=by
        simp only [execOp,ho,resolve,invoke,builtin,Sem.run_bind,Sem.run_pure,Result.andThen_ok,List.map_toArray,List.map_cons,List.map_nil]
        rw [e1]; rfl
       rw [this]
       exact ⟨t',hk,H',γ',F',RX_SEq et (by rw [hdd]; exact e3)⟩
      have hX1:=RXt_frzAt hX (evA s y)
      refine base hX1 ?_
      unfold opK
      rw [ho,hdd]
      obtain ⟨H1,F1,h2⟩:=hX1
      exact appendT_ok h1.1 h1.2 (ND_of h2) (fun q hq=>by
       have h3:=ev_ok h2 h1.1
       rw [evA_toV h1.1,hq] at h3
       obtain ⟨_,h4,_⟩:=h3
       exact okP_rf h4) h
   | _=>exact h.elim
  | value v=>
   cases v with
   | func f=>
    dsimp only at h
    cases hg:e.cs.get f with
    | none=>rw [hg] at h; exact h.elim
    | some C=>
     rw [hg] at h
     have hC:=En.ok_get he hg
     have hr:(execOp a.eval o).run e.P w=.ok (.enter f (args.map a.eval).toArray) w:=by
      simp only [execOp,ho,resolve,Act.eval,Deferred.ofValue,Sem.run_bind,Sem.run_pure,Result.andThen_ok,invoke]
      rw [hC.run]
      simp
     unfold Oper.wp
     rw [hr]
     refine Calls.mono (hC.call g e.pk s a w H γ F args _ hX hcc h) (fun e' w' hp=>?_)
     rcases hp with ⟨r,s',av,H',γ',F',k1,k2,k3,k4⟩ | ⟨v,s',k1,k2,k4⟩
     ·subst k1
      exact ⟨_,k2,H',γ',F',RX_SEq (put_SEq s' o.dst av) (k4.put hd k3)⟩
     ·subst k1
      exact ⟨_,hpk _ _ ⟨v,s',rfl,rfl,k2⟩,k4⟩
   | tmp t=>
    dsimp only at h
    split at h
    ·rename_i f hf ht
     cases hg:e.cs.get f with
     | none=>rw [hg] at h; exact h.elim
     | some C=>
      rw [hg] at h
      have hC:=En.ok_get he hg
      have hv:a.eval (.tmp t)=.func (.func f) #[] #[]:=by
       have h3:=hX.t t
       rw [G.tv_lo (show t<TB from Nat.le_of_ble_eq_true ht)] at h3
       unfold fnAt at hf
       split at hf
       ·rename_i f' x y hgt
        split at hf
        ·rename_i hx0 hy0
         simp only [Option.some.injEq] at hf
         subst hf
         rw [show getT s.toS.t t=(gtA s.t t).toV from gtA_toS t s.t,hgt] at h3
         obtain ⟨_,m,h3⟩:=h3
         have e1:a.tmps.getD t undef=.func (.func f') x y:=by cases m <;> exact h3.1
         show a.tmps.getD t undef=_
         rw [e1]
         have ex:x=#[]:=Array.eq_empty_of_size_eq_zero hx0
         have ey:y=#[]:=Array.eq_empty_of_size_eq_zero hy0
         rw [ex,ey]
        ·cases hf
       ·cases hf
      have hr:(execOp a.eval o).run e.P w=.ok (.enter f (args.map a.eval).toArray) w:=by
       simp only [execOp,ho,resolve,hv,Deferred.ofValue,Sem.run_bind,Sem.run_pure,Result.andThen_ok,invoke]
       rw [hC.run]
       simp
      unfold Oper.wp
      rw [hr]
      refine Calls.mono (hC.call g e.pk s a w H γ F args _ hX hcc h) (fun e' w' hp=>?_)
      rcases hp with ⟨r,s',av,H',γ',F',k1,k2,k3,k4⟩ | ⟨v,s',k1,k2,k4⟩
      ·subst k1
       exact ⟨_,k2,H',γ',F',RX_SEq (put_SEq s' o.dst av) (k4.put hd k3)⟩
      ·subst k1
       exact ⟨_,hpk _ _ ⟨v,s',rfl,rfl,k2⟩,k4⟩
    ·exact h.elim
   | _=>exact h.elim
  | invoke r n=>exact h.elim
 | makeMap t r=>
  rw [ho] at h hcc
  have key:∀ d,o.dst=some d->makeMapT e.P e.E s t d k->(∀ v,r.map a.eval=some v->∃ κ n,v=.int κ n)->o.wp e.P a w (fun a' w'=>∃ s':St,k s'/\R g s'.toS a' w') (lift g Q):=by
   intro d hdd h hr
   rw [hdd] at hd
   obtain ⟨t',y,w',γ',F',e1,e2,e3⟩:=makeMapT_ok hX hd h hr
   unfold Oper.wp
   have:(execOp a.eval o).run e.P w=.ok (.value y) w':=by simp only [execOp,ho]; rw [Sem.run_bind,e1]; rfl
   rw [this]
   exact ⟨t',e2,H,γ',F',by rw [hdd]; exact e3⟩
  dsimp only at h
  split at h
  ·rename_i d hdd
   exact key d hdd h (fun v hv=>by cases hv)
  ·rename_i d x hdd
   split at h
   ·rename_i κ n hx
    refine key d hdd h (fun v hv=>?_)
    have h3:=ev_ok hX (show okOp x=true from hcc)
    rw [evA_toV hcc,hx] at h3
    exact ⟨κ,n,by rw [<- Option.some.inj hv]; exact (AR_int h3).1⟩
   ·exact h.elim
  ·exact h.elim
 | lookup t x i ok=>
  rw [ho] at h hcc
  have h1:okOp x=true/\okOp i=true:=by simpa using hcc
  have h2:=ev_ok hX h1.1
  have h3:=ev_ok hX h1.2
  rw [evA_toV h1.1] at h2
  rw [evA_toV h1.2] at h3
  obtain ⟨z,v,e1,e2,e3⟩:=mapGetT_ok hX h2 h3 h
  unfold Oper.wp
  have:(execOp a.eval o).run e.P w=.ok (.value z) w:=by simp only [execOp,ho]; rw [Sem.run_bind,e1]; rfl
  rw [this]
  exact ⟨_,e3,H,γ,F,RX_SEq (put_SEq s o.dst v) (hX.put hd e2)⟩
 | mapUpdate t m i v=>
  rw [ho] at h hcc
  have h1:(okOp m=true/\okOp i=true)/\okOp v=true:=by simpa using hcc
  obtain ⟨H1,F1,hX1⟩:=RXt_frzAt hX (evA s v)
  dsimp only at h
  generalize frzAt s (evA s v)=s1 at h hX1
  have h2:=ev_ok hX1 h1.1.1
  have h3:=ev_ok hX1 h1.1.2
  have h4:=ev_ok hX1 h1.2
  rw [evA_toV h1.1.1] at h2
  rw [evA_toV h1.1.2] at h3
  rw [evA_toV h1.2] at h4
  obtain ⟨t',w',e1,e2,e3⟩:=mapSetT_ok hX1 h2 h3 h4 h
  unfold Oper.wp
  have:(execOp a.eval o).run e.P w=.ok .skip w':=by simp only [execOp,ho]; rw [Sem.run_bind,e1]; rfl
  rw [this]
  exact ⟨_,e2,H1,γ,F1,RX_SEq (put_SEq t' o.dst .any) (e3.put hd trivial)⟩
 | makeSlice t n c=>
  rw [ho] at h hcc
  have h1:okOp n=true/\okOp c=true:=by simpa using hcc
  cases hdd:o.dst with
  | none=>rw [hdd] at h; exact h.elim
  | some d=>
   rw [hdd] at h hd
   obtain ⟨t',y,w',γ',F',e1,e2,e3⟩:=makeSliceT_ok hX hd h1.1 h
   unfold Oper.wp
   have:(execOp a.eval o).run e.P w=.ok (.value y) w':=by simp only [execOp,ho]; rw [Sem.run_bind,e1]; rfl
   rw [this]
   exact ⟨t',e2,H,γ',F',by rw [hdd]; exact e3⟩
 | _=>rw [ho] at h; exact h.elim
theorem AOt_opT {e:En} (he:e.ok) (hpk:∀ x s,PQ e.pk x s->Q x s) {o:Oper} {k:St->Prop} (hc:opC g.nt o=true) (h:opT e o s k):AOt e.P g o k Q s:=by
 unfold opT at h
 split at h
 ·rename_i hq
  intro a w ⟨H,γ,F,hX⟩
  obtain ⟨H1,F1,hX1⟩:=RXt_preF hX o
  obtain ⟨z,d,B,_,e1,e2,e3⟩:=qK_ok hX1 hc (qT_ok hX1 hc h)
  obtain ⟨v',rfl,hk⟩:=e3
  unfold Oper.wp
  rw [e1 w (fun _ _=>rfl)]
  exact ⟨_,hk,H1,γ,F1,RX_SEq (put_SEq _ _ _) (hX1.put (opC_dst hc) e2)⟩
 ·rename_i hq
  exact AOt_lT he hpk hc hq h
theorem AO_SEq {o:Oper} {K:S->Prop} {s s':S} (e:SEq s s') (h:AO P g o K Q s'):AO P g o K Q s:=fun a w hR=>h a w (R_SEq e hR)
theorem AL_SEq {ops rest:List Oper} {s s':S} (e:SEq s s') (h:AL P g ops rest Q s'):AL P g ops rest Q s:=fun a w hR=>h a w (R_SEq e hR)
theorem AO_of_t {o:Oper} {K:S->Prop} (h:AOt P g o (fun t=>K t.toS) Q s):AO P g o K Q s.toS:=fun a w hR=>
 Oper_wp_mono (fun a' w' ⟨s',hk,hR'⟩=>⟨s'.toS,hk,hR'⟩) (fun _ _ _ h=>h) (h a w hR)
theorem put_SEq' (s:St) (d:Nat) (b:Bool):SEq (s.toS.put (some d) (.one (.c (.d (.bool b))))) (s.put (some d) (sct (.bo b))).toS:=put_SEq s (some d) (sct (.bo b))
theorem put2_SEq (s:St) (d:Nat) (b:Bool) (o:Option Tmp):SEq ((s.toS.put (some d) (.one (.c (.d (.bool b))))).put o (.tup [])) ((s.put (some d) (sct (.bo b))).put o (.tup [])).toS:=by
 have h1:=put_SEq' s d b
 have h2:=put_SEq (s.put (some d) (sct (.bo b))) o (.tup [])
 refine ⟨fun i=>?_,?_⟩
 ·rw [<- h2.1 i]
  cases o with
  | none=>exact h1.1 i
  | some o=>show getT (setT _ o _) i=getT (setT _ o _) i; rw [getT_setT,getT_setT,h1.1 i]; rfl
 ·rw [<- h2.2]; cases o <;> exact h1.2
theorem AL_opsT {e:En} (he:e.ok) (hpk:∀ x s,PQ e.pk x s->Q x s) {k:St->Prop} {all:List Oper}:∀ {rest:List Oper} {s:St},opsC g.nt all rest=true->opsT e all rest s k->(∀ t:St,k t->Q .normal t.toS)->AL e.P g all rest Q s.toS
 | [],s,_,h,hQ=>AL_nil (hQ s h)
 | o::r,s,hc,h,hQ=>by
  simp only [opsC,Bool.and_eq_true] at hc
  obtain ⟨⟨hc1,hc2⟩,hc3⟩:=hc
  simp only [opsT] at h
  have run:∀ {s:St},opT e o s (fun s'=>opsT e all r s' k)->AO e.P g o (AL e.P g all r Q) Q s.toS:=fun {s} h=>
   AO_of_t (fun a w hR=>Oper_wp_mono (fun a' w' ⟨s',hk,hR'⟩=>⟨s',AL_opsT he hpk hc3 hk hQ,hR'⟩) (fun _ _ _ h=>h) (AOt_opT he hpk hc1 h a w hR))
  cases hg:o.guard with
  | none=>
   rw [hg] at h
   exact AL_cons hg (run h)
  | some q=>
   obtain ⟨j,want⟩:=q
   rw [hg] at h hc2
   dsimp only at h hc2
   cases hj:(all[j]?).bind (·.dst) with
   | none=>rw [hj] at h; exact h.elim
   | some d=>
    rw [hj] at h hc2
    dsimp only at h hc2
    split at h
    ·rename_i c hcc
     have hgt:getT s.toS.t d=.one (.c (.d (.bool c))):=gtA_eq hcc
     cases want with
     | true=>
      dsimp only at h
      refine AL_guard hg hj hgt hc2 (opC_dst hc1) (fun hc=>?_) (fun hc=>?_)
      ·subst hc; rw [if_pos rfl] at h; exact AO_SEq (put_SEq' s d true) (run h)
      ·subst hc; rw [if_neg (by simp)] at h; exact AL_SEq (put2_SEq s d _ _) (AL_opsT he hpk hc3 h hQ)
     | false=>
      dsimp only at h
      refine AL_guard hg hj hgt hc2 (opC_dst hc1) (fun hc=>?_) (fun hc=>?_)
      ·subst hc; rw [if_neg (by simp)] at h; exact AO_SEq (put_SEq' s d false) (run h)
      ·subst hc; rw [if_pos (by rfl)] at h; exact AL_SEq (put2_SEq s d _ _) (AL_opsT he hpk hc3 h hQ)
    ·rename_i hcc
     exact AL_unguard hg hj (gtA_eq hcc) (opC_dst hc1) (AL_SEq (put_SEq s o.dst (.tup [])) (AL_opsT he hpk hc3 h hQ))
    ·exact h.elim
theorem opsT_ext {e:En} (he:e.ok) {all:List Oper} {k k':St->Prop}:∀ {rest:List Oper} {s:St},(∀ s',Ext s s'->k s'->k' s')->opsT e all rest s k->opsT e all rest s k'
 | [],s,hk,h=>hk s (Ext.refl s) h
 | o::r,s,hk,h=>by
  have run:∀ {s1:St},Ext s s1->opT e o s1 (fun s'=>opsT e all r s' k)->opT e o s1 (fun s'=>opsT e all r s' k'):=fun {s1} h1 h=>
   opT_ext he (fun s' h2 hs'=>opsT_ext he (fun s'' h3=>hk s'' ((h1.trans h2).trans h3)) hs') h
  have rest:∀ {s1:St},Ext s s1->opsT e all r s1 k->opsT e all r s1 k':=fun {s1} h1 h=>opsT_ext he (fun s'' h3=>hk s'' (h1.trans h3)) h
  simp only [opsT] at h ⊢
  split at h
  ·exact run (Ext.refl s) h
  ·rename_i j want hg
   split at h
   ·rename_i d hj
    split at h
    ·rename_i c hcc
     cases want <;> cases c <;> simp only [Bool.false_eq_true,if_true,if_false] at h ⊢
     ·exact run (Ext_put _ _ _) h
     ·exact rest ((Ext_put _ _ _).trans (Ext_put _ _ _)) h
     ·exact rest ((Ext_put _ _ _).trans (Ext_put _ _ _)) h
     ·exact run (Ext_put _ _ _) h
    ·exact rest (Ext_put _ _ _) h
    ·exact h.elim
   ·exact h.elim
end
end Go.Am
end

section
namespace Go.Am
section
variable {e:En} {g:G} {k:St->Prop} {Q:Exit->S->Prop}
theorem isElT_toV {x:At} (h:isElT x=true):isEl x.toV=true:=by
 unfold isElT at h
 split at h
 ·rfl
 ·rfl
 ·cases h
theorem frozenT_ok {s:St} {o:Oper} (hc:opC g.nt o=true) (h:frozenT s o=true):frozenRead s.toS o:=by
 unfold frozenT at h
 unfold frozenRead
 unfold opC at hc
 rw [Bool.and_eq_true] at hc
 cases ho:o.op with
 | load t x=>
  rw [ho] at h hc
  dsimp only at hc ⊢
  rw [evA_toV hc.2]
  exact isElT_toV h
 | _=>trivial
theorem gT_ok {ops:List Oper} {o:Oper} {s:St} {f no:St->Prop} (h:gT ops o s f no):gK ops o s.toS (upS f) (upS no):=by
 unfold gT at h
 unfold gK
 cases hg:o.guard with
 | none=>rw [hg] at h; exact ⟨s,⟨fun _=>rfl,rfl⟩,h⟩
 | some q=>
  obtain ⟨j,want⟩:=q
  rw [hg] at h
  dsimp only at h ⊢
  cases hj:(ops[j]?).bind (·.dst) with
  | none=>rw [hj] at h; exact h.elim
  | some d=>
   rw [hj] at h
   dsimp only at h ⊢
   split at h
   ·rename_i c hcc
    rw [gtA_eq hcc]
    simp only [At.toV,A1.toV,Tt.toT,C.toD]
    cases want <;> cases c <;> simp only [Bool.false_eq_true,if_true,if_false] at h <;> simp only [gsel]
    ·exact ⟨_,put_SEq' s d false,h⟩
    ·exact ⟨_,put2_SEq s d _ _,h⟩
    ·exact ⟨_,put2_SEq s d _ _,h⟩
    ·exact ⟨_,put_SEq' s d true,h⟩
   ·rename_i hcc
    rw [gtA_eq hcc]
    exact ⟨_,put_SEq s o.dst (.tup []),h⟩
   ·exact h.elim
theorem gT_ext {ops:List Oper} {o:Oper} {s:St} {f f' no no':St->Prop} (hf:∀ s',Ext s s'->f s'->f' s') (hn:∀ s',Ext s s'->no s'->no' s') (h:gT ops o s f no):gT ops o s f' no':=by
 unfold gT at h ⊢
 cases hg:o.guard with
 | none=>rw [hg] at h; exact hf _ (Ext.refl s) h
 | some q=>
  obtain ⟨j,want⟩:=q
  rw [hg] at h
  dsimp only at h ⊢
  cases hj:(ops[j]?).bind (·.dst) with
  | none=>rw [hj] at h; exact h.elim
  | some d=>
   rw [hj] at h
   dsimp only at h ⊢
   split at h
   ·rename_i c _
    cases want <;> cases c <;> simp only [Bool.false_eq_true,if_true,if_false] at h ⊢
    ·exact hf _ (Ext_put _ _ _) h
    ·exact hn _ ((Ext_put _ _ _).trans (Ext_put _ _ _)) h
    ·exact hn _ ((Ext_put _ _ _).trans (Ext_put _ _ _)) h
    ·exact hf _ (Ext_put _ _ _) h
   ·exact hn _ (Ext_put _ _ _) h
   ·exact h.elim
theorem AD_takeT {ops:Array Oper} {K:S->Prop} {fuel:Nat} {listed:Array Bool} {i:Nat} {A:List Nat} {fz:Bool} {o:Oper} (hC:guardsC g.nt ops=true) (hs:Region.noSelect ops=true) (hi:ops[i]? = some o)
  (ht:takeC ops listed i A fz=true) {s:St} {D:St->Prop} (hD:∀ s:St,D s->AD e.P g ops Q K fuel (listed.setIfInBounds i true) s.toS)
  (h:gT ops.toList o s (fun s=>(fz=true->frozenT s o=true)/\qT e o s fun v=>D (s.put o.dst v)) D):AD e.P g ops Q K (fuel+1) listed s.toS:=by
 intro a w H γ F Pr hX hPr
 simp only [takeC,Bool.and_eq_true] at ht
 obtain ⟨⟨⟨⟨t1,t2⟩,t3⟩,t4⟩,t5⟩:=ht
 obtain ⟨c1,c2⟩:=guardsC_get hC hi
 have hready:=Region.ready_mem_of_contains t2
 have hbeh:behind .any ops i (fun j=>A.contains j) listed:=by
  intro j hj hun
  have:=List.all_eq_true.1 t4 j (by simpa using hj)
  rw [unlisted_iff.2 hun] at this
  cases ho:ops[j]? with
  | none=>rw [ho] at this; simp at this
  | some oj=>
   rw [ho] at this
   simp only [Bool.not_true,Bool.false_or] at this
   obtain ⟨e,he,h1⟩:=Array.any_eq_true'.1 this
   simp only [Bool.and_eq_true,Bool.or_eq_true,beq_iff_eq] at h1
   exact ⟨oj,rfl,e,he,h1.1.1,unlisted_iff.1 h1.1.2,h1.2⟩
 have hset:∀ j,(listed.setIfInBounds i true).getD j true=false->listed.getD j true=false:=fun j h=>(getD_set_f h).1
 rcases guard_ok hX (gT_ok h) (opC_dst c1) c2 with ⟨hw,s0,⟨s',e0,hf,hq⟩,hX0⟩ | ⟨hw,s0,⟨s',e0,hno⟩,hX0⟩
 ·have hX':=RX_SEq e0 hX0
  obtain ⟨z,d,B,e0,e1,e2,v',e3,hk⟩:=qK_ok hX' c1 (qT_ok hX' c1 hq)
  subst e3
  refine wpAnyL_first (Zx_still g Q) (A:=fun j=>A.contains j) (B:=B) (v:=z) hi (Region.noSelect_spec hs) fuel listed Pr (fun j b=>Pr j b\/(A.contains j=false/\B b)) a w (fun j b h=>.inl h) (fun j b h1 h2=>.inr ⟨h1,h2⟩)
   (Region.free_spec hi t1) hbeh hready (.inl ⟨hw,fun w2 hs2=>e1 w2 hs2⟩) (hD _ hk (a.put o.dst z) w H γ F _ (RX_SEq (put_SEq _ _ _) (hX'.put (opC_dst c1) e2)) ?_)
  intro j oj hj hun
  obtain ⟨hun1,hji⟩:=getD_set_f hun
  rcases hPr j oj hj hun1 with hp | hp
  ·exact .inl hp
  cases hfz:fz with
  | true=>
   refine .inr fun b hb=>?_
   rcases hb with hb | ⟨_,hb⟩
   ·exact hp b hb
   ·exact e0 (frozenT_ok c1 (hf hfz)) b hb
  | false=>
   rw [hfz,Bool.false_or] at t5
   have:=List.all_eq_true.1 t5 j (List.mem_range.2 (Array.getElem?_eq_some_iff.1 hj).1)
   rw [unlisted_iff.2 hun1,hj] at this
   simp only [Bool.not_true,Bool.false_or,Bool.or_eq_true,beq_iff_eq] at this
   rcases this with (this | this) | this
   ·exact absurd this hji
   ·refine .inr fun b hb=>?_
    rcases hb with hb | ⟨hb,_⟩
    ·exact hp b hb
    ·rw [this] at hb; cases hb
   ·exact .inl this
 ·have hX':=RX_SEq e0 hX0
  refine wpAnyL_first (Zx_still g Q) (A:=fun _=>false) (B:=fun _=>False) (v:=undef) hi (Region.noSelect_spec hs) fuel listed Pr Pr a w (fun j b h=>h) (fun j b _ h2=>h2.elim)
   (Region.free_spec hi t1) (fun j h=>by cases h) hready (.inr ⟨hw,rfl⟩) (hD _ hno (a.put o.dst undef) w H γ F _ hX' (hPr.mono hset (fun _ _ _ h=>h)))
theorem AD_stepT {ops:Array Oper} {K:S->Prop} {fuel:Nat} {listed:Array Bool} {i:Nat} {o:Oper} (he:e.ok) (hpk:∀ x s,PQ e.pk x s->Q x s) (hC:guardsC g.nt ops=true) (hun:listed.getD i true=false) (hi:ops[i]? = some o) {s:St}
  {D:St->Prop} (hD:∀ s:St,D s->AD e.P g ops Q K fuel (listed.setIfInBounds i true) s.toS) (h:gT ops.toList o s (fun s=>opT e.cl o s D) D) {a:Act} {w:World} {H:FH} {γ:Gam} {F:Nm->Fp} {Pr:Nat->Bs} (hX:RX g s.toS a w H γ F) (hPr:PrOK ops listed H Pr) :
  lOp e.P ops (Zx g Q) Pr i (fun a' w'=>∃ Pr':Nat->Bs,(∀ j b,Pr j b->Pr' j b)/\wpAnyL e.P .any ops (Zx g Q) (fun a w=>∃ s',K s'/\R g s' a w) fuel (listed.setIfInBounds i true) Pr' a' w') a w:=by
 have hset:∀ j,(listed.setIfInBounds i true).getD j true=false->listed.getD j true=false:=fun j h=>(getD_set_f h).1
 unfold lOp
 rw [hi]
 obtain ⟨c1,c2⟩:=guardsC_get hC hi
 dsimp only
 rcases guard_ok hX (gT_ok h) (opC_dst c1) c2 with ⟨hw,s0,⟨s',e0,hop⟩,hX0⟩ | ⟨hw,s0,⟨s',e0,hno⟩,hX0⟩
 ·have hX':=RX_SEq e0 hX0
  rw [if_pos hw]
  by_cases hq:isQ o=true
  ·unfold opT at hop
   rw [hq] at hop
   dsimp only at hop
   obtain ⟨H1,F1,hX1,hH1⟩:=RXt_mono hX' (fun g' H F hx=>RXt_preF hx o)
   obtain ⟨z,d,B,_,e1,e2,e3⟩:=qK_ok hX1 c1 (qT_ok hX1 c1 hop)
   obtain ⟨v',rfl,hk⟩:=e3
   unfold Oper.wp
   rw [e1 w (fun _ _=>rfl)]
   exact ⟨fun _ _=>rfl,Pr,fun _ _ h=>h,hD _ hk (a.put o.dst z) w H1 γ F1 Pr (RX_SEq (put_SEq _ _ _) (hX1.put (opC_dst c1) e2)) (hPr.mono hset hH1)⟩
  ·have hp:∀ b,Pr i b->∃ x y,H b x=some y:=by
    rcases hPr i o hi hun with h | h
    ·exact absurd h hq
    ·exact h
   let g':G:=⟨g.nt,w,H,tot F s'.toS.m,g.out,g.ex,g.dfs⟩
   have hX2:RX g' s'.toS a w H γ F:=⟨hX'.mem,Fr.refl' rfl rfl rfl rfl (fun _ h=>h),hX'.nt,⟨hX'.df.1,hX'.df.2.1,RX_globs hX'⟩,hX'.t⟩
   refine Oper_wp_mono ?_ (fun x a' w' h=>?_) (AOt_opT (g:=g') (e:=e.cl) (Q:=PQ e.cl.pk) he (fun _ _ h=>h) c1 hop a w ⟨H,γ,F,hX2⟩)
   ·intro a' w' ⟨s2,hs2,H2,γ2,F2,hX3⟩
    have hfr:=hX3.fr
    refine ⟨fun b hb=>?_,Pr,fun _ _ h=>h,?_⟩
    ·obtain ⟨x,y,hxy⟩:=hp b hb
     have hc:=hX'.mem.agree b x y hxy
     refine hfr.block b ?_ ?_
     ·show b<w.heap.size
      rcases Nat.lt_or_ge b w.heap.size with h | h
      ·exact h
      ·simp [World.cell?,Array.getElem?_eq_none h] at hc
     ·show tot F s'.toS.m b=0
      rcases Nat.eq_zero_or_pos (tot F s'.toS.m b) with h | h
      ·exact h
      ·have:=hX'.mem.nofz b (by omega) x
       rw [hxy] at this; cases this
    ·exact hD _ hs2 a' w' H2 γ2 F2 Pr ⟨hX3.mem,hX'.fr.trans hfr,hX3.nt,⟨hX3.df.1,hX3.df.2.1,hX'.df.2.2⟩,hX3.t⟩ (hPr.mono hset hfr.hold)
   ·obtain ⟨s2,⟨v,t,rfl,rfl,hv⟩,H2,γ2,F2,hX3⟩:=h
    exact ⟨t.clr.toS,rfl,hpk _ _ ⟨v,t.clr,rfl,rfl,hv⟩,H2,γ2,F2,RX_noT ⟨hX3.mem,hX'.fr.trans hX3.fr,hX3.nt,⟨hX3.df.1,hX3.df.2.1,hX'.df.2.2⟩,hX3.t⟩ rfl rfl⟩
 ·have hX':=RX_SEq e0 hX0
  rw [if_neg (by rw [hw]; simp)]
  exact ⟨Pr,fun _ _ h=>h,hD _ hno (a.put o.dst undef) w H γ F Pr hX' (hPr.mono hset (fun _ _ _ h=>h))⟩
theorem pickQ_spec {ops:Array Oper} {listed:Array Bool} {s:St} {i:Nat} {A:List Nat} {fz:Bool}:∀ {rd:List Nat},pickQ ops listed s rd=some (i,A,fz) ->
  ∃ o,ops[i]? = some o/\takeC ops listed i A fz=true/\(fz=true->frozenT s o=true)/\isQ o=true
 | [],h=>by cases h
 | j::r,h=>by
  simp only [pickQ] at h
  split at h
  ·exact pickQ_spec h
  ·rename_i o ho
   split at h
   ·exact pickQ_spec h
   ·rename_i hq
    split at h
    ·rename_i hf
     split at h
     ·rename_i ht
      simp only [Option.some.injEq,Prod.mk.injEq] at h
      obtain ⟨rfl,rfl,rfl⟩:=h
      exact ⟨o,ho,ht,fun _=>hf,hq⟩
     ·exact pickQ_spec h
    ·split at h
     ·rename_i ht
      simp only [Option.some.injEq,Prod.mk.injEq] at h
      obtain ⟨rfl,rfl,rfl⟩:=h
      exact ⟨o,ho,ht,fun h=>(by cases h),hq⟩
     ·exact pickQ_spec h
theorem allT_mem {f:Nat->Prop}:∀ {l:List Nat},allT f l->∀ i∈l,f i
 | [i],h,j,hj=>by simp only [List.mem_singleton] at hj; subst hj; exact h
 | i::i'::r,h,j,hj=>by
  simp only [List.mem_cons] at hj
  rcases hj with rfl | hj
  ·exact h.1
  ·exact allT_mem h.2 j (by simpa using hj)
theorem preF_load {s:St} {o:Oper} {t:TypeId} {x:Operand} (h:o.op=.load t x):preF s o=s:=by unfold preF; rw [h]
theorem AD_drawT (he:e.ok) (hpk:∀ x s,PQ e.pk x s->Q x s) {ops:Array Oper} {K:S->Prop} (hC:guardsC g.nt ops=true) (hs:Region.noSelect ops=true) (hK:∀ t:St,k t->K t.toS) :
  ∀ (fuel:Nat) (listed:Array Bool) (s:St),drawT e ops fuel listed s k->AD e.P g ops Q K fuel listed s.toS
 | 0,listed,s,h=>by
  simp only [drawT] at h
  split at h
  ·rename_i hr; exact AD_nil hr (hK s h) 0
  ·exact h.elim
 | fuel+1,listed,s,h=>by
  simp only [drawT] at h
  split at h
  ·rename_i hr; exact AD_nil hr (hK s h) _
  ·rename_i i0 rd hr
   split at h
   ·rename_i i A fz hp
    obtain ⟨o,hi,ht,hf,hq⟩:=pickQ_spec hp
    rw [hi] at h
    dsimp only at h
    obtain ⟨c1,c2⟩:=guardsC_get hC hi
    split at h
    ·rename_i hg
     intro a w H γ F Pr hX hPr
     obtain ⟨H1,F1,hX1,hH1⟩:=RXt_mono hX (fun g' H F hx=>RXt_preF hx o)
     refine AD_takeT (D:=fun s'=>drawT e ops fuel (listed.setIfInBounds i true) s' k) hC hs hi ht (fun s' hs'=>AD_drawT he hpk hC hs hK fuel _ _ hs') ?_ a w H1 γ F1 Pr hX1 (hPr.mono (fun _ h=>h) hH1)
     unfold gT
     rw [hg]
     refine ⟨fun hfz=>?_,h⟩
     have:=hf hfz
     cases hop:o.op with
     | load t x=>rw [preF_load hop]; exact this
     | _=>unfold frozenT; rw [hop]
    ·rename_i q hg
     refine AD_takeT (D:=fun s'=>drawT e ops fuel (listed.setIfInBounds i true) s' k) hC hs hi ht (fun s' hs'=>AD_drawT he hpk hC hs hK fuel _ _ hs') ?_
     refine gT_ext (fun s' _ hs'=>?_) (fun _ _ h=>h) h
     split at hs'
     ·rename_i hb
      refine ⟨fun hfz=>?_,hs'⟩
      rw [hfz] at hb
      simpa using hb
     ·exact hs'.elim
   ·intro a w H γ F Pr hX hPr
    refine ⟨fun h0=>absurd (hr ▸ h0) (by simp),fun i hi=>?_⟩
    have hun:listed.getD i true=false:=(mem_ready.1 hi).1
    have hfi:=allT_mem h i (hr ▸ hi)
    cases ho:ops[i]? with
    | none=>rw [ho] at hfi; exact hfi.elim
    | some o=>
     rw [ho] at hfi
     exact AD_stepT he hpk hC hun ho (fun s hs'=>AD_drawT he hpk hC hs hK fuel _ s hs') hfi hX hPr
theorem AW_drawT {id:Nat} {l:List Oper} (he:e.ok) (hpk:∀ x s,PQ e.pk x s->Q x s) (hm:e.P.follows .mixedOrders=true) (hC:guardsC g.nt l.toArray=true) (hs:Region.noSelect l.toArray=true) {s:St}
  (hQ:∀ t:St,k t->Q .normal t.toS) (h:drawT e l.toArray l.toArray.size (Array.replicate l.toArray.size false) s k):AW e.P g (.region id l.toArray true) Q s.toS:=by
 intro a w hR
 refine wp_region_any hm (wpAny_of_L (Z:=Zx g Q) (Q:=fun a w=>∃ s',Q .normal s'/\R g s' a w) (fun a w h=>h) (fun e a w h=>Zx_lift h) _ _ (fun _ _=>False) _ _ ?_)
 obtain ⟨H,γ,F,hX⟩:=hR
 exact AD_drawT (Q:=Q) he hpk hC hs hQ _ _ s h a _ H γ F _ (RX_drawn hX _ rfl rfl rfl rfl) (fun j o _ _=>.inr fun b hb=>hb.elim)
theorem allT_ext {f f':Nat->Prop} (h:∀ i,f i->f' i):∀ {l:List Nat},allT f l->allT f' l
 | [],_=>trivial
 | [i],hh=>h i hh
 | i::i'::r,hh=>⟨h i hh.1,allT_ext h (l:=i'::r) hh.2⟩
theorem drawT_ext (he:e.ok) {ops:Array Oper} {k':St->Prop}:∀ {fuel:Nat} {listed:Array Bool} {s:St},(∀ s',Ext s s'->k s'->k' s')->drawT e ops fuel listed s k->drawT e ops fuel listed s k'
 | 0,listed,s,hk,h=>by
  simp only [drawT] at h ⊢
  split at h
  ·exact hk _ (Ext.refl s) h
  ·exact h.elim
 | fuel+1,listed,s,hk,h=>by
  simp only [drawT] at h ⊢
  split at h
  ·exact hk _ (Ext.refl s) h
  ·split at h
   ·split at h
    ·split at h
     ·exact qT_mono (fun v hv=>drawT_ext he (fun s' hE=>hk s' (((Ext_preF _ _).trans (Ext_put _ _ _)).trans hE)) hv) h
     ·refine gT_ext (fun s1 h1 hs1=>?_) (fun s1 h1 hs1=>drawT_ext he (fun s' hE=>hk s' (h1.trans hE)) hs1) h
      split at hs1
      ·exact qT_mono (fun v hv=>drawT_ext he (fun s' hE=>hk s' ((h1.trans (Ext_put _ _ _)).trans hE)) hv) hs1
      ·exact hs1.elim
    ·exact h.elim
   ·refine allT_ext (fun i hi=>?_) h
    split at hi
    ·exact gT_ext (fun s1 h1 hs1=>opT_ext (e:=e.cl) he (fun s2 h2 hs2=>drawT_ext he (fun s' hE=>hk s' ((h1.trans h2).trans hE)) hs2) hs1) (fun s1 h1 hs1=>drawT_ext he (fun s' hE=>hk s' (h1.trans hE)) hs1) hi
    ·exact hi.elim
end
end Go.Am
end

section
namespace Go.Am
def TinN (N:List Nm):T->Prop
 | .pl p=>p.root∈N
 | .rf p=>p.root∈N
 | _=>True
def A1inN (N:List Nm):AV1->Prop
 | .c t=>TinN N t
 | .agg ts=>∀ t∈ts,TinN N t
def AinN (N:List Nm):AV->Prop
 | .one x=>A1inN N x
 | .tup xs=>∀ x∈xs,A1inN N x
 | .any=>True
def canonR (r:Root):Root:=⟨r.blk,r.cells.map T.canon⟩
def CanR (r r':Root):Prop:=r'.blk=r.blk/\r'.cells.length=r.cells.length/\∀ (i:Nat) t t',r.cells[i]? = some t->r'.cells[i]? = some t'->t'=t\/t'=t.canon
theorem CanR.refl (r:Root):CanR r r:=⟨rfl,rfl,fun i t t' h1 h2=>.inl (by rw [h1] at h2; exact (Option.some.inj h2).symm)⟩
theorem CanR.canon (r:Root):CanR r (canonR r):=⟨rfl,by simp [canonR],fun i t t' h1 h2=>.inr (by simp only [canonR,List.getElem?_map,h1,Option.map_some,Option.some.injEq] at h2; exact h2.symm)⟩
theorem CanR.of {r r':Root} (h:r'=r\/r'=canonR r):CanR r r':=by
 rcases h with rfl | rfl
 ·exact CanR.refl _
 ·exact CanR.canon _
theorem getR_nodup:∀ {m:Mm} {n:Nm} {r:Root},(m.map (·.1)).Nodup->(n,r)∈m->getR m n=some r
 | [],_,_,_,h=>by cases h
 | (k,x)::m,n,r,hn,h=>by
  simp only [List.map_cons,List.nodup_cons] at hn
  simp only [getR]
  rcases List.mem_cons.1 h with h | h
  ·cases h; rw [if_pos rfl]
  ·rw [if_neg (fun e=>hn.1 (by subst e; exact List.mem_map_of_mem (f:=(·.1)) h)),getR_nodup hn.2 h]
theorem tot_sub2 {F:Nm->Fp} {b:Nat}:∀ {m' m:Mm},(m'.map (·.1)).Nodup->(m.map (·.1)).Nodup->(∀ x∈m',∃ r,getR m x.1=some r)->tot F m' b<=tot F m b
 | [],_,_,_,_=>Nat.zero_le _
 | x::m',m,h1,h2,h=>by
  simp only [List.map_cons,List.nodup_cons] at h1
  obtain ⟨r,hr⟩:=h x (by simp)
  have e:=tot_delR_eq (F:=F) hr b
  have ih:=tot_sub2 (F:=F) (b:=b) (m':=m') (m:=delR m x.1) h1.2 (nodup_delR h2) (fun y hy=>by
   obtain ⟨r',hr'⟩:=h y (List.mem_cons_of_mem _ hy)
   refine ⟨r',?_⟩
   rw [getR_delR (fun e=>h1.1 (by rw [<- e]; exact List.mem_map_of_mem (f:=(·.1)) hy))]
   exact hr')
  show F x.1 b+tot F m' b<=tot F m b
  omega
section
variable {g:G} {a:Act} {w:World} {H:FH} {γ:Gam} {F:Nm->Fp}
theorem Cs_imp {R R':T->Fp->Value->Prop}:∀ {ts:List T} {ts':List T} {f:Fp} {vs:List Value},ts'.length=ts.length->(∀ (i:Nat) t t' f v,ts[i]? = some t->ts'[i]? = some t'->R t f v->R' t' f v)->Ts R ts f vs->Ts R' ts' f vs
 | [],[],_,_,_,_,h=>h
 | t::ts,t'::ts',f,vs,hl,hi,h=>by
  obtain ⟨v,r,f1,f2,e1,e2,h1,h2⟩:=h
  exact ⟨v,r,f1,f2,e1,e2,hi 0 t t' _ _ rfl rfl h1,Cs_imp (by simpa using hl) (fun i=>hi (i+1)) h2⟩
theorem RX_sub {s s':S} (hX:RX g s a w H γ F) (hnd:(s'.m.map (·.1)).Nodup)
  (hm:∀ x∈s'.m,∃ r,getR s.m x.1=some r/\CanR r x.2/\∀ t∈r.cells,TinN (s'.m.map (·.1)) t)
  (ht:∀ i,getT s'.t i=.any\/((getT s'.t i=getT s.t i\/getT s'.t i=(getT s.t i).map T.canon)/\AinN (s'.m.map (·.1)) (getT s.t i))):RX g s' a w H γ F:=by
 have hget:∀ n,n∈s'.m.map (·.1)->∃ r r',getR s.m n=some r/\getR s'.m n=some r'/\CanR r r':=by
  intro n hn
  obtain ⟨x,hx,rfl⟩:=List.mem_map.1 hn
  obtain ⟨r,h1,h2,_⟩:=hm x hx
  exact ⟨r,x.2,h1,getR_nodup hnd hx,h2⟩
 have cell:∀ {r r':Root},CanR r r'->r'.cells.length=r.cells.length/\∀ (i:Nat) sub l,r.cells[i]? = some (.ow sub l)->r'.cells[i]? = some (.ow sub l):=by
  rintro r r' ⟨_,h2,h3⟩
  refine ⟨h2,fun i sub l h=>?_⟩
  have hlt:i<r'.cells.length:=by rw [h2]; exact lt_of_get h
  rw [List.getElem?_eq_getElem hlt]
  rcases h3 i _ _ h (List.getElem?_eq_getElem hlt) with e | e
  ·rw [e]
  ·rw [e]; rfl
 have pl:∀ p,p.root∈s'.m.map (·.1)->okPl s.m p->okPl s'.m p:=by
  intro p hp h
  obtain ⟨r,r',e1,e2,e3⟩:=hget _ hp
  obtain ⟨c1,c2⟩:=cell e3
  unfold okPl at h ⊢
  rw [e1] at h
  rw [e2]
  dsimp only at h ⊢
  cases hpath:p.path with
  | nil=>rw [hpath] at h; dsimp only at h ⊢; omega
  | cons st q=>
   rw [hpath] at h
   dsimp only at h ⊢
   split at h
   ·rename_i sub l hc; rw [c2 _ _ _ hc]; exact h
   ·exact h.elim
 have rf:∀ p,p.root∈s'.m.map (·.1)->okRf s.m p->okRf s'.m p:=by
  intro p hp h
  obtain ⟨r,r',e1,e2,e3⟩:=hget _ hp
  obtain ⟨c1,c2⟩:=cell e3
  unfold okRf at h ⊢
  rw [e1] at h
  rw [e2]
  dsimp only at h ⊢
  split at h
  ·rename_i sub l hc hpath; rw [c2 _ _ _ hc,hpath]; trivial
  ·rename_i l hc hpath
   have hlt:p.off<r'.cells.length:=by rw [c1]; exact lt_of_get hc
   have hc':r'.cells[p.off]? = some (.mp l):=by
    rw [List.getElem?_eq_getElem hlt]
    rcases e3.2.2 p.off _ _ hc (List.getElem?_eq_getElem hlt) with e | e
    ·rw [e]
    ·rw [e]; rfl
   rw [hc',hpath]; trivial
  ·rename_i sub l st q hc hpath; rw [c2 _ _ _ hc,hpath]; exact h
  ·exact h.elim
 have tr:∀ {t:T} {f:Fp} {v:Value},TinN (s'.m.map (·.1)) t->TR w H γ s.m t f v->TR w H γ s'.m t f v:=by
  intro t f v hin h
  cases t with
  | pl p=>exact ⟨h.1,pl p hin h.2.1,h.2.2⟩
  | rf p=>exact ⟨h.1,rf p hin h.2.1,h.2.2⟩
  | _=>exact h
 have trc:∀ {t:T} {f:Fp} {v:Value},TinN (s'.m.map (·.1)) t->TR w H γ s.m t f v->TR w H γ s'.m t.canon f v:=by
  intro t f v hin h
  have h':=tr hin h
  cases t with
  | nil=>exact ⟨h'.1,(TR_canon (w:=w) (H:=H) (γ:=γ) (m:=s'.m) .nil v ⟨fun _=>rfl,h'.2⟩).2⟩
  | _=>exact h'
 have hsub:∀ b,tot F s'.m b<=tot F s.m b:=fun b=>tot_sub2 hnd hX.mem.keys (fun x hx=>by obtain ⟨r,h,_⟩:=hm x hx; exact ⟨r,h⟩)
 refine ⟨⟨hX.mem.agree,fun x hx=>?_,hnd,fun b=>Nat.le_trans (hsub b) (hX.mem.le1 b),fun b hb=>hX.mem.lt b (by have:=hsub b; omega),fun b hb=>hX.mem.nofz b (by have:=hsub b; omega)⟩,
  ⟨hX.fr.size,hX.fr.os,hX.fr.tape,hX.fr.output,hX.fr.block,hX.fr.hold,hX.fr.hnew,fun b hb=>hX.fr.tt b (by have:=hsub b; omega),hX.fr.nz⟩,hX.nt,hX.df,fun i=>?_⟩
 ·obtain ⟨r,h1,h2,h3⟩:=hm x hx
  have hR:=hX.mem.roots _ (getR_mem h1)
  have hlen:=(cell h2).1
  have key:∀ (i:Nat) t t' f v,r.cells[i]? = some t->x.2.cells[i]? = some t'->TR w H γ s.m t f v->TR w H γ s'.m t' f v:=by
   intro i t t' f v e1 e2 h
   have hin:=h3 t (List.mem_of_getElem? e1)
   rcases h2.2.2 i t t' e1 e2 with e | e
   ·rw [e]; exact tr hin h
   ·rw [e]; exact trc hin h
  have hblk:x.2.blk=r.blk:=h2.1
  unfold RootR at hR ⊢
  rw [hblk]
  split at hR
  ·rename_i hb
   rw [if_pos hb]
   obtain ⟨b,cs,ty,fz,g',k1,k2,k3,k4,k5,k6⟩:=hR
   exact ⟨b,cs,ty,fz,g',k1,k2,k3,by rw [hlen]; exact k4,Cs_imp hlen key k5,k6⟩
  ·rename_i hb
   rw [if_neg hb]
   obtain ⟨v,t,k1,k2,k3⟩:=hR
   dsimp only at k2
   rw [k2] at hlen key
   match hc:x.2.cells,hlen with
   | [t'],_=>exact ⟨v,t',k1,rfl,key 0 t t' _ _ rfl (by rw [hc]; rfl) k3⟩
 ·rcases ht i with h | ⟨h,hin⟩
  ·rw [h]; trivial
  ·have hv:=hX.t i
   have one:∀ {x:AV1} {y:Value},A1inN (s'.m.map (·.1)) x->AR1 w H γ s.m x y->AR1 w H γ s'.m x y:=by
    intro x y hin h
    cases x with
    | c t=>exact tr hin h
    | agg ts=>
     obtain ⟨cs,e1,e2,e3⟩:=h
     refine ⟨cs,e1,e2,Cs_imp rfl (fun i t t' f v h1 h2 h=>?_) e3⟩
     rw [h1] at h2; obtain rfl:=Option.some.inj h2
     exact tr (hin t (List.mem_of_getElem? h1)) h
   have all:AR w H γ s'.m (getT s.t i) (g.tv a i):=by
    revert hv hin
    cases getT s.t i with
    | one x=>exact fun hin hv=>one hin hv
    | tup xs=>
     rintro hin ⟨l,e,hl⟩
     refine ⟨l,e,?_⟩
     have:∀ (xs:List AV1) (ys:List Value),(∀ x∈xs,A1inN (s'.m.map (·.1)) x)->ARs w H γ s.m xs ys->ARs w H γ s'.m xs ys:=by
      intro xs
      induction xs with
      | nil=>intro ys _ h; cases ys <;> exact h
      | cons x xs ih=>
       intro ys hin h
       cases ys with
       | nil=>exact h.elim
       | cons y ys=>exact ⟨one (hin x (by simp)) h.1,ih ys (fun z hz=>hin z (List.mem_cons_of_mem _ hz)) h.2⟩
     exact this xs _ hin hl
    | any=>exact fun _ _=>trivial
   rcases h with h | h
   ·rw [h]; exact all
   ·rw [h]; exact AR_map TR_canon all
end
end Go.Am
end

section
namespace Go.Am
section
variable {g:G} {a:Act} {w:World}
theorem R_of {s:S} {H:FH} {γ:Gam} {F:Nm->Fp} (h:RX g s a w H γ F):R g s a w:=⟨H,γ,F,h⟩
theorem getM_del (n:Nm):∀ m:List (Nm×Nat×Rt),getM (delM m n) n=none
 | []=>rfl
 | (k,j,v)::m=>by
  simp only [delM]
  by_cases h:k=n
  ·rw [if_pos h]; exact getM_del n m
  ·rw [if_neg h]; simp only [getM]; rw [if_neg h]; exact getM_del n m
theorem getM_fresh (s:St) (n:Nm):getM (s.fresh n).m n=none:=by
 unfold St.fresh
 split
 ·assumption
 ·show getM (killMm _ _ (delM s.m n)) n=none
  rw [getM_kill,getM_del]; rfl
theorem Ext_own1T (s:St) (k:Nat) (sh:List Sh) (u:U):Ext s (own1T s k sh u):=by
 unfold own1T
 split
 ·refine (Ext_fresh s (ownN k)).trans ⟨Nat.le_succ _,ExtT_cons _ _ _ (Nat.le_refl _),ExtM_cons _ _ _ (Nat.le_refl _)⟩
 ·split
  ·refine ((Ext_drop s _).trans (Ext_fresh _ (ownN k))).trans ⟨Nat.le_succ _,ExtT_cons _ _ _ (Nat.le_refl _),ExtM_cons _ _ _ (Nat.le_refl _)⟩
  ·exact Ext.refl s
 ·exact Ext.refl s
theorem R_own1T {s:St} (h:R g s.toS a w) (k:Nat) (sh:List Sh) (u:U):R g (own1T s k sh u).toS a w:=by
 obtain ⟨H,γ,F,hX⟩:=h
 have hn:=ND_of hX
 unfold own1T
 split
 ·rename_i hv
  obtain ⟨γ',F',h'⟩:=RX_own1 hX k (ownN k) sh
  refine R_SEq ?_ (R_of h')
  unfold own1
  rw [gtA_eq hv]
  simp only [At.toV,A1.toV,Tt.toT]
  have e:getR (s.toS.fresh (ownN k)).m (ownN k)=none:=by
   rw [<- fresh_toS hn,show (s.fresh (ownN k)).toS.m=toM (s.fresh (ownN k)).m from rfl,getM_toM,getM_fresh]; rfl
  rw [e]
  show SEq ⟨setT (s.toS.fresh (ownN k)).t k _,_⟩ _
  rw [<- fresh_toS hn]
  refine ⟨fun i=>?_,rfl⟩
  show getT (setT _ k _) i=getT ((k,_)::_) i
  rw [getT_setT]; rfl
 ·rename_i n hv
  split
  ·rename_i sh' u' l' hne hr
   obtain ⟨γ',F',h'⟩:=RX_own1 hX k (ownN k) sh
   refine R_SEq ?_ (R_of h')
   unfold own1
   rw [gtA_eq hv]
   simp only [At.toV,A1.toV,Tt.toT]
   rw [show getR s.toS.m n=some (⟨false,[.ow sh' u' l'],none⟩:Rt).toR from getR_of hr]
   show SEq ⟨setT ((s.toS.drop n).fresh (ownN k)).t k _,_⟩ _
   rw [<- drop_toS hn,<- fresh_toS (ND_drop hn)]
   refine ⟨fun i=>?_,rfl⟩
   show getT (setT _ k _) i=getT ((k,_)::_) i
   rw [getT_setT]; rfl
  ·exact ⟨H,γ,F,hX⟩
 ·exact ⟨H,γ,F,hX⟩
theorem Ext_ownCellsT (n:Nm) (us:List U):∀ (sh:List Sh) (off:Nat) (s:St),Ext s (ownCellsT s n us sh off)
 | [],_,s=>Ext.refl s
 | .ow sub::r,off,s=>by
  simp only [ownCellsT]
  split
  ·split
   ·rename_i cells hr _ _ u hc hu
    have h1:Ext s ⟨s.nx+1,s.t,setM s.m n s.nx ⟨true,cells.set off (.ow sub u []),none⟩⟩:=⟨Nat.le_succ _,fun _ _ _ h _=>h,ExtM_set _ _ (Nat.le_refl _) _⟩
    exact h1.trans (Ext_ownCellsT n us r (off+1) _)
   ·exact Ext_ownCellsT n us r (off+1) s
  ·exact Ext.refl s
 | .fr::r,off,s=>by
  simp only [ownCellsT]
  split
  ·split
   ·exact (Ext_frzPt s _).trans (Ext_ownCellsT n us r (off+1) _)
   ·exact Ext_ownCellsT n us r (off+1) s
  ·exact Ext.refl s
theorem R_frzPt {s:St} (h:R g s.toS a w) (q:Pl):R g (frzPt s q).toS a w:=by
 obtain ⟨H,γ,F,hX⟩:=h
 obtain ⟨H',F',h'⟩:=RXt_frzPt hX q
 exact ⟨H',γ,F',h'⟩
theorem R_frzAt {s:St} (h:R g s.toS a w) (v:At):R g (frzAt s v).toS a w:=by
 obtain ⟨H,γ,F,hX⟩:=h
 obtain ⟨H',F',h'⟩:=RXt_frzAt hX v
 exact ⟨H',γ,F',h'⟩
theorem R_ownCellsT (n:Nm) (us:List U):∀ (sh:List Sh) (off:Nat) {s:St},R g s.toS a w->R g (ownCellsT s n us sh off).toS a w
 | [],_,_,h=>h
 | .ow sub::r,off,s,h=>by
  simp only [ownCellsT]
  split
  ·rename_i cells hr
   split
   ·rename_i u hc hu
    refine R_ownCellsT n us r (off+1) ?_
    obtain ⟨H,γ,F,hX⟩:=h
    have h':=RX_ownR hX n off sub
    have e:s.toS.ownR n off sub=(⟨s.nx+1,s.t,setM s.m n s.nx ⟨true,cells.set off (.ow sub u []),none⟩⟩:St).toS:=by
     unfold S.ownR
     rw [show getR s.toS.m n=some (⟨true,cells,none⟩:Rt).toR from getR_of hr]
     have ec:(⟨true,cells,none⟩:Rt).toR.cells[off]? = some .nil:=by
      show (cells.map Tt.toT)[off]? = _
      rw [List.getElem?_map,hc]; rfl
     show (match (⟨true,cells,none⟩:Rt).toR.cells[off]? with | some .nil=>_ | _=>_)=_
     rw [ec]
     refine drop_toS.S_ext rfl ?_
     show _=toM (setM s.m n s.nx _)
     rw [setM_toM]
     congr 1
     simp only [Rt.toR,holed,List.map_set,Tt.toT]
     rfl
    rw [<- e]
    exact R_of h'
   ·exact R_ownCellsT n us r (off+1) h
  ·exact h
 | .fr::r,off,s,h=>by
  simp only [ownCellsT]
  split
  ·split
   ·exact R_ownCellsT n us r (off+1) (R_frzPt h _)
   ·exact R_ownCellsT n us r (off+1) h
  ·exact h
theorem Ext_prep:∀ (sp:List Sp) (s:St),Ext s (prep sp s)
 | [],s=>Ext.refl s
 | .sl k u::r,s=>(Ext_frzAt s _).trans (Ext_prep r _)
 | .ow k sh u::r,s=>(Ext_own1T s k sh u).trans (Ext_prep r _)
 | .rt n sh u::r,s=>(Ext_ownCellsT n _ (unmark sh) 0 s).trans (Ext_prep r _)
 | .mp _ _ _::r,s=>Ext_prep r s
theorem R_prep:∀ (sp:List Sp) {s:St},R g s.toS a w->R g (prep sp s).toS a w
 | [],_,h=>h
 | .sl k u::r,_,h=>R_prep r (R_frzAt h _)
 | .ow k sh u::r,_,h=>R_prep r (R_own1T h k sh u)
 | .rt n sh u::r,_,h=>R_prep r (R_ownCellsT n _ (unmark sh) 0 h)
 | .mp _ _ _::r,_,h=>R_prep r h
mutual
theorem shEq_eq:∀ {a b:Sh},shEq a b=true->a=b
 | .fr,.fr,_=>rfl
 | .ow a,.ow b,h=>by rw [shEqs_eq (show shEqs a b=true from h)]
theorem shEqs_eq:∀ {a b:List Sh},shEqs a b=true->a=b
 | [],[],_=>rfl
 | a::r,b::q,h=>by
  simp only [shEqs,Bool.and_eq_true] at h
  rw [shEq_eq h.1,shEqs_eq h.2]
end
def CL:List Tt->List C->Prop
 | [],[]=>True
 | t::ts,c::cs=>(t=.d c\/(t=.nil/\∃ u',c=.li u' []))/\CL ts cs
 | _,_=>False
theorem canC_eq {u:U} {t:Tt} {x:El u} (h:canC u t=some x):t=.d (cellOf u x)\/(t=.nil/\∃ u',cellOf u x=.li u' []):=by
 unfold canC at h
 split at h
 ·rw [ofCell_eq h]; exact .inl (by rw [<- ofCell_eq h])
 ·split at h
  ·simp only [Option.some.injEq] at h; subst h; exact .inr ⟨rfl,_,rfl⟩
  ·cases h
 ·cases h
theorem canCs_CL:∀ {us:List U} {ts:List Tt} {x:Fl us},canCs us ts=some x->CL ts (cellsF us x)
 | [],[],_,_=>trivial
 | u::r,c::cs,x,h=>by
  simp only [canCs] at h
  cases h1:canC u c with
  | none=>rw [h1] at h; cases h
  | some y=>
   cases h2:canCs r cs with
   | none=>rw [h1,h2] at h; cases h
   | some z=>
    rw [h1,h2] at h
    simp only [Option.some.injEq] at h
    subst h
    rw [cellsF,hd_cons,tl_cons]
    exact ⟨canC_eq h1,canCs_CL h2⟩
 | [],_::_,_,h=>by simp [canCs] at h
 | _::_,[],_,h=>by simp [canCs] at h
theorem canU_CL {u:U} {ts:List Tt} {x:El u} (h:canU u ts=some x):CL ts (flat u x):=by
 cases u with
 | st n=>
  simp only [canU] at h
  cases h1:canCs (sd n).fs ts with
  | none=>rw [h1] at h; cases h
  | some y=>
   rw [h1] at h
   have:=Option.some.inj h
   subst this
   show CL ts (cellsF (sd n).fs ((sd n).un ((sd n).mkF y)))
   rw [(sd n).l2]; exact canCs_CL h1
 | _=>
  cases ts with
  | nil=>cases h
  | cons t r=>cases r with
   | nil=>rw [flat_leaf rfl]; exact ⟨canC_eq h,trivial⟩
   | cons _ _=>cases h
theorem CL_canon:∀ {ts:List Tt} {cs:List C},CL ts cs->(cs.map Tt.d).map Tt.toT=(ts.map Tt.toT).map T.canon/\∀ N,∀ t∈ts.map Tt.toT,TinN N t
 | [],[],_=>⟨rfl,fun _ _ h=>by simp at h⟩
 | t::ts,c::cs,h=>by
  obtain ⟨h1,h2⟩:=h
  obtain ⟨k1,k2⟩:=CL_canon h2
  simp only [List.map_cons,k1]
  rcases h1 with rfl | ⟨rfl,u',rfl⟩
  ·exact ⟨rfl,fun N t ht=>by
    rcases List.mem_cons.1 ht with rfl | ht
    ·trivial
    ·exact k2 N t ht⟩
  ·exact ⟨rfl,fun N t ht=>by
    rcases List.mem_cons.1 ht with rfl | ht
    ·trivial
    ·exact k2 N t ht⟩
 | [],_::_,h=>h.elim
 | _::_,[],h=>h.elim
theorem canAt_ok {u:U} {v:At} {x:El u} (h:canAt u v=some x):(toAt u x).toV=v.toV.map T.canon/\∀ N,AinN N v.toV:=by
 unfold canAt at h
 split at h
 ·rename_i y
  unfold canA1 at h
  split at h
  ·rename_i t
   split at h
   ·rename_i hl
    have hc:=canU_CL h
    rw [flat_leaf hl] at hc
    obtain ⟨k1,k2⟩:=CL_canon hc
    have e:(toAt u x)=sct (cellOf u x):=by cases u <;> first | rfl | cases hl
    rw [e]
    refine ⟨?_,fun N=>k2 N t.toT (by simp)⟩
    have:=congrArg (·[0]?) k1
    simp only [List.map_cons,List.map_nil,List.getElem?_cons_zero,Option.some.injEq] at this
    simp only [At.toV,A1.toV,AV.map,AV1.map,this]
   ·cases h
  ·rename_i ts
   split at h
   ·cases h
   ·rename_i hl
    obtain ⟨k1,k2⟩:=CL_canon (canU_CL h)
    have e:(toAt u x)=.one (.agg ((flat u x).map Tt.d)):=by cases u <;> first | rfl | cases hl
    rw [e]
    exact ⟨by simp only [At.toV,A1.toV,AV.map,AV1.map,k1],fun N=>k2 N⟩
 ·cases h
theorem unRt_ok:∀ {sh:List Sh} {cells ts:List Tt} {cs:List C},unRt sh cells=some ts->CL ts cs->(rtCells sh cs).map Tt.toT=(cells.map Tt.toT).map T.canon/\∀ N,∀ t∈cells.map Tt.toT,TinN N t
 | [],[],ts,cs,h,hc=>by
  simp only [unRt,Option.some.injEq] at h
  subst h
  cases cs with
  | nil=>exact ⟨rfl,fun _ _ h=>by simp at h⟩
  | cons _ _=>exact hc.elim
 | .ow s::r,c::cells,ts,cs,h,hc=>by
  cases c with
  | ow s' u l=>
   simp only [unRt] at h
   split at h
   ·rename_i ts' hs hr
    simp only [Option.some.injEq] at h
    subst h
    cases cs with
    | nil=>exact hc.elim
    | cons c cs=>
     obtain ⟨h1,h2⟩:=hc
     obtain ⟨k1,k2⟩:=unRt_ok hr h2
     rcases h1 with h1 | ⟨h1,_⟩
     ·simp only [Tt.d.injEq] at h1
      subst h1
      rw [shEqs_eq hs]
      simp only [rtCells,List.map_cons,k1]
      exact ⟨rfl,fun N t ht=>by
       rcases List.mem_cons.1 ht with rfl | ht
       ·trivial
       ·exact k2 N t ht⟩
     ·cases h1
   ·cases h
  | _=>simp [unRt] at h
 | .fr::r,c::cells,ts,cs,h,hc=>by
  have go:∀ {t:Tt} {ts':List Tt},c=t->unRt r cells=some ts'->ts=t::ts'->(∃ x,t=.d x)\/t=.nil->(rtCells (.fr::r) cs).map Tt.toT=((c::cells).map Tt.toT).map T.canon/\∀ N,∀ t∈(c::cells).map Tt.toT,TinN N t:=by
   rintro t ts' rfl hr rfl hk
   cases cs with
   | nil=>exact hc.elim
   | cons c' cs=>
    obtain ⟨h1,h2⟩:=hc
    obtain ⟨k1,k2⟩:=unRt_ok hr h2
    have e:rtCells (.fr::r) (c'::cs)=.d c'::rtCells r cs:=by cases c' <;> rfl
    rw [e]
    simp only [List.map_cons,k1]
    rcases h1 with rfl | ⟨rfl,u',rfl⟩
    ·exact ⟨rfl,fun N t ht=>by
      rcases List.mem_cons.1 ht with rfl | ht
      ·trivial
      ·exact k2 N t ht⟩
    ·exact ⟨rfl,fun N t ht=>by
      rcases List.mem_cons.1 ht with rfl | ht
      ·trivial
      ·exact k2 N t ht⟩
  cases c with
  | d x=>
   simp only [unRt] at h
   split at h
   ·rename_i ts' hr; exact go rfl hr (Option.some.inj h).symm (.inl ⟨x,rfl⟩)
   ·cases h
  | nil=>
   simp only [unRt] at h
   split at h
   ·rename_i ts' hr; exact go rfl hr (Option.some.inj h).symm (.inr rfl)
   ·cases h
  | _=>simp [unRt] at h
 | [],_::_,_,_,h,_=>by simp [unRt] at h
 | .ow _::_,[],_,_,h,_=>by simp [unRt] at h
 | .fr::_,[],_,_,h,_=>by simp [unRt] at h
theorem unRtN_ok:∀ {sh:List Sh} {cells ts:List Tt} {cs:List C},unRtN sh cells=some ts->CL ts cs ->
  (((rtCellsN sh cs).map Tt.toT).length=(cells.map Tt.toT).length/\∀ (i:Nat) t t',(cells.map Tt.toT)[i]? = some t->((rtCellsN sh cs).map Tt.toT)[i]? = some t'->t'=t\/t'=t.canon)/\∀ N,∀ t∈cells.map Tt.toT,TinN N t:=by
 intro sh
 induction sh with
 | nil=>
  intro cells ts cs h hc
  cases cells with
  | nil=>
   simp only [unRtN,Option.some.injEq] at h
   subst h
   cases cs with
   | nil=>exact ⟨⟨rfl,fun i t t' h=>by simp at h⟩,fun _ _ h=>by simp at h⟩
   | cons _ _=>exact hc.elim
  | cons _ _=>simp [unRtN] at h
 | cons s r ih=>
  intro cells ts cs h hc
  cases cells with
  | nil=>cases s with
   | fr=>simp [unRtN] at h
   | ow a=>cases a <;> simp [unRtN] at h
  | cons c cells=>
   have go:∀ {t0:Tt} {c':C} {cs':List C} {ts':List Tt},unRtN r cells=some ts'->CL ts' cs'->rtCellsN (s::r) (c'::cs')=t0::rtCellsN r cs'->(t0.toT=c.toT\/t0.toT=c.toT.canon)->(∀ N,TinN N c.toT) ->
     (((rtCellsN (s::r) (c'::cs')).map Tt.toT).length=((c::cells).map Tt.toT).length/\∀ (i:Nat) t t',((c::cells).map Tt.toT)[i]? = some t->((rtCellsN (s::r) (c'::cs')).map Tt.toT)[i]? = some t'->t'=t\/t'=t.canon)/\∀ N,∀ t∈(c::cells).map Tt.toT,TinN N t:=by
    intro t0 c' cs' ts' h1 h2 h3 h4 h5
    obtain ⟨⟨k1,k2⟩,k3⟩:=ih h1 h2
    rw [h3]
    refine ⟨⟨by simp only [List.map_cons,List.length_cons,k1],fun i t t' e1 e2=>?_⟩,fun N t ht=>?_⟩
    ·cases i with
     | zero=>
      simp only [List.map_cons,List.getElem?_cons_zero,Option.some.injEq] at e1 e2
      rw [<- e1,<- e2]; exact h4
     | succ i=>
      simp only [List.map_cons,List.getElem?_cons_succ] at e1 e2
      exact k2 i t t' e1 e2
    ·rcases List.mem_cons.1 ht with rfl | ht
     ·exact h5 N
     ·exact k3 N t ht
   cases s with
   | fr=>
    have gofr:∀ {t:Tt} {ts':List Tt},c=t->unRtN r cells=some ts'->ts=t::ts'->(∃ x,t=.d x)\/t=.nil->(((rtCellsN (.fr::r) cs).map Tt.toT).length=((c::cells).map Tt.toT).length/\∀ (i:Nat) t t',((c::cells).map Tt.toT)[i]? = some t->((rtCellsN (.fr::r) cs).map Tt.toT)[i]? = some t'->t'=t\/t'=t.canon)/\∀ N,∀ t∈(c::cells).map Tt.toT,TinN N t:=by
     rintro t ts' rfl hr rfl hk
     cases cs with
     | nil=>exact hc.elim
     | cons c' cs=>
      have e:rtCellsN (.fr::r) (c'::cs)=.d c'::rtCellsN r cs:=by cases c' <;> rfl
      obtain ⟨h1,h2⟩:=hc
      refine go hr h2 e ?_ ?_
      ·rcases h1 with h1 | ⟨h1,u',h1'⟩
       ·rw [h1]; exact .inl rfl
       ·rw [h1,h1']; exact .inr rfl
      ·intro N
       rcases hk with ⟨x,hx⟩ | hx
       ·rw [hx]; trivial
       ·rw [hx]; trivial
    cases c with
    | d x=>
     simp only [unRtN] at h
     split at h
     ·rename_i ts' hr; exact gofr rfl hr (Option.some.inj h).symm (.inl ⟨x,rfl⟩)
     ·cases h
    | nil=>
     simp only [unRtN] at h
     split at h
     ·rename_i ts' hr; exact gofr rfl hr (Option.some.inj h).symm (.inr rfl)
     ·cases h
    | _=>simp [unRtN] at h
   | ow a=>
    cases a with
    | nil=>
     cases c with
     | nil=>
      simp only [unRtN] at h
      split at h
      ·rename_i ts' hr
       simp only [Option.some.injEq] at h
       subst h
       cases cs with
       | nil=>exact hc.elim
       | cons c' cs=>exact go hr hc.2 rfl (.inl rfl) (fun N=>trivial)
      ·cases h
     | _=>simp [unRtN] at h
    | cons a b=>
     cases c with
     | ow s' u l=>
      simp only [unRtN] at h
      split at h
      ·rename_i ts' hs hr
       simp only [Option.some.injEq] at h
       subst h
       cases cs with
       | nil=>exact hc.elim
       | cons c' cs=>
        obtain ⟨h1,h2⟩:=hc
        rcases h1 with h1 | ⟨h1,_⟩
        ·simp only [Tt.d.injEq] at h1
         subst h1
         refine go hr h2 rfl (.inl ?_) (fun N=>trivial)
         simp only [Tt.toT]
         rw [shEqs_eq hs]
        ·cases h1
      ·cases h
     | _=>simp [unRtN] at h
theorem gtA_lookS (k:Nat):∀ t:List (Nat×Nat×At),gtA t k=match lookS t k with | some (_,v)=>v | none=>.any
 | []=>rfl
 | (i,j,v)::t=>by
  simp only [gtA,lookS]
  cases Nat.beq i k with
  | true=>rfl
  | false=>exact gtA_lookS k t
theorem inR_toT {rs:List Nm} {t:Tt} (h:t.inR rs=true):TinN rs t.toT:=by
 cases t with
 | pl p=>show p.root∈rs; simpa [Tt.inR] using h
 | rf p=>show p.root∈rs; simpa [Tt.inR] using h
 | _=>trivial
theorem inR_A1 {rs:List Nm} {x:A1} (h:x.inR rs=true):A1inN rs x.toV:=by
 cases x with
 | c t=>exact inR_toT h
 | agg ts=>
  intro t ht
  obtain ⟨t',h1,rfl⟩:=List.mem_map.1 ht
  exact inR_toT (List.all_eq_true.1 h t' h1)
theorem inR_At {rs:List Nm} {x:At} (h:x.inR rs=true):AinN rs x.toV:=by
 cases x with
 | one x=>exact inR_A1 h
 | tup xs=>
  intro t ht
  obtain ⟨t',h1,rfl⟩:=List.mem_map.1 ht
  exact inR_A1 (List.all_eq_true.1 h t' h1)
 | any=>trivial
theorem gtA_all {p:Nat->At->Prop}:∀ {t:List (Nat×Nat×At)},(∀ x∈t,p x.1 x.2.2)->∀ i,gtA t i=.any\/p i (gtA t i)
 | [],_,_=>.inl rfl
 | (k,j,v)::t,h,i=>by
  simp only [gtA]
  cases hb:Nat.beq k i with
  | true=>have:=Nat.eq_of_beq_eq_true hb; subst this; exact .inr (h (k,j,v) (by simp))
  | false=>exact gtA_all (fun x hx=>h x (List.mem_cons_of_mem _ hx)) i
theorem mem_keepS {t:List (Nat×Nat×At)}:∀ {ks:List Nat} {x:Nat×Nat×At},x∈keepS t ks->x.1∈ks/\lookS t x.1=some x.2
 | [],x,h=>by simp [keepS] at h
 | k::r,x,h=>by
  simp only [keepS] at h
  split at h
  ·rename_i j v hl
   rcases List.mem_cons.1 h with rfl | h
   ·exact ⟨by simp,hl⟩
   ·have:=mem_keepS h; exact ⟨List.mem_cons_of_mem _ this.1,this.2⟩
  ·have:=mem_keepS h; exact ⟨List.mem_cons_of_mem _ this.1,this.2⟩
theorem mem_keepM {t:List (Nm×Nat×Rt)}:∀ {ks:List Nm} {x:Nm×Nat×Rt},x∈keepM t ks->x.1∈ks/\lookM t x.1=some x.2
 | [],x,h=>by simp [keepM] at h
 | k::r,x,h=>by
  simp only [keepM] at h
  split at h
  ·rename_i j v hl
   rcases List.mem_cons.1 h with rfl | h
   ·exact ⟨by simp,hl⟩
   ·have:=mem_keepM h; exact ⟨List.mem_cons_of_mem _ this.1,this.2⟩
  ·have:=mem_keepM h; exact ⟨List.mem_cons_of_mem _ this.1,this.2⟩
theorem fitS_mem {s0 s:St} {rs:List Nm}:∀ {ks:List Nat},fitS s0 s rs ks=true->∀ k∈ks,∃ j v0 v,lookS s0.t k=some (j,v0)/\lookS s.t k=some (j,v)/\j<s0.nx/\v.inR rs=true
 | [],_,k,hk=>by simp at hk
 | i::r,h,k,hk=>by
  simp only [fitS,Bool.and_eq_true] at h
  rcases List.mem_cons.1 hk with rfl | hk
  ·have h1:=h.1
   split at h1
   ·rename_i j v0 j' v e1 e2
    simp only [Bool.and_eq_true] at h1
    have:=Nat.eq_of_beq_eq_true h1.1.1
    subst this
    exact ⟨_,_,_,e1,e2,Nat.le_of_ble_eq_true h1.1.2,h1.2⟩
   ·cases h1
  ·exact fitS_mem h.2 k hk
theorem fitM_mem {s0 s:St} {rs:List Nm}:∀ {ks:List Nm},fitM s0 s rs ks=true->∀ k∈ks,∃ j v0 v,lookM s0.m k=some (j,v0)/\lookM s.m k=some (j,v)/\j<s0.nx/\v.cells.all (·.inR rs)=true
 | [],_,k,hk=>by simp at hk
 | i::r,h,k,hk=>by
  simp only [fitM,Bool.and_eq_true] at h
  rcases List.mem_cons.1 hk with rfl | hk
  ·have h1:=h.1
   split at h1
   ·rename_i j v0 j' v e1 e2
    simp only [Bool.and_eq_true] at h1
    have:=Nat.eq_of_beq_eq_true h1.1.1
    subst this
    exact ⟨_,_,_,e1,e2,Nat.le_of_ble_eq_true h1.1.2,h1.2⟩
   ·cases h1
  ·exact fitM_mem h.2 k hk
theorem fitP_mem {s:St} {rs:List Nm}:∀ {ps:List (Nat×Nm×Nat)},fitP s rs ps=true->∀ p∈ps,gtA s.t p.1=.one (.c (.pl ⟨p.2.1,p.2.2,[]⟩))/\p.2.1∈rs
 | [],_,p,hp=>by simp at hp
 | (k,n,o)::r,h,p,hp=>by
  simp only [fitP,Bool.and_eq_true] at h
  rcases List.mem_cons.1 hp with rfl | hp
  ·have h1:=h.1
   split at h1
   ·rename_i n' o' hg
    simp only [Bool.and_eq_true,decide_eq_true_eq] at h1
    obtain ⟨⟨rfl,h2⟩,h3⟩:=h1
    have:=Nat.eq_of_beq_eq_true h2
    subst this
    exact ⟨hg,by simpa using h3⟩
   ·cases h1
  ·exact fitP_mem h.2 p hp
theorem keys_keepM {s0 s:St} {rs:List Nm}:∀ {ks:List Nm},fitM s0 s rs ks=true->(keepM s0.m ks).map (·.1)=ks
 | [],_=>rfl
 | k::r,h=>by
  have hh:=h
  simp only [fitM,Bool.and_eq_true] at h
  obtain ⟨j,v0,v,e1,_⟩:=fitM_mem hh k (by simp)
  simp only [keepM,e1,List.map_cons,keys_keepM h.2]
theorem keys_layM (nx:Nat):∀ (sp:List Sp) (x:FSp sp),(layM nx sp x).map (·.1)=sp.flatMap Sp.rn
 | [],_=>rfl
 | .sl k u::r,x=>by simp only [layM,List.flatMap_cons,Sp.rn,List.nil_append]; exact keys_layM nx r _
 | .ow k sh u::r,x=>by simp only [layM,List.flatMap_cons,Sp.rn,List.map_cons,List.singleton_append]; rw [keys_layM nx r]
 | .rt n sh u::r,x=>by simp only [layM,List.flatMap_cons,Sp.rn,List.map_cons,List.singleton_append]; rw [keys_layM nx r]
 | .mp n ku vu::r,x=>by simp only [layM,List.flatMap_cons,Sp.rn,List.map_cons,List.singleton_append]; rw [keys_layM nx r]
theorem nodupN_ok:∀ {l:List Nm},nodupN l=true->l.Nodup
 | [],_=>List.nodup_nil
 | n::r,h=>by
  simp only [nodupN,Bool.and_eq_true,Bool.not_eq_true',List.contains_eq_mem,decide_eq_false_iff_not] at h
  exact List.nodup_cons.2 ⟨h.1,nodupN_ok h.2⟩
theorem castE_eq {ku vu ku' vu':U} {l:List (El ku×El vu)} {x:List (El ku'×El vu')} (h:castE ku vu ku' vu' l=some x):∃ (e1:ku=ku') (e2:vu=vu'),x=e1 ▸ e2 ▸ l:=by
 unfold castE at h
 split at h
 ·rename_i e
  obtain ⟨rfl,rfl⟩:=e
  exact ⟨rfl,rfl,(Option.some.inj h).symm⟩
 ·cases h
theorem lay_ok {s:St} {nx:Nat}:∀ {sp:List Sp} {x:FSp sp},unS s sp=some x ->
  (∀ y∈layS nx sp x,(y.2.2.toV=(gtA s.t y.1).toV\/y.2.2.toV=(gtA s.t y.1).toV.map T.canon)/\∀ N,(∀ n∈sp.flatMap Sp.rn,n∈N)->AinN N (gtA s.t y.1).toV) /\
  (∀ y∈layM nx sp x,∃ r,getM s.m y.1=some r/\CanR r.toR y.2.2.toR/\∀ N,∀ t∈r.toR.cells,TinN N t)
 | [],_,_=>⟨fun y h=>by simp [layS] at h,fun y h=>by simp [layM] at h⟩
 | p::r,x,h=>by
  simp only [unS] at h
  cases h1:unSp s p with
  | none=>rw [h1] at h; cases h
  | some a=>
   cases h2:unS s r with
   | none=>rw [h1,h2] at h; cases h
   | some b=>
    rw [h1,h2] at h
    simp only [Option.some.injEq] at h
    obtain ⟨i1,i2⟩:=lay_ok (nx:=nx) h2
    cases p with
    | sl k u=>
     have ha:FSp.hd (.sl k u) r x=a:=by rw [<- h]; exact FSp_hd _ _ _ _
     have hb:FSp.tl (.sl k u) r x=b:=by rw [<- h]; exact FSp_tl _ _ _ _
     refine ⟨fun y hy=>?_,fun y hy=>?_⟩
     ·simp only [layS,ha,hb,List.mem_cons] at hy
      rcases hy with rfl | hy
      ·obtain ⟨k1,k2⟩:=canAt_ok (v:=gtA s.t k) h1
       exact ⟨.inr k1,fun N _=>k2 N⟩
      ·obtain ⟨k1,k2⟩:=i1 y hy
       exact ⟨k1,fun N hN=>k2 N (fun n hn=>hN n (by simp only [List.flatMap_cons,List.mem_append]; exact .inr hn))⟩
     ·simp only [layM,hb] at hy; exact i2 y hy
    | ow k sh u=>
     have ha:FSp.hd (.ow k sh u) r x=a:=by rw [<- h]; exact FSp_hd _ _ _ _
     have hb:FSp.tl (.ow k sh u) r x=b:=by rw [<- h]; exact FSp_tl _ _ _ _
     simp only [unSp] at h1
     split at h1
     ·rename_i n sh' u' l hv hr
      cases hn:decide (n=ownN k) <;> cases hsh:shEqs sh sh' <;> rw [hn,hsh] at h1
      ·cases h1
      ·cases h1
      ·cases h1
      ·have hn':n=ownN k:=by simpa using hn
       subst hn'
       obtain ⟨e,rfl⟩:=castL_eq h1
       subst e
       obtain rfl:=shEqs_eq hsh
       refine ⟨fun y hy=>?_,fun y hy=>?_⟩
       ·simp only [layS,hb,List.mem_cons] at hy
        rcases hy with rfl | hy
        ·refine ⟨.inl (by rw [hv]),fun N hN=>?_⟩
         rw [hv]
         exact hN _ (by simp [List.flatMap_cons,Sp.rn])
        ·obtain ⟨k1,k2⟩:=i1 y hy
         exact ⟨k1,fun N hN=>k2 N (fun n hn=>hN n (by simp only [List.flatMap_cons,List.mem_append]; exact .inr hn))⟩
       ·simp only [layM,ha,hb,List.mem_cons] at hy
        rcases hy with rfl | hy
        ·exact ⟨_,hr,CanR.refl _,fun N t ht=>by simp only [Rt.toR,holed,List.map_cons,List.map_nil,List.mem_singleton] at ht; subst ht; trivial⟩
        ·exact i2 y hy
     ·cases h1
    | mp n ku vu=>
     have ha:FSp.hd (.mp n ku vu) r x=a:=by rw [<- h]; exact FSp_hd _ _ _ _
     have hb:FSp.tl (.mp n ku vu) r x=b:=by rw [<- h]; exact FSp_tl _ _ _ _
     simp only [unSp] at h1
     split at h1
     ·rename_i ku' vu' l hr
      obtain ⟨e1,e2,rfl⟩:=castE_eq h1
      subst e1; subst e2
      refine ⟨fun y hy=>?_,fun y hy=>?_⟩
      ·simp only [layS,hb] at hy
       obtain ⟨k1,k2⟩:=i1 y hy
       exact ⟨k1,fun N hN=>k2 N (fun n hn=>hN n (by simp only [List.flatMap_cons,List.mem_append]; exact .inr hn))⟩
      ·simp only [layM,ha,hb,List.mem_cons] at hy
       rcases hy with rfl | hy
       ·exact ⟨_,hr,CanR.refl _,fun N t ht=>by simp only [Rt.toR,holed,List.map_cons,List.map_nil,List.mem_singleton] at ht; subst ht; trivial⟩
       ·exact i2 y hy
     ·cases h1
    | rt n sh u=>
     have ha:FSp.hd (.rt n sh u) r x=a:=by rw [<- h]; exact FSp_hd _ _ _ _
     have hb:FSp.tl (.rt n sh u) r x=b:=by rw [<- h]; exact FSp_tl _ _ _ _
     simp only [unSp] at h1
     split at h1
     ·rename_i cells hr
      split at h1
      ·rename_i ts hts
       obtain ⟨k1,k2⟩:=unRtN_ok hts (canU_CL h1)
       refine ⟨fun y hy=>?_,fun y hy=>?_⟩
       ·simp only [layS,hb] at hy
        obtain ⟨k1,k2⟩:=i1 y hy
        exact ⟨k1,fun N hN=>k2 N (fun n hn=>hN n (by simp only [List.flatMap_cons,List.mem_append]; exact .inr hn))⟩
       ·simp only [layM,ha,hb,List.mem_cons] at hy
        rcases hy with rfl | hy
        ·exact ⟨_,hr,⟨rfl,k1.1,k1.2⟩,fun N t ht=>k2 N t ht⟩
        ·exact i2 y hy
      ·cases h1
     ·cases h1
def jn1 (σ:Sg) (s0:St) (J:FSp σ.sp->Prop) (s:St):Prop:=σ.fit s0 s=true/\∃ x,unS s σ.sp=some x/\J x
theorem jn1_ok {σ:Sg} {s0 s1:St} {J:FSp σ.sp->Prop} (hE1:Ext s0 s1) (h:jn1 σ s0 J s1) (hR1:R g s1.toS a w):∃ v,J v/\R g (σ.st s0 v).toS a w:=by
   obtain ⟨hf,v,hv,h⟩:=h
   refine ⟨v,h,?_⟩
   obtain ⟨H,γ,F,hX⟩:=hR1
   simp only [Sg.fit,Bool.and_eq_true] at hf
   obtain ⟨⟨⟨f1,f2⟩,f3⟩,f4⟩:=hf
   obtain ⟨l1,l2⟩:=lay_ok (nx:=s0.nx) hv
   have hkeys:(σ.st s0 v).toS.m.map (·.1)=σ.rn:=by
    show (toM (keepM s0.m σ.kr++layM s0.nx σ.sp v)).map (·.1)=_
    simp only [toM,List.map_map]
    show (keepM s0.m σ.kr++layM s0.nx σ.sp v).map (·.1)=_
    rw [List.map_append,keys_keepM f4,keys_layM]; rfl
   refine ⟨H,γ,F,RX_sub hX (by rw [hkeys]; exact nodupN_ok f1) (fun x hx=>?_) (fun i=>?_)⟩
   ·rw [hkeys]
    obtain ⟨y,hy,rfl⟩:=List.mem_map.1 (show x∈toM (keepM s0.m σ.kr++layM s0.nx σ.sp v) from hx)
    rcases List.mem_append.1 hy with hy | hy
    ·obtain ⟨hk,hl⟩:=mem_keepM hy
     obtain ⟨j,v0,v1,e1,e2,e3,e4⟩:=fitM_mem f4 y.1 hk
     have e5:=hE1.m _ _ _ e2 e3
     rw [hl] at e5
     have e6:=Option.some.inj e5
     have eg:getM s1.m y.1=some y.2.2:=by rw [getM_lookM,e2]; simp [e6]
     refine ⟨y.2.2.toR,getR_of eg,CanR.refl _,fun t ht=>?_⟩
     have hv1:y.2.2=v1:=by rw [e6]
     rw [hv1] at ht
     have hH:=HL_holed v1.cells v1.hole
     obtain ⟨i,hi,hit⟩:=List.getElem_of_mem ht
     have hlen:=hH.len
     have hi':i<v1.cells.length:=by
      have:(v1.toR.cells).length=v1.cells.length:=hlen
      omega
     rcases hH.nth i _ t (List.getElem?_eq_getElem hi') (by rw [<- hit]; exact List.getElem?_eq_getElem hi) with e | ⟨_,_,_,_,_,e,_⟩
     ·rw [e]; exact inR_toT (List.all_eq_true.1 e4 _ (List.getElem_mem hi'))
     ·rw [e]; trivial
    ·obtain ⟨r,k1,k2,k3⟩:=l2 y hy
     exact ⟨r.toR,getR_of k1,k2,k3 _⟩
   ·rw [hkeys]
    have key:∀ y∈(σ.st s0 v).t,(y.2.2.toV=(gtA s1.t y.1).toV\/y.2.2.toV=(gtA s1.t y.1).toV.map T.canon)/\AinN σ.rn (gtA s1.t y.1).toV:=by
     intro y hy
     rcases List.mem_append.1 hy with hy | hy
     ·obtain ⟨hk,hl⟩:=mem_keepS hy
      obtain ⟨j,v0,v1,e1,e2,e3,e4⟩:=fitS_mem f3 y.1 hk
      have e5:=hE1.t _ _ _ e2 e3
      rw [hl] at e5
      have e6:=Option.some.inj e5
      have eg:gtA s1.t y.1=v1:=by rw [gtA_lookS,e2]
      rw [eg,e6]
      exact ⟨.inl rfl,inR_At e4⟩
     ·rcases List.mem_append.1 hy with hy | hy
      ·obtain ⟨p,hp,rfl⟩:=List.mem_map.1 hy
       obtain ⟨e1,e2⟩:=fitP_mem f2 p hp
       dsimp only
       rw [e1]
       exact ⟨.inl rfl,e2⟩
      ·obtain ⟨k1,k2⟩:=l1 y hy
       exact ⟨k1,k2 _ (fun n hn=>by unfold Sg.rn; exact List.mem_append_right _ hn)⟩
    have hs1:getT s1.toS.t i=(gtA s1.t i).toV:=gtA_toS i s1.t
    have hst:getT (σ.st s0 v).toS.t i=(gtA (σ.st s0 v).t i).toV:=gtA_toS i (σ.st s0 v).t
    rw [hs1,hst]
    rcases gtA_all (p:=fun i v=>(v.toV=(gtA s1.t i).toV\/v.toV=(gtA s1.t i).toV.map T.canon)/\AinN σ.rn (gtA s1.t i).toV) key i with e | e
    ·rw [e]; exact .inl rfl
    ·exact .inr e
theorem jn_ok {σ:Sg} {s0 s:St} {J:FSp σ.sp->Prop} (hE:Ext s0 s) (h:jn σ s0 J s) (hR:R g s.toS a w):∃ v,J v/\R g (σ.st s0 v).toS a w:=by
 unfold jn at h
 dsimp only at h
 have hR1:=R_prep (g:=g) (a:=a) (w:=w) σ.sp hR
 have hE1:=hE.trans (Ext_prep σ.sp s)
 split at h
 ·rename_i hf
  split at h
  ·rename_i v hv; exact jn1_ok hE1 ⟨hf,v,hv,h⟩ hR1
  ·exact h.elim
 ·exact h.elim
theorem lookS_mem {k:Nat} {y:Nat×At}:∀ {t:List (Nat×Nat×At)},lookS t k=some y->(k,y)∈t
 | [],h=>by cases h
 | (i,j,v)::t,h=>by
  simp only [lookS] at h
  split at h
  ·rename_i hb
   have:=Nat.eq_of_beq_eq_true hb
   subst this
   rw [<- Option.some.inj h]; simp
  ·exact List.mem_cons_of_mem _ (lookS_mem h)
theorem lookM_mem {k:Nm} {y:Nat×Rt}:∀ {t:List (Nm×Nat×Rt)},lookM t k=some y->(k,y)∈t
 | [],h=>by cases h
 | (i,j,v)::t,h=>by
  simp only [lookM] at h
  split at h
  ·rename_i hb
   subst hb
   rw [<- Option.some.inj h]; simp
  ·exact List.mem_cons_of_mem _ (lookM_mem h)
theorem lay_nx (nx:Nat):∀ (sp:List Sp) (x:FSp sp),(∀ y∈layS nx sp x,y.2.1=nx)/\∀ y∈layM nx sp x,y.2.1=nx
 | [],_=>⟨fun y h=>by simp [layS] at h,fun y h=>by simp [layM] at h⟩
 | .sl k u::r,x=>by
  obtain ⟨h1,h2⟩:=lay_nx nx r (FSp.tl (.sl k u) r x)
  refine ⟨fun y h=>?_,fun y h=>h2 y h⟩
  simp only [layS,List.mem_cons] at h
  rcases h with rfl | h
  ·rfl
  ·exact h1 y h
 | .ow k sh u::r,x=>by
  obtain ⟨h1,h2⟩:=lay_nx nx r (FSp.tl (.ow k sh u) r x)
  refine ⟨fun y h=>?_,fun y h=>?_⟩
  ·simp only [layS,List.mem_cons] at h
   rcases h with rfl | h
   ·rfl
   ·exact h1 y h
  ·simp only [layM,List.mem_cons] at h
   rcases h with rfl | h
   ·rfl
   ·exact h2 y h
 | .rt n sh u::r,x=>by
  obtain ⟨h1,h2⟩:=lay_nx nx r (FSp.tl (.rt n sh u) r x)
  refine ⟨fun y h=>h1 y h,fun y h=>?_⟩
  simp only [layM,List.mem_cons] at h
  rcases h with rfl | h
  ·rfl
  ·exact h2 y h
 | .mp n ku vu::r,x=>by
  obtain ⟨h1,h2⟩:=lay_nx nx r (FSp.tl (.mp n ku vu) r x)
  refine ⟨fun y h=>h1 y h,fun y h=>?_⟩
  simp only [layM,List.mem_cons] at h
  rcases h with rfl | h
  ·rfl
  ·exact h2 y h
theorem Ext_st (σ:Sg) (s:St) (x:FSp σ.sp):Ext s (σ.st s x):=by
 obtain ⟨l1,l2⟩:=lay_nx s.nx σ.sp x
 refine ⟨Nat.le_succ _,fun k j v h hj=>?_,fun n j r h hj=>?_⟩
 ·have hm:=lookS_mem h
  rcases List.mem_append.1 hm with hm | hm
  ·exact (mem_keepS hm).2
  ·rcases List.mem_append.1 hm with hm | hm
   ·obtain ⟨p,_,e⟩:=List.mem_map.1 hm
    simp only [Prod.mk.injEq] at e
    omega
   ·have:=l1 _ hm; dsimp only at this; omega
 ·have hm:=lookM_mem h
  rcases List.mem_append.1 hm with hm | hm
  ·exact (mem_keepM hm).2
  ·have:=l2 _ hm; dsimp only at this; omega
end
end Go.Am
end

section
namespace Go.Am
def chkC (nt:Nat):Code->Bool
 | .region _ ops false=>opsC nt ops.toList ops.toList
 | .region _ ops true=>guardsC nt ops&&Region.noSelect ops
 | .seq a b=>chkC nt a&&chkC nt b
 | .cond (.tmp t) a b=>Nat.blt t 100000&&(chkC nt a&&chkC nt b)
 | .block _ a=>chkC nt a
 | .loop a=>chkC nt a
 | _=>true
def LQ (pk:PKt) (K:Kt):Exit->S->Prop
 | .normal,s=>∃ t:St,s=t.toS/\K.n t
 | .exit i,s=>∃ t:St,s=t.toS/\K.x i t
 | .ret,s=>∃ t:St,s=t.toS/\K.r t
 | .panic c,s=>∃ v,∃ t:St,c=chn v/\s=t.toS/\pk v t
 | _,_=>False
theorem LQ_pk {pk:PKt} {K:Kt}:∀ x s,PQ pk x s->LQ pk K x s:=by
 rintro x s ⟨v,t,rfl,rfl,h2⟩
 exact ⟨v,t,rfl,rfl,h2⟩
theorem jn_mono {σ:Sg} {s0 s:St} {J J':FSp σ.sp->Prop} (hj:∀ v,J v->J' v) (h:jn σ s0 J s):jn σ s0 J' s:=by
 unfold jn at h ⊢
 dsimp only at h ⊢
 split at h
 ·split at h
  ·exact hj _ h
  ·exact h.elim
 ·exact h.elim
theorem loopN_mono {α:Type} {b b':(α->Prop)->α->Prop} (hb:∀ R R':α->Prop,(∀ v,R v->R' v)->∀ v,b R v->b' R' v):∀ n v,loopN b n v->loopN b' n v
 | 0,_,h=>h.elim
 | n+1,v,h=>hb _ _ (loopN_mono hb n) v h
theorem wpT_ext {e:En} (he:e.ok):∀ (c:Code) (an:An) (s:St) (K K':Kt),(∀ s',Ext s s'->K.n s'->K'.n s')->(∀ i s',Ext s s'->K.x i s'->K'.x i s')->(∀ s',Ext s s'->K.r s'->K'.r s')->wpT e an c s K->wpT e an c s K':=by
 intro c
 induction c with
 | skip=>intro an s K K' hn hx hr h; simp only [wpT] at h ⊢; exact hn s (Ext.refl s) h
 | exit i=>intro an s K K' hn hx hr h; simp only [wpT] at h ⊢; exact hx i s (Ext.refl s) h
 | ret=>intro an s K K' hn hx hr h; simp only [wpT] at h ⊢; exact hr s (Ext.refl s) h
 | region id ops dr=>
  intro an s K K' hn hx hr h
  cases dr with
  | false=>simp only [wpT] at h ⊢; exact opsT_ext he hn h
  | true=>simp only [wpT] at h ⊢; exact drawT_ext he hn h
 | seq a b iha ihb=>
  intro an s K K' hn hx hr h
  cases an with
  | s p q=>
   simp only [wpT] at h ⊢
   exact iha p s ⟨fun s'=>wpT e (q.pick s') b s' K,K.x,K.r⟩ ⟨fun s'=>wpT e (q.pick s') b s' K',K'.x,K'.r⟩ (fun s1 h1 hs1=>ihb (q.pick s1) s1 K K' (fun s2 h2=>hn s2 (h1.trans h2)) (fun i s2 h2=>hx i s2 (h1.trans h2)) (fun s2 h2=>hr s2 (h1.trans h2)) hs1) hx hr h
  | j σ p q=>
   simp only [wpT] at h ⊢
   intro J hJ
   refine iha p s ⟨jn σ s J,K.x,K.r⟩ ⟨jn σ s J,K'.x,K'.r⟩ (fun s1 _ h=>h) hx hr (h J (fun v hv=>hJ v ?_))
   exact ihb q _ K K' (fun s2 h2=>hn s2 ((Ext_st σ s v).trans h2)) (fun i s2 h2=>hx i s2 ((Ext_st σ s v).trans h2)) (fun s2 h2=>hr s2 ((Ext_st σ s v).trans h2)) hv
  | _=>simp only [wpT] at h
 | cond t a b iha ihb=>
  intro an s K K' hn hx hr h
  cases an with
  | c p q=>
   cases t with
   | tmp t=>
    simp only [wpT] at h ⊢
    split at h
    ·rename_i c _
     cases c
     ·simp only [Bool.false_eq_true,if_false] at h ⊢; exact ihb q s K K' hn hx hr h
     ·simp only [if_true] at h ⊢; exact iha p s K K' hn hx hr h
    ·exact h.elim
   | _=>simp only [wpT] at h
  | _=>cases t <;> simp only [wpT] at h
 | block id a iha=>
  intro an s K K' hn hx hr h
  cases an with
  | b p=>
   simp only [wpT] at h ⊢
   refine iha p s ⟨K.n,fun i s'=>match Nat.beq i id with | true=>K.n s' | false=>K.x i s',K.r⟩ ⟨K'.n,fun i s'=>match Nat.beq i id with | true=>K'.n s' | false=>K'.x i s',K'.r⟩ hn (fun i s' hE hs'=>?_) hr h
   dsimp only at hs' ⊢
   cases hb:Nat.beq i id with
   | true=>rw [hb] at hs'; exact hn s' hE hs'
   | false=>rw [hb] at hs'; exact hx i s' hE hs'
  | _=>simp only [wpT] at h
 | loop a iha=>
  intro an s K K' hn hx hr h
  cases an with
  | lp σ p=>
   simp only [wpT] at h ⊢
   have hEp:=Ext_prep σ.sp s
   generalize prep σ.sp s=s1 at h hEp
   split at h
   ·split at h
    ·obtain ⟨n,hl⟩:=h
     refine ⟨n,loopN_mono (fun R R' hR v hv=>?_) n _ hl⟩
     have hE:=hEp.trans (Ext_st σ s1 v)
     exact iha p _ ⟨jn σ s1 R,K.x,K.r⟩ ⟨jn σ s1 R',K'.x,K'.r⟩ (fun s2 _ h=>jn_mono hR h) (fun i s2 h2=>hx i s2 (hE.trans h2)) (fun s2 h2=>hr s2 (hE.trans h2)) hv
    ·exact h.elim
   ·exact h.elim
  | un n p=>
   simp only [wpT] at h ⊢
   have key:∀ n (s1:St),Ext s s1->loopS (fun R s'=>wpT e p a s' ⟨R,K.x,K.r⟩) n s1->loopS (fun R s'=>wpT e p a s' ⟨R,K'.x,K'.r⟩) n s1:=by
    intro n
    induction n with
    | zero=>intro s1 _ h; exact h.elim
    | succ n ih=>
     intro s1 hE h
     exact iha p s1 ⟨loopS (fun R s'=>wpT e p a s' ⟨R,K.x,K.r⟩) n,K.x,K.r⟩ ⟨loopS (fun R s'=>wpT e p a s' ⟨R,K'.x,K'.r⟩) n,K'.x,K'.r⟩ (fun s2 h2 hs2=>ih s2 (hE.trans h2) hs2) (fun i s2 h2=>hx i s2 (hE.trans h2)) (fun s2 h2=>hr s2 (hE.trans h2)) h
   exact key n s (Ext.refl s) h
  | _=>simp only [wpT] at h
 | _=>intro an s K K' hn hx hr h; cases an <;> simp only [wpT] at h
theorem AW_postR {P:Program} {g:G} {c:Code} {Q Q':Exit->S->Prop} {s:S} (h:AW P g c Q s) (hq:∀ e s' a w,Q e s'->R g s' a w->∃ s'',Q' e s''/\R g s'' a w):AW P g c Q' s:=fun a w hR=>
 Code.wp_mono (fun e a' w' ⟨s',h1,h2⟩=>hq e s' a' w' h1 h2) (h a w hR)
theorem AW_wpT {e:En} (he:e.ok) (hm:e.P.follows .mixedOrders=true) {g:G}:∀ (c:Code) (an:An) (s:St) (K:Kt),chkC g.nt c=true->wpT e an c s K->AW e.P g c (LQ e.pk K) s.toS:=by
 intro c
 induction c with
 | skip=>intro an s K hc h; simp only [wpT] at h; exact AW_skip ⟨s,rfl,h⟩
 | exit i=>intro an s K hc h; simp only [wpT] at h; exact AW_exit ⟨s,rfl,h⟩
 | ret=>intro an s K hc h; simp only [wpT] at h; exact AW_ret ⟨s,rfl,h⟩
 | region id ops dr=>
  intro an s K hc h
  obtain ⟨l⟩:=ops
  cases dr with
  | false=>
   simp only [wpT] at h
   exact AW_region (AL_opsT he LQ_pk hc h (fun t ht=>⟨t,rfl,ht⟩))
  | true=>
   simp only [wpT] at h
   simp only [chkC,Bool.and_eq_true] at hc
   exact AW_drawT he LQ_pk hm hc.1 hc.2 (fun t ht=>⟨t,rfl,ht⟩) h
 | seq a b iha ihb=>
  intro an s K hc h
  simp only [chkC,Bool.and_eq_true] at hc
  cases an with
  | s p q=>
   simp only [wpT] at h
   refine AW_seq (AW.mono (iha p s _ hc.1 h) (fun e' s' h'=>?_))
   cases e' with
   | normal=>obtain ⟨t,rfl,ht⟩:=h'; exact ihb (q.pick t) t K hc.2 ht
   | exit i=>exact h'
   | ret=>exact h'
   | panic c=>exact h'
   | _=>exact h'
  | j σ p q=>
   simp only [wpT] at h
   have h1:=h _ (fun v hv=>hv)
   have h2:=wpT_ext he a p s ⟨jn σ s (fun v=>wpT e q b (σ.st s v) K),K.x,K.r⟩ ⟨fun s'=>Ext s s'/\jn σ s (fun v=>wpT e q b (σ.st s v) K) s',K.x,K.r⟩ (fun s' hE hs'=>⟨hE,hs'⟩) (fun _ _ _ h=>h) (fun _ _ h=>h) h1
   refine AW_seq (AW.mono (iha p s _ hc.1 h2) (fun e' s' h'=>?_))
   cases e' with
   | normal=>
    obtain ⟨t,rfl,hE,ht⟩:=h'
    intro a' w' hR
    obtain ⟨v,hv,hR'⟩:=jn_ok hE ht hR
    exact ihb q _ K hc.2 hv a' w' hR'
   | exit i=>exact h'
   | ret=>exact h'
   | panic c=>exact h'
   | _=>exact h'
  | _=>simp only [wpT] at h
 | cond t a b iha ihb=>
  intro an s K hc h
  cases an with
  | c p q=>
   cases t with
   | tmp t=>
    simp only [chkC,Bool.and_eq_true] at hc
    simp only [wpT] at h
    split at h
    ·rename_i c hcc
     refine AW_cond (gtA_eq hcc) (fun hb=>?_) (fun hb=>?_) (Nat.le_of_ble_eq_true hc.1)
     ·subst hb; rw [if_pos rfl] at h; exact iha p s K hc.2.1 h
     ·subst hb; rw [if_neg (by simp)] at h; exact ihb q s K hc.2.2 h
    ·exact h.elim
   | _=>simp only [wpT] at h
  | _=>cases t <;> simp only [wpT] at h
 | block id a iha=>
  intro an s K hc h
  cases an with
  | b p=>
   simp only [wpT] at h
   refine AW_block (AW.mono (iha p s _ hc h) (fun e' s' h'=>?_))
   cases e' with
   | normal=>exact h'
   | exit i=>
    obtain ⟨t,rfl,ht⟩:=h'
    simp only [blockQ]
    dsimp only at ht
    cases hb:Nat.beq i id with
    | true=>
     rw [hb] at ht
     rw [if_pos (Nat.eq_of_beq_eq_true hb)]
     exact ⟨t,rfl,ht⟩
    | false=>
     rw [hb] at ht
     rw [if_neg (fun e=>by rw [e,Nat.beq_refl] at hb; cases hb)]
     exact ⟨t,rfl,ht⟩
   | ret=>exact h'
   | _=>exact h'
  | _=>simp only [wpT] at h
 | loop a iha=>
  intro an s K hc h
  cases an with
  | lp σ p=>
   simp only [wpT] at h
   have hRp:∀ a' w',R g s.toS a' w'->R g (prep σ.sp s).toS a' w':=fun a' w' hR=>R_prep σ.sp hR
   generalize prep σ.sp s=s1 at h hRp
   split at h
   ·rename_i hf
    split at h
    ·rename_i x0 hx0
     obtain ⟨n,hl⟩:=h
     intro a0 w0 hR0
     have hj:jn1 σ s1 (fun v=>v=x0) s1:=⟨hf,x0,hx0,rfl⟩
     obtain ⟨v,rfl,hR1⟩:=jn1_ok (Ext.refl s1) hj (hRp _ _ hR0)
     refine AW_loop (fun n S'=>∃ v,loopN (fun R v=>wpT e p a (σ.st s1 v) ⟨jn σ s1 R,K.x,K.r⟩) n v/\S'=(σ.st s1 v).toS) n ⟨v,hl,rfl⟩ (fun n S' hS=>?_) a0 w0 hR1
     ·obtain ⟨v,hv,rfl⟩:=hS
      cases n with
      | zero=>exact hv.elim
      | succ n=>
       have h2:=wpT_ext he a p (σ.st s1 v) ⟨jn σ s1 (loopN (fun R v=>wpT e p a (σ.st s1 v) ⟨jn σ s1 R,K.x,K.r⟩) n),K.x,K.r⟩ ⟨fun s'=>Ext (σ.st s1 v) s'/\jn σ s1 (loopN (fun R v=>wpT e p a (σ.st s1 v) ⟨jn σ s1 R,K.x,K.r⟩) n) s',K.x,K.r⟩ (fun s' hE hs'=>⟨hE,hs'⟩) (fun _ _ _ h=>h) (fun _ _ h=>h) hv
       refine AW_postR (iha p _ _ hc h2) (fun e' s' a' w' h' hR'=>?_)
       cases e' with
       | normal=>
        obtain ⟨t,rfl,hE,ht⟩:=h'
        obtain ⟨v',hv',hR2⟩:=jn_ok ((Ext_st σ s1 v).trans hE) ht hR'
        exact ⟨_,⟨n,Nat.lt_succ_self n,v',hv',rfl⟩,hR2⟩
       | exit i=>exact ⟨s',h',hR'⟩
       | ret=>exact ⟨s',h',hR'⟩
       | panic c=>exact ⟨s',h',hR'⟩
       | _=>exact h'.elim
    ·exact h.elim
   ·exact h.elim
  | un n p=>
   simp only [wpT] at h
   refine AW_loop (fun n S'=>∃ t:St,S'=t.toS/\loopS (fun R s'=>wpT e p a s' ⟨R,K.x,K.r⟩) n t) n ⟨s,rfl,h⟩ (fun n S' hS=>?_)
   obtain ⟨t,rfl,ht⟩:=hS
   cases n with
   | zero=>exact ht.elim
   | succ n=>
    refine AW_postR (iha p t ⟨loopS (fun R s'=>wpT e p a s' ⟨R,K.x,K.r⟩) n,K.x,K.r⟩ hc ht) (fun e' s' a' w' h' hR'=>?_)
    cases e' with
    | normal=>
     obtain ⟨t2,rfl,ht2⟩:=h'
     exact ⟨_,⟨n,Nat.lt_succ_self n,t2,rfl,ht2⟩,hR'⟩
    | exit i=>exact ⟨s',h',hR'⟩
    | ret=>exact ⟨s',h',hR'⟩
    | panic c=>exact ⟨s',h',hR'⟩
    | _=>exact h'.elim
  | _=>simp only [wpT] at h
 | _=>intro an s K hc h; cases an <;> simp only [wpT] at h
end Go.Am
end

section
namespace Go.Am
def avs0:(us:List U)->Fl us->List AV
 | [],_=>[]
 | u::r,x=>(toAt u (Fl.hd u r x)).toV::avs0 r (Fl.tl u r x)
def avs1:(us:List U)->Fl us->List AV1
 | [],_=>[]
 | u::r,x=>(toA1 u (Fl.hd u r x)).toV::avs1 r (Fl.tl u r x)
theorem toAt_one (u:U) (x:El u):toAt u x=.one (toA1 u x):=by cases u <;> rfl
theorem canAt_noRf {u:U} {v:At} {x:El u} (h:canAt u v=some x):v.noRf=true/\v.toV.isFz=true:=by
 have cl:∀ {ts:List Tt} {cs:List C},CL ts cs->ts.all Tt.noRf=true/\(ts.map Tt.toT).all T.isFz=true:=by
  intro ts
  induction ts with
  | nil=>exact fun _=>⟨rfl,rfl⟩
  | cons t ts ih=>
   intro cs hc
   cases cs with
   | nil=>exact hc.elim
   | cons c cs=>
    obtain ⟨h1,h2⟩:=ih hc.2
    rcases hc.1 with rfl | ⟨rfl,_⟩
    ·exact ⟨by simp only [List.all_cons,h1]; rfl,by simp only [List.map_cons,List.all_cons,h2]; rfl⟩
    ·exact ⟨by simp only [List.all_cons,h1]; rfl,by simp only [List.map_cons,List.all_cons,h2]; rfl⟩
 unfold canAt at h
 split at h
 ·unfold canA1 at h
  split at h
  ·split at h
   ·obtain ⟨h1,h2⟩:=cl (canU_CL h)
    refine ⟨?_,?_⟩
    ·rename_i t _ _; show t.noRf=true; simpa using h1
    ·rename_i t _ _; show t.toT.isFz=true; simpa using h2
   ·cases h
  ·split at h
   ·cases h
   ·obtain ⟨h1,h2⟩:=cl (canU_CL h)
    exact ⟨h1,h2⟩
 ·cases h
theorem canAs_ok:∀ {us:List U} {vs:List At} {x:Fl us},canAs us vs=some x->vs.all At.noRf=true/\(vs.map At.toV).all AV.isFz=true/\(vs.map At.toV).map (AV.map T.canon)=avs0 us x
 | [],[],_,_=>⟨rfl,rfl,rfl⟩
 | u::r,v::vs,x,h=>by
  simp only [canAs] at h
  cases h1:canAt u v with
  | none=>rw [h1] at h; cases h
  | some a=>
   cases h2:canAs r vs with
   | none=>rw [h1,h2] at h; cases h
   | some b=>
    rw [h1,h2] at h
    simp only [Option.some.injEq] at h
    subst h
    obtain ⟨i1,i2,i3⟩:=canAs_ok h2
    obtain ⟨k1,k2⟩:=canAt_noRf h1
    refine ⟨by simp only [List.all_cons,k1,i1,Bool.and_self],by simp only [List.map_cons,List.all_cons,k2,i2,Bool.and_self],?_⟩
    simp only [List.map_cons,avs0,hd_cons,tl_cons,i3,(canAt_ok h1).1]
 | [],_::_,_,h=>by simp [canAs] at h
 | _::_,[],_,h=>by simp [canAs] at h
section
variable {P:Program}
theorem ops_toV {s:St} {ops:List Operand} (h:ops.all okOp=true):ops.map (ev s.toS)=(ops.map (evA s)).map At.toV:=by
 rw [List.map_map]
 exact List.map_congr_left fun x hx=>evA_toV (List.all_eq_true.1 h x hx)
theorem Cont_of_con {f:Nat} {φ:List AV->(AV->Prop)->Prop} {ps rs:List U} {pre:Fl ps->Prop} {F:Fl ps->Fl rs} (hφ:∀ x K,pre x->K (resA rs (F x)).toV->φ (avs0 ps x) K) (h:Con P f (pureC φ)):Cont P f (pureT ps rs pre F):=by
 refine ⟨h.run,fun pk s ops k k' hk hc=>?_,fun g pk s a w H γ F1 ops k hX hops hc=>?_⟩
 ·unfold pureT at hc ⊢
  dsimp only at hc ⊢
  split at hc
  ·exact ⟨hc.1,hk _ _ (Ext_frzAts _ _) hc.2⟩
  ·exact hc.elim
 ·unfold pureT at hc
  dsimp only at hc
  obtain ⟨H1,F2,h1⟩:=RXt_frzAts (ops.map (evA s)) s H F1 hX
  generalize frzAts s (ops.map (evA s))=s1 at hc h1
  split at hc
  ·rename_i x hx
   obtain ⟨c1,c2,c3⟩:=canAs_ok hx
   refine Calls.mono (h.call g s1.toS a w H1 γ F2 ops (fun s' av=>∃ t v',SEq s' t.toS/\av=v'.toV/\k t v') h1 hops ?_) ?_
   ·unfold pureC
    dsimp only
    rw [ops_toV hops,frzVs_noRf c1]
    have e:(ops.map fun x=>(ev s1.toS x).map T.canon)=(ops.map (ev s1.toS)).map (AV.map T.canon):=by rw [List.map_map]; rfl
    rw [e,ops_toV hops]
    refine ⟨c2,?_⟩
    rw [c3]
    exact hφ x _ hc.1 ⟨s1,_,⟨fun _=>rfl,rfl⟩,rfl,hc.2⟩
   ·rintro e w' ⟨r,s',av,H',γ',F',k1,⟨t,v',e1,rfl,k2⟩,k3,k4⟩
    refine .inl ⟨r,t,v',H',γ',F',k1,k2,?_,RX_SEq e1 k4⟩
    rw [e1.2] at k3
    exact k3
  ·exact hc.elim
theorem Cont_T0 {f:Nat} {ps rs:List U} {F:Fl ps->Fl rs} (h:Cont P f (pureT ps rs (fun _=>True) F)):Cont P f (pureT0 ps rs F):=by
 have e:∀ pk s ops k,pureT0 ps rs F pk s ops k->pureT ps rs (fun _=>True) F pk s ops k:=by
  intro pk s ops k hc
  unfold pureT0 at hc
  unfold pureT
  dsimp only at hc ⊢
  split at hc
  ·exact ⟨trivial,hc⟩
  ·exact hc.elim
 refine ⟨h.run,fun pk s ops k k' hk hc=>?_,fun g pk s a w H γ F1 ops k hX hops hc=>h.call g pk s a w H γ F1 ops k hX hops (e _ _ _ _ hc)⟩
 unfold pureT0 at hc ⊢
 dsimp only at hc ⊢
 split at hc
 ·exact hk _ _ (Ext_frzAts _ _) hc
 ·exact hc.elim
theorem resGetsT_false {s:St}:∀ {rs:List ResultVar} {k:List At->Prop},(∀ vs,¬ k vs)->¬ resGetsT P s rs k
 | [],k,hk,h=>hk _ h
 | r::rs,k,hk,h=>by
  have key:∀ v,¬ resGetsT P s rs (fun vs=>k (v::vs)):=fun v=>resGetsT_false fun vs=>hk _
  simp only [resGetsT] at h
  unfold resGetT at h
  cases r with
  | tmp t=>exact key _ h
  | cell a t=>
   dsimp only at h
   split at h
   ·split at h
    ·split at h
     ·exact loadT_false key h
     ·exact h
    ·exact h
   ·exact h
where
 loadT_false {m:List (Nm×Nat×Rt)} {t:TypeId} {x:At} {k:At->Prop} (hk:∀ v,¬ k v) (h:loadT P m t x k):False:=by
  unfold loadT at h
  split at h
  ·split at h
   ·split at h <;> split at h <;> first | exact hk _ h | exact h
   ·split at h
    ·exact hk _ h.2
    ·exact h
   ·split at h <;> split at h <;> first | exact hk _ h | exact h
   ·exact h
  ·exact h
theorem resGetsT_ok {s:St} (hop:∀ p i,gtA s.t i=.one (.c (.pl p))->okP (toM s.m) p):∀ {rs:List ResultVar} {us:List U} {K:Fl us->Prop} {k:List At->Prop},(∀ vs,k vs->∃ x,canAs us vs=some x/\K x)->resGetsT P s rs k ->
  resGets P s.toS rs (fun xs=>∃ x:Fl us,xs.map (·.map T.canon)=avs1 us x/\xs.all AV1.isFz=true/\K x)
 | [],us,K,k,hk,h=>by
  obtain ⟨x,hx,hK⟩:=hk _ h
  cases us with
  | nil=>exact ⟨x,rfl,rfl,hK⟩
  | cons u us=>simp [canAs] at hx
 | r::rs,us,K,k,hk,h=>by
  simp only [resGetsT] at h
  simp only [resGets]
  have step:∀ {v:At},resGetsT P s rs (fun vs=>k (v::vs))->(match v.toV with
    | .one x=>resGets P s.toS rs fun xs=>∃ y:Fl us,(x::xs).map (·.map T.canon)=avs1 us y/\(x::xs).all AV1.isFz=true/\K y
    | _=>False):=by
   intro v hv
   cases us with
   | nil=>exact (resGetsT_false (fun vs hvs=>by obtain ⟨x,hx,_⟩:=hk _ hvs; simp [canAs] at hx) hv).elim
   | cons u us=>
    cases hc:canAt u v with
    | none=>exact (resGetsT_false (fun vs hvs=>by obtain ⟨x,hx,_⟩:=hk _ hvs; simp only [canAs,hc] at hx; cases hx) hv).elim
    | some a=>
     obtain ⟨c1,_⟩:=canAt_ok hc
     obtain ⟨_,c3⟩:=canAt_noRf hc
     have ih:=resGetsT_ok hop (us:=us) (K:=fun y=>K (Fl.cons u us a y)) (fun vs hvs=>by
      obtain ⟨x,hx,hK⟩:=hk _ hvs
      simp only [canAs,hc] at hx
      cases h2:canAs us vs with
      | none=>rw [h2] at hx; cases hx
      | some b=>rw [h2] at hx; simp only [Option.some.injEq] at hx; subst hx; exact ⟨b,rfl,hK⟩) hv
     rw [toAt_one] at c1
     cases v with
     | one x=>
      refine resGets_mono ?_ ih
      rintro xs ⟨y,e1,e2,hK⟩
      refine ⟨_,?_,?_,hK⟩
      ·simp only [List.map_cons,avs1,hd_cons,tl_cons,e1]
       simp only [At.toV,AV.map,AV.one.injEq] at c1
       rw [c1]
      ·simp only [List.all_cons,e2,Bool.and_true]; exact c3
     | tup _=>simp [canAt] at hc
     | any=>simp [canAt] at hc
  cases r with
  | tmp t=>
   simp only [resGetT] at h
   simp only [resGet]
   rw [show getT s.toS.t t=(gtA s.t t).toV from gtA_toS t s.t]
   exact step h
  | cell a t=>
   simp only [resGetT] at h
   simp only [resGet]
   split at h
   ·rename_i p hp
    split at h
    ·split at h
     ·have hl:=loadT_ok (m:=s.m) (x:=gtA s.t a) (fun q hq=>hop q a hq) h
      rw [show getT s.toS.t a=(gtA s.t a).toV from gtA_toS a s.t]
      refine loadK_mono ?_ hl
      rintro _ ⟨v,rfl,hv⟩
      exact step hv
     ·exact h.elim
    ·exact h.elim
   ·exact h.elim
where
 loadK_mono {m:Mm} {t:TypeId} {x:AV} {k k':AV->Prop} (hk:∀ v,k v->k' v) (h:loadK P m t x k):loadK P m t x k':=by
  unfold loadK at h ⊢
  refine ⟨h.1,?_⟩
  replace h:=h.2
  split at h
  ·split at h
   ·rename_i ha; rw [if_pos ha]; exact ⟨h.1,fun hh=>hk _ (h.2 hh)⟩
   ·rename_i ha
    rw [if_neg ha]
    split at h
    ·exact fun hh=>hk _ (h hh)
    ·exact h.elim
  ·split at h
   ·rename_i ha; rw [if_pos ha]; exact atK_mono (fun ts hts hh=>hk _ (hts hh)) h
   ·rename_i ha
    rw [if_neg ha]
    refine atK_mono (fun ts hts=>?_) h
    split at hts
    ·exact fun hh=>hk _ (hts hh)
    ·exact hts.elim
  ·exact h.elim
 atK_mono {m:Mm} {p:Pl} {n:Nat} {k k':List T->Prop} (hk:∀ v,k v->k' v) (h:atK m p n k):atK m p n k':=by
  unfold atK at h ⊢
  split at h
  ·exact h.elim
  ·split at h
   ·exact ⟨h.1,hk _ h.2⟩
   ·exact inK_mono hk h
   ·exact h.elim
 inK_mono {k k':List T->Prop} (hk:∀ v,k v->k' v):∀ {path:List Step} {sub:List Sh} {l:List (List D)} {n:Nat},inK sub l n path k->inK sub l n path k'
  | [],_,_,_,h=>h.elim
  | [st],sub,l,n,h=>by
   simp only [inK] at h ⊢
   refine ⟨h.1,?_⟩
   replace h:=h.2
   split at h
   ·exact hk _ h
   ·exact h.elim
  | st::st'::r,sub,l,n,h=>by
   simp only [inK] at h ⊢
   split at h
   ·split at h
    ·exact inK_mono hk h
    ·exact h.elim
   ·exact h.elim
 resGets_mono {s:S}:∀ {rs:List ResultVar} {k k':List AV1->Prop},(∀ v,k v->k' v)->resGets P s rs k->resGets P s rs k'
  | [],k,k',hk,h=>hk _ h
  | r::rs,k,k',hk,h=>by
   simp only [resGets] at h ⊢
   have st:∀ v:AV,(match v with | .one x=>resGets P s rs fun xs=>k (x::xs) | _=>False)->(match v with | .one x=>resGets P s rs fun xs=>k' (x::xs) | _=>False):=by
    intro v hv
    cases v with
    | one x=>exact resGets_mono (fun xs=>hk _) hv
    | _=>exact hv
   cases r with
   | tmp t=>exact st _ h
   | cell a t=>exact loadK_mono st h
theorem resK_of {s:S} {rs:List ResultVar} {us:List U} {K:AV->Prop} {Q:Fl us->Prop} (hfrz:frzRess s rs=s) (hQ:∀ x,Q x->K (resA us x).toV) (h:resGets P s rs (fun xs=>∃ x:Fl us,xs.map (·.map T.canon)=avs1 us x/\xs.all AV1.isFz=true/\Q x)):resK P s rs K:=by
 unfold resK
 rw [hfrz]
 refine resGetsT_ok.resGets_mono ?_ h
 rintro xs ⟨x,e1,e2,hq⟩
 have hK:=hQ x hq
 have resL_eq:∀ (us:List U) (x:Fl us),(resA.resL us x).map A1.toV=avs1 us x:=by
  intro us
  induction us with
  | nil=>intro _; rfl
  | cons u r ih=>intro x; simp only [resA.resL,List.map_cons,avs1,ih]
 match xs,e2,us,x,e1,hK with
 | [],_,[],x,_,hK=>exact ⟨rfl,hK⟩
 | [y],e2,[u],x,e1,hK=>
  simp only [List.map_cons,List.map_nil,avs1,List.cons.injEq,and_true] at e1
  refine ⟨by simpa using e2,?_⟩
  rw [e1]
  have:(resA [u] x).toV=.one (toA1 u (Fl.hd u [] x)).toV:=by show (toAt u x).toV=_; rw [toAt_one]; rfl
  rw [<- this]; exact hK
 | y::y'::ys,e2,u::v::r,x,e1,hK=>
  refine ⟨e2,?_⟩
  rw [e1,<- resL_eq]; exact hK
 | [],_,_::_,_,e1,_=>simp [avs1] at e1
 | [_],_,[],_,e1,_=>simp [avs1] at e1
 | [_],_,_::_::_,_,e1,_=>simp [avs1] at e1
 | _::_::_,_,[],_,e1,_=>simp [avs1] at e1
 | _::_::_,_,[_],_,e1,_=>simp [avs1] at e1
end
end Go.Am
end

section
namespace Go.Am
section
variable {P:Program}
theorem loadT_ex {m:List (Nm×Nat×Rt)} {t:TypeId} {x:At} {k:At->Prop} (h:loadT P m t x k):∃ v,k v:=by
 rcases Classical.em (∃ v,k v) with hh | hh
 ·exact hh
 ·exact (resGetsT_false.loadT_false (fun v hv=>hh ⟨v,hv⟩) h).elim
theorem owned_ow {t:Tt} (h:t.owned=false):∀ sub l,t.toT≠.ow sub l:=by
 cases t with
 | ow _ _ _=>cases h
 | _=>intro _ _ h; cases h
theorem frzRoot_id {s:St} {n:Nm} {r:Rt} (hr:getM s.m n=some r) (hh:r.hole=none) (hc:r.cells.all (fun t=>!t.owned)=true):∀ i,frzRoot s.toS n i=s.toS
 | 0=>rfl
 | i+1=>by
  simp only [frzRoot]
  rw [frzRoot_id hr hh hc i]
  unfold frzP
  have e:getPl s.toS.m ⟨n,i,[]⟩=(r.cells.map Tt.toT)[i]? := by
   unfold getPl
   rw [show getR s.toS.m n=some r.toR from getR_of hr]
   show (holed (r.cells.map Tt.toT) r.hole)[i]? = _
   rw [hh]; rfl
  rw [e,List.getElem?_map]
  cases hi:r.cells[i]? with
  | none=>rfl
  | some t=>
   have:=List.all_eq_true.1 hc t (List.mem_of_getElem? hi)
   have ho:t.owned=false:=by simpa using this
   have hne:=owned_ow ho
   simp only [Option.map_some]
   cases ht:t.toT with
   | ow sub l=>exact (hne _ _ ht).elim
   | _=>rfl
theorem frzRess_id {s:St}:∀ {rs:List ResultVar} {us:List U} {k:List At->Prop},(∀ vs,k vs->∃ x,canAs us vs=some x)->resGetsT P s rs k->frzRess s.toS rs=s.toS
 | [],_,_,_,_=>rfl
 | r::rs,us,k,hk,h=>by
  simp only [resGetsT] at h
  have step:∀ {v:At},resGetsT P s rs (fun vs=>k (v::vs))->v.noRf=true/\frzRess s.toS rs=s.toS:=by
   intro v hv
   cases us with
   | nil=>exact (resGetsT_false (fun vs hvs=>by obtain ⟨x,hx⟩:=hk _ hvs; simp [canAs] at hx) hv).elim
   | cons u us=>
    cases hc:canAt u v with
    | none=>exact (resGetsT_false (fun vs hvs=>by obtain ⟨x,hx⟩:=hk _ hvs; simp only [canAs,hc] at hx; cases hx) hv).elim
    | some a=>
     exact ⟨(canAt_noRf hc).1,frzRess_id (us:=us) (fun vs hvs=>by
      obtain ⟨x,hx⟩:=hk _ hvs
      simp only [canAs,hc] at hx
      cases h2:canAs us vs with
      | none=>rw [h2] at hx; cases hx
      | some b=>exact ⟨b,rfl⟩) hv⟩
  simp only [frzRess]
  cases r with
  | tmp t=>
   simp only [resGetT] at h
   obtain ⟨h1,h2⟩:=step h
   have e:frzRes s.toS (.tmp t)=s.toS:=by
    simp only [frzRes]
    rw [show getT s.toS.t t=(gtA s.t t).toV from gtA_toS t s.t]
    exact frzV_noRf h1
   rw [e]; exact h2
  | cell a t=>
   simp only [resGetT] at h
   split at h
   ·rename_i p hp
    split at h
    ·rename_i r hr
     split at h
     ·rename_i hb
      simp only [Bool.and_eq_true,Option.isNone_iff_eq_none] at hb
      obtain ⟨v,hv⟩:=loadT_ex h
      have e:frzRes s.toS (.cell a t)=s.toS:=by
       simp only [frzRes]
       rw [gtA_eq hp]
       simp only [At.toV,A1.toV,Tt.toT]
       rw [show getR s.toS.m p.root=some r.toR from getR_of hr]
       exact frzRoot_id hr hb.1 hb.2 _
      rw [e]; exact (step hv).2
     ·exact h.elim
    ·exact h.elim
   ·exact h.elim
variable {g:G} {a:Act} {w:World}
theorem R_frzRootT {s:St} (h:R g s.toS a w) (n:Nm):∀ i,R g (frzRootT s n i).toS a w
 | 0=>h
 | i+1=>R_frzPt (R_frzRootT h n i) _
theorem R_frzResT {s:St} (h:R g s.toS a w) (r:ResultVar):R g (frzResT s r).toS a w:=by
 cases r with
 | tmp t=>exact R_frzAt h _
 | cell a' t=>
  simp only [frzResT]
  split
  ·split
   ·exact R_frzRootT h _ _
   ·exact h
  ·exact h
theorem R_frzRessT:∀ (rs:List ResultVar) {s:St},R g s.toS a w->R g (frzRessT s rs).toS a w
 | [],_,h=>h
 | r::rs,_,h=>R_frzRessT rs (R_frzResT h r)
theorem okP_R {s:St} (h:R g s.toS a w):∀ p i,gtA s.t i=.one (.c (.pl p))->okP (toM s.m) p:=by
 intro p i e
 obtain ⟨H,γ,F,hX⟩:=h
 have:=hX.t i
 rw [gtA_eq e] at this
 obtain ⟨_,h1,_⟩:=this
 exact okP_pl h1
theorem retT_ok {rs:List ResultVar} {us:List U} {KK:Fl us->Prop} {K:AV->Prop} {t:St} (hK:∀ r,KK r->K (resA us r).toV) (h:retT P rs us KK t) (hR:R g t.toS a w):∃ s'',resK P s'' rs K/\R g s'' a w:=by
 unfold retT at h
 have hR1:=R_frzRessT rs hR
 refine ⟨_,resK_of (us:=us) (Q:=KK) (frzRess_id (us:=us) ?_ h) hK (resGetsT_ok (okP_R hR1) ?_ h),hR1⟩
 ·intro vs hvs
  split at hvs
  ·rename_i x hx; exact ⟨x,hx⟩
  ·exact hvs.elim
 ·intro vs hvs
  split at hvs
  ·rename_i x hx; exact ⟨x,hx,hvs⟩
  ·exact hvs.elim
theorem entT_toS:∀ (i:Nat) (us:List U) (x:Fl us),(entT i us x).map (fun y=>(y.1,y.2.2.toV))=entryT i (avs0 us x)
 | _,[],_=>rfl
 | i,u::r,x=>by simp only [entT,List.map_cons,avs0,entryT,entT_toS (i+1) r]
theorem avs0_length:∀ (us:List U) (x:Fl us),(avs0 us x).length=us.length
 | [],_=>rfl
 | u::r,x=>by simp only [avs0,List.length_cons,avs0_length r]
end
theorem Cont_pure {e:En} (he:e.ok) (hm:e.P.follows .mixedOrders=true) {f:Nat} {fn:Func} (hf:e.P.funcs[f]? = some fn) (hname:(fn.name == "runtime.NumGoroutine")=false) (hb:fn.body.isSome=true) {an:An} {ps rs:List U} {pre:Fl ps->Prop} {F:Fl ps->Fl rs}
  (hlen:Nat.ble ps.length fn.ntmps=true) (hc:chkC fn.ntmps (fn.body.getD .skip)=true) (law:∀ x,pre x->∀ KK:Fl rs->Prop,KK (F x)->bodyT e fn an ps rs x KK):Cont e.P f (pureT ps rs pre F):=by
 have hb':fn.body=some (fn.body.getD .skip):=by cases h:fn.body with
  | none=>rw [h] at hb; cases hb
  | some c=>rfl
 refine Cont_of_con (φ:=fun avs K=>∃ x:Fl ps,avs=avs0 ps x/\pre x/\K (resA rs (F x)).toV) (fun x K hp hk=>⟨x,rfl,hp,hk⟩)
  (Con_pure hf hname hb' _ (fun avs K ⟨x,hx,_,_⟩=>by rw [hx,avs0_length]; exact Nat.le_of_ble_eq_true hlen) (fun g avs K hg ⟨x,hx,hp,hk⟩=>?_))
 subst hx
 have h:=law x hp (fun r=>r=F x) rfl
 have h1:=AW_wpT (e:=⟨e.P,e.E,e.cs,e.sh,fun _ _=>False⟩) he hm (g:=g) _ an (entS ps x) _ (by rw [hg]; exact hc) h
 have e0:(entS ps x).toS=⟨entryT 0 (avs0 ps x),[]⟩:=drop_toS.S_ext (entT_toS 0 ps x) rfl
 rw [e0] at h1
 refine AW_postR h1 (fun ex s' a w h' hR=>?_)
 cases ex with
 | normal=>
  obtain ⟨t,rfl,ht⟩:=h'
  exact retT_ok (fun r hr=>by rw [hr]; exact hk) ht hR
 | ret=>
  obtain ⟨t,rfl,ht⟩:=h'
  exact retT_ok (fun r hr=>by rw [hr]; exact hk) ht hR
 | exit i=>exact h'.elim (fun t ht=>ht.2.elim)
 | panic c=>obtain ⟨_,_,_,_,hf⟩:=h'; exact hf.elim
 | _=>exact h'.elim
theorem Cont_pure0 {e:En} (he:e.ok) (hm:e.P.follows .mixedOrders=true) {f:Nat} {fn:Func} (hf:e.P.funcs[f]? = some fn) (hname:(fn.name == "runtime.NumGoroutine")=false) (hb:fn.body.isSome=true) {an:An} {ps rs:List U} {F:Fl ps->Fl rs}
  (hlen:Nat.ble ps.length fn.ntmps=true) (hc:chkC fn.ntmps (fn.body.getD .skip)=true) (law:∀ x,∀ KK:Fl rs->Prop,KK (F x)->bodyT e fn an ps rs x KK):Cont e.P f (pureT0 ps rs F):=
 Cont_T0 (Cont_pure he hm hf hname hb hlen hc (fun x _=>law x))
end Go.Am
end

section
namespace Go.Am
def resO (s:S) (rs:List ResultVar) (K:List Sh->List (List D)->Prop):Prop:=
 match rs with
 | [.tmp t]=>match getT s.t t with
  | .one (.c (.rf ⟨n,0,[]⟩))=>match getR s.m n with
   | some ⟨false,[.ow sub l]⟩=>K sub l
   | _=>False
  | _=>False
 | _=>False
def retO (rs:List ResultVar) (K:List Sh->List (List D)->Prop):Exit->S->Prop
 | .normal,s=>resO s rs K
 | .ret,s=>resO s rs K
 | _,_=>False
def ownC (φ:List AV->List Sh->List (List D)->(List (List D)->Prop)->Prop):CK1:=fun s ops k=>
 match ops with
 | []=>False
 | o::os=>
  let s1:=frzVs s (os.map (ev s))
  match ev s1 o with
  | .one (.c (.rf ⟨r,0,[]⟩))=>match getR s1.m r with
   | some ⟨false,[.ow sub l]⟩=>(os.map (ev s1)).all AV.isFz=true /\
     φ (os.map fun x=>(ev s1 x).map T.canon) sub l (fun l'=>k ⟨killT (badR r) s1.t,(r,⟨false,[.ow sub l']⟩)::killM (badR r) (delR s1.m r)⟩ (.one (.c (.rf ⟨r,0,[]⟩))))
   | _=>False
  | _=>False
section
variable {P:Program}
theorem Con_own {f:Nat} {fn:Func} {c:Code} (hf:P.funcs[f]? = some fn) (hname:(fn.name == "runtime.NumGoroutine")=false) (hb:fn.body=some c) (φ:List AV->List Sh->List (List D)->(List (List D)->Prop)->Prop)
  (hlen:∀ avs sub l K,φ avs sub l K->avs.length+1<=fn.ntmps)
  (hbody:∀ (g:G) avs sub l K,g.nt=fn.ntmps->φ avs sub l K->AW P g c (retO fn.results.toList (fun sub' l'=>sub'=sub/\K l')) ⟨entryT 0 (.one (.c (.rf ⟨.out 0,0,[]⟩))::avs),[(.out 0,⟨false,[.ow sub l]⟩)]⟩):Con P f (ownC φ):=by
 refine ⟨fun args w=>?_,?_⟩
 ·have h1:fn.name ≠ "runtime.NumGoroutine" := by simpa using hname
  simp [callFunc,hf,h1,hb]
 ·intro g s a w H γ F ops k hX hops hK
  cases ops with
  | nil=>exact hK.elim
  | cons o os=>
  unfold ownC at hK
  dsimp only at hK
  obtain ⟨H1,F1,h1⟩:=RX_frzVs (os.map (ev s)) s H F hX
  generalize frzVs s (os.map (ev s))=s1 at hK h1
  have hops':okOp o=true/\os.all okOp=true:=by simpa using hops
  split at hK
  rotate_left
  ·exact hK.elim
  rename_i r heo
  split at hK
  rotate_left
  ·exact hK.elim
  rename_i sub l hroot
  obtain ⟨hfz,hφ⟩:=hK
  have hevo:=ev_ok h1 hops'.1
  rw [heo] at hevo
  obtain ⟨_,hokr,hval⟩:=hevo
  have hR:=h1.mem.roots _ (getR_mem hroot)
  have hR2:=hR
  unfold RootR at hR2
  rw [if_neg (by simp)] at hR2
  obtain ⟨v0,t0,hγr,hcells,hTR⟩:=hR2
  simp only [List.cons.injEq,and_true] at hcells
  subst hcells
  have hv0:a.eval o=v0:=by
   simp only [plV,hγr,rootCell] at hval
   first | exact (Option.some.inj hval).symm | (simp at hval; exact hval.symm)
  have hle:=hlen _ _ _ _ hφ
  rw [List.length_map] at hle
  let γc:Gam:=fun n=>if n=.out 0 then .gh v0 else γ n
  let mc:Mm:=[(.out 0,⟨false,[.ow sub l]⟩)]
  let g1:G:=⟨fn.ntmps,w,H1,F1 r,fun _=>none,none,[]⟩
  have hγc:γc (.out 0)=.gh v0:=by simp [γc]
  have hRc:RootR w H1 γc mc (.out 0) ⟨false,[.ow sub l]⟩ (F1 r):=by
   unfold RootR
   rw [if_neg (by simp)]
   exact ⟨v0,_,hγc,rfl,hTR⟩
  have hge:∀ c,F1 r c<=tot F1 s1.m c:=fun c=>tot_ge (F:=F1) (getR_mem hroot) c
  let Fc:Nm->Fp:=fun _=>F1 r
  have htc:∀ c,tot Fc mc c=F1 r c:=fun c=>(Nat.add_zero (F1 r c))
  have hmc:Mem w H1 γc mc Fc:=by
   refine ⟨h1.mem.agree,fun x hx=>?_,by simp [mc],fun c=>by rw [htc]; exact Nat.le_trans (hge c) (h1.mem.le1 c),fun c hc=>by rw [htc] at hc; exact h1.mem.lt c (by have:=hge c; omega),fun c hc=>by rw [htc] at hc; exact h1.mem.nofz c (by have:=hge c; omega)⟩
   simp only [mc,List.mem_singleton] at hx
   subst hx
   exact hRc
  refine calls_of_wp hf hb (Code.wp_mono (fun e a' w' hl=>?_) (hbody g1 _ _ _ _ rfl hφ _ w ⟨H1,γc,Fc,?_⟩))
  ·obtain ⟨s',hq,H',γ',F',hX'⟩:=hl
   have fin:resO s' fn.results.toList (fun sub' l'=>sub'=sub/\k ⟨killT (badR r) s1.t,(r,⟨false,[.ow sub l']⟩)::killM (badR r) (delR s1.m r)⟩ (.one (.c (.rf ⟨r,0,[]⟩)))) ->
     a'.defers=[]/\∃ v,(results fn a'.tmps).run P w'=.ok v w'/\∃ rr s'' av H'' γ'' F'',Ending.returned v=.returned rr/\k s'' av/\AR w' H'' γ'' s''.m av rr/\RX g s'' a w' H'' γ'' F'':=by
    intro hq
    unfold resO at hq
    split at hq
    rotate_left
    ·exact hq.elim
    rename_i t hrs
    split at hq
    rotate_left
    ·exact hq.elim
    rename_i n hgt
    split at hq
    rotate_left
    ·exact hq.elim
    rename_i sub' l' hout
    obtain ⟨rfl,hk⟩:=hq
    have hrun:(results fn a'.tmps).run P w'=.ok (a'.tmps.getD t undef) w':=by
     rw [results_eq,Array.mapM_eq_mapM_toList,hrs]
     simp [resRun]
    have hres:AR w' _ _ _ _ (a'.tmps.getD t undef):=hX'.t t
    rw [hgt] at hres
    obtain ⟨_,_,hpv⟩:=hres
    have hRn:=hX'.mem.roots _ (getR_mem hout)
    unfold RootR at hRn
    rw [if_neg (by simp)] at hRn
    obtain ⟨v1,t1,hγn,hc1,hTR1⟩:=hRn
    simp only [List.cons.injEq,and_true] at hc1
    subst hc1
    have hv1:a'.tmps.getD t undef=v1:=by
     simp only [plV,hγn,rootCell] at hpv
     first | exact (Option.some.inj hpv).symm | (simp at hpv; exact hpv.symm)
    have hfr:=hX'.fr
    dsimp only [g1] at hfr
    have hd:=RX_drop h1 r
    have hmdm:(s1.drop r).m=killM (badR r) (delR s1.m r):=rfl
    have hdm:=hd.mem
    rw [hmdm] at hdm
    generalize hmd0:killM (badR r) (delR s1.m r)=md at hdm hk
    have tdel:∀ c,tot F1 md c+F1 r c=tot F1 s1.m c:=fun c=>by
     rw [<- hmd0,tot_killM]; exact tot_delR_eq hroot c
    have hsame:∀ c,tot F1 md c≠0->w'.heap[c]? = w.heap[c]? := fun c hc=>
     hfr.block c (h1.mem.lt c (by have:=tdel c; omega)) (by have:=tdel c; have:=h1.mem.le1 c; omega)
    have hnewc:∀ c,c<w.heap.size->F1 r c=0->H1 c=H' c:=by
     intro c hc h0
     funext o
     cases hh:H1 c o with
     | some y=>rw [hfr.hold c o y hh]
     | none=>
      cases hh2:H' c o with
      | none=>rfl
      | some y=>
       rcases hfr.hnew c o (by rw [hh2]; simp) hh with h' | h'
       ·exact absurd h0 h'
       ·omega
    have hKp:=Keeps_grow (w':=w') hdm hsame
    have hmd:Mem w' H' γ md F1:=by
     refine ⟨hX'.mem.agree,fun x hx=>RootR_keeps hKp hfr.hold rfl (fun c hc=>hsame c (by have:=tot_ge (F:=F1) hx c; omega)) (hdm.roots x hx),hdm.keys,hdm.le1,fun c hc=>by have:=hdm.lt c hc; have:=hfr.size; omega,fun c hc o=>?_⟩
     rw [<- hnewc c (hdm.lt c hc) (by have:=tdel c; have:=h1.mem.le1 c; omega)]; exact hdm.nofz c hc o
    have hnone:getR md r=none:=by rw [<- hmd0]; exact getR_del h1.mem.keys
    have hRr:RootR w' H' (upd γ r (.gh v1)) ((r,⟨false,[.ow sub' l']⟩)::md) r ⟨false,[.ow sub' l']⟩ (F' n):=by
     unfold RootR
     rw [if_neg (by simp)]
     exact ⟨v1,_,upd_same,rfl,hTR1⟩
    have hf1:∀ c,F' n c<=tot F' s'.m c:=fun c=>tot_ge (F:=F') (getR_mem hout) c
    have hf2:∀ c,F' n c≠0->F1 r c≠0\/w.heap.size<=c:=fun c hc=>hfr.tt c (by have:=hf1 c; omega)
    have hmd0':∀ c,F' n c≠0->tot F1 md c=0:=fun c hc=>by
     rcases hf2 c hc with h' | h'
     ·have:=tdel c; have:=h1.mem.le1 c; omega
     ·rcases Nat.eq_zero_or_pos (tot F1 md c) with h0 | h0
      ·exact h0
      ·have:=hdm.lt c (by omega); omega
    obtain ⟨hM,htot⟩:=Mem_add hmd (n:=r) (rc:=.gh v1) (r:=⟨false,[.ow sub' l']⟩) (f:=F' n) hnone hRr (fun c=>by
      by_cases hc:F' n c=0
      ·have:=hdm.le1 c; omega
      ·have:=hmd0' c hc; have:=hX'.mem.le1 c; have:=hf1 c; omega)
     (fun c hc=>⟨hX'.mem.lt c (by have:=hf1 c; omega),hX'.mem.nofz c (by have:=hf1 c; omega)⟩)
    have hFr:Fr w H1 (tot F1 s1.m) w' H' (tot (upd F1 r (F' n)) ((r,⟨false,[.ow sub' l']⟩)::md)):=by
     refine ⟨hfr.size,hfr.os,hfr.tape,hfr.output,fun c hc h0=>hfr.block c hc (by have:=hge c; omega),hfr.hold,fun c o h2 h3=>?_,fun c hc=>?_,hfr.nz⟩
     ·rcases hfr.hnew c o h2 h3 with h' | h'
      ·exact .inl (by have:=hge c; omega)
      ·exact .inr h'
     ·rw [htot] at hc
      by_cases h0:F' n c=0
      ·exact .inl (by have:=tdel c; omega)
      ·rcases hf2 c h0 with h' | h'
       ·exact .inl (by have:=hge c; omega)
       ·exact .inr h'
    have hKB:KeepsB (badR r) w γ s1.m w' (upd γ r (.gh v1)) ((r,⟨false,[.ow sub' l']⟩)::md):=by
     have hKa:=Keeps_add (w:=w') (γ:=γ) (rc:=.gh v1) (r:=⟨false,[.ow sub' l']⟩) hnone
     have hKd:KeepsB (badR r) w γ s1.m w γ md:=by rw [<- hmd0]; exact KeepsB_del
     constructor
     ·intro q hbq hq
      obtain ⟨k1,k2⟩:=hKd.pl q hbq hq
      obtain ⟨k3,k4⟩:=hKp.pl q k1
      obtain ⟨k5,k6⟩:=hKa.pl q k3
      exact ⟨k5,k6.trans (k4.trans k2)⟩
     ·intro q hbq hq
      obtain ⟨k1,k2⟩:=hKd.rf q hbq hq
      obtain ⟨k3,k4⟩:=hKp.rf q k1
      obtain ⟨k5,k6⟩:=hKa.rf q k3
      exact ⟨k5,k6.trans (k4.trans k2)⟩
    refine ⟨hX'.df.1,_,hrun,_,_,_,H',upd γ r (.gh v1),_,rfl,hk,?_,hM,h1.fr.trans hFr,h1.nt,⟨h1.df.1,fun j b e=>?_,h1.df.2.2⟩,fun i=>?_⟩
    ·refine ⟨fun _=>rfl,?_,?_⟩
     ·simp [okRf,getR]
     ·rw [hv1]
      simp [plV,upd_same,rootCell]
    ·have:=h1.df.2.1 j b e
     by_cases hj:Nm.out j=r
     ·rw [hj,hγr] at this; cases this
     ·rw [upd_ne hj]; exact this
    ·rw [getT_killT]
     exact AR_kill hKB hfr.hold (h1.t i)
   cases e with
   | normal=>exact fin hq
   | ret=>exact fin hq
   | _=>exact hq.elim
  ·refine ⟨hmc,⟨Nat.le_refl _,rfl,rfl,rfl,fun _ _ _=>rfl,fun _ _ _ h=>h,fun b o h2 h3=>absurd h3 h2,fun c hc=>.inl (by rw [htc] at hc; exact hc),nz_refl⟩,?_,⟨rfl,fun i b' e=>by simp [g1] at e,RX_globs h1⟩,fun i=>?_⟩
   ·simp [g1]; omega
   ·have hget:∀ x,(o::os)[i]? = some x->(((o::os).map a.eval).toArray++Array.replicate (fn.ntmps - ((o::os).map a.eval).toArray.size) undef).getD i undef=a.eval x:=by
     intro x hx
     rw [Array.getD_eq_getD_getElem?,Array.getElem?_append_left (by simp; have:=lt_of_get hx; simp at this; omega)]
     have e:((o::os).map a.eval)[i]? = some (a.eval x):=by rw [List.getElem?_map,hx]; rfl
     rw [List.getElem?_toArray,e]; rfl
    cases i with
    | zero=>
     rw [G.tv_none rfl,hget o rfl,hv0]
     simp only [entryT,getT,if_true]
     refine ⟨fun _=>rfl,?_,?_⟩
     ·simp [okRf,getR,mc]
     ·simp [plV,hγc,rootCell]
    | succ i=>
     have hent:getT (entryT 0 (.one (.c (.rf ⟨.out 0,0,[]⟩))::os.map fun x=>(ev s1 x).map T.canon)) (i+1)=((os.map fun x=>(ev s1 x).map T.canon)[i]?).getD .any:=by
      simp only [entryT,getT]
      rw [if_neg (by omega)]
      rw [getT_entryT]
      simp
     show AR w H1 γc mc (getT (entryT 0 (.one (.c (.rf ⟨.out 0,0,[]⟩))::os.map fun x=>(ev s1 x).map T.canon)) (i+1)) _
     rw [hent,List.getElem?_map]
     cases hi:os[i]? with
     | none=>simp only [Option.map_none,Option.getD_none]; trivial
     | some x=>
      have hx:=ev_ok h1 (List.all_eq_true.1 hops'.2 x (List.mem_of_getElem? hi))
      simp only [Option.map_some,Option.getD_some]
      have hz:(ev s1 x).isFz=true:=by
       have:=List.all_eq_true.1 hfz (ev s1 x) (List.mem_map_of_mem (List.mem_of_getElem? hi))
       exact this
      rw [G.tv_none rfl,hget x (by simpa using hi)]
      exact AR_map TR_canon (AR_fz (fun _ _ _ h=>h) hz hx)
end
section
variable {α β γ' δ:Type} {P:Program} {f:Nat} {fn:Func} {co:Code}
def fo0 (c:Rw α) (n:Nat) (pre:List α->Prop) (f:List α->List α):List AV->List Sh->List (List D)->(List (List D)->Prop)->Prop
 | [],sub,l,K=>match decL c l with
  | some s=>sub=List.replicate n .fr/\pre s/\K ((f s).map c.enc)
  | _=>False
 | _,_,_,_=>False
def fo1 (c:Rw α) (n:Nat) (a:Cd β) (pre:List α->β->Prop) (f:List α->β->List α):List AV->List Sh->List (List D)->(List (List D)->Prop)->Prop
 | [.one x],sub,l,K=>match decL c l,a.dec x with
  | some s,some x=>sub=List.replicate n .fr/\pre s x/\K ((f s x).map c.enc)
  | _,_=>False
 | _,_,_,_=>False
def fo2 (c:Rw α) (n:Nat) (a:Cd β) (b:Cd δ) (pre:List α->β->δ->Prop) (f:List α->β->δ->List α):List AV->List Sh->List (List D)->(List (List D)->Prop)->Prop
 | [.one x,.one y],sub,l,K=>match decL c l,a.dec x,b.dec y with
  | some s,some x,some y=>sub=List.replicate n .fr/\pre s x y/\K ((f s x y).map c.enc)
  | _,_,_=>False
 | _,_,_,_=>False
end
attribute [push_cast] ownC fo0 fo1 fo2 resO retO
end Go.Am
end

section
namespace Go.Am
section
variable {P:Program} {g:G} {a:Act} {w:World} {H:FH} {γ:Gam} {F:Nm->Fp}
theorem TR_inN {m:Mm} {t:T} {f:Fp} {v:Value} (h:TR w H γ m t f v):TinN (m.map (·.1)) t:=by
 have key:∀ {n:Nm} {r:Root},getR m n=some r->n∈m.map (·.1):=fun h=>List.mem_map_of_mem (f:=(·.1)) (getR_mem h)
 cases t with
 | pl p=>
  obtain ⟨_,h1,_⟩:=h
  unfold okPl at h1
  split at h1
  ·exact h1.elim
  ·rename_i hr; exact key hr
 | rf p=>
  obtain ⟨_,h1,_⟩:=h
  unfold okRf at h1
  split at h1
  ·exact h1.elim
  ·rename_i hr; exact key hr
 | _=>trivial
theorem AR1_inN {m:Mm} {x:AV1} {y:Value} (h:AR1 w H γ m x y):A1inN (m.map (·.1)) x:=by
 cases x with
 | c t=>exact TR_inN h
 | agg ts=>
  obtain ⟨cs,_,_,h1⟩:=h
  intro t ht
  obtain ⟨i,hi,e⟩:=List.getElem_of_mem ht
  obtain ⟨v,g',_,h2,_⟩:=Ts_get h1 (i:=i) (t:=t) (by rw [List.getElem?_eq_getElem hi,e])
  exact TR_inN h2
theorem AR_inN {m:Mm} {x:AV} {y:Value} (h:AR w H γ m x y):AinN (m.map (·.1)) x:=by
 cases x with
 | one x=>exact AR1_inN h
 | tup xs=>
  obtain ⟨l,_,h1⟩:=h
  have:∀ (xs:List AV1) (ys:List Value),ARs w H γ m xs ys->∀ x∈xs,A1inN (m.map (·.1)) x:=by
   intro xs
   induction xs with
   | nil=>intro _ _ x hx; simp at hx
   | cons x xs ih=>
    intro ys h z hz
    cases ys with
    | nil=>exact h.elim
    | cons y ys=>
     rcases List.mem_cons.1 hz with rfl | hz
     ·exact AR1_inN h.1
     ·exact ih ys h.2 z hz
  exact this xs _ h1
 | any=>trivial
theorem Root_inN {m:Mm} {n:Nm} {r:Root} {f:Fp} (h:RootR w H γ m n r f):∀ t∈r.cells,TinN (m.map (·.1)) t:=by
 intro t ht
 unfold RootR at h
 split at h
 ·obtain ⟨b,cs,ty,fz,g',_,_,_,_,h1,_⟩:=h
  obtain ⟨i,hi,e⟩:=List.getElem_of_mem ht
  obtain ⟨v,g'',_,h2,_⟩:=Ts_get h1 (i:=i) (t:=t) (by rw [List.getElem?_eq_getElem hi,e])
  exact TR_inN h2
 ·obtain ⟨v,t',_,h1,h2⟩:=h
  rw [h1] at ht
  simp only [List.mem_singleton] at ht
  subst ht
  exact TR_inN h2
theorem RX_canonR {s:S} (hX:RX g s a w H γ F) (n:Nm):RX g ⟨s.t,s.m.map fun x=>(x.1,if x.1=n then canonR x.2 else x.2)⟩ a w H γ F:=by
 have hk:(s.m.map fun x=>(x.1,if x.1=n then canonR x.2 else x.2)).map (·.1)=s.m.map (·.1):=by rw [List.map_map]; rfl
 refine RX_sub hX (by rw [hk]; exact hX.mem.keys) (fun x hx=>?_) (fun i=>.inr ⟨.inl rfl,by rw [hk]; exact AR_inN (hX.t i)⟩)
 rw [hk]
 obtain ⟨y,hy,rfl⟩:=List.mem_map.1 hx
 refine ⟨y.2,getR_nodup hX.mem.keys hy,?_,Root_inN (hX.mem.roots y hy)⟩
 dsimp only
 split
 ·exact CanR.canon _
 ·exact CanR.refl _
theorem cells_self {sh:List Sh} {cells ts:List Tt} {j:Nm} (h:unRt sh cells=some ts):(cells.map Tt.toT).all (T.self j)=true/\∀ r:Nm,(cells.map Tt.toT).map (T.ren r j)=cells.map Tt.toT:=by
 induction cells generalizing sh ts with
 | nil=>exact ⟨rfl,fun _=>rfl⟩
 | cons c cells ih=>
  cases sh with
  | nil=>simp [unRt] at h
  | cons s sh=>
   have key:∀ {ts'},unRt sh cells=some ts'->(T.self j c.toT=true/\∀ r,T.ren r j c.toT=c.toT)->((c::cells).map Tt.toT).all (T.self j)=true/\∀ r:Nm,((c::cells).map Tt.toT).map (T.ren r j)=(c::cells).map Tt.toT:=by
    intro ts' h1 h2
    obtain ⟨i1,i2⟩:=ih h1
    exact ⟨by simp only [List.map_cons,List.all_cons,h2.1,i1,Bool.and_self],fun r=>by rw [List.map_cons,List.map_cons,h2.2 r,i2 r]⟩
   cases s with
   | fr=>
    cases c with
    | d x=>
     simp only [unRt] at h
     split at h
     ·rename_i hr; exact key hr ⟨rfl,fun _=>rfl⟩
     ·cases h
    | nil=>
     simp only [unRt] at h
     split at h
     ·rename_i hr; exact key hr ⟨rfl,fun _=>rfl⟩
     ·cases h
    | _=>simp [unRt] at h
   | ow sub=>
    cases c with
    | ow s' u l=>
     simp only [unRt] at h
     split at h
     ·rename_i hr; exact key hr ⟨rfl,fun _=>rfl⟩
     ·cases h
    | _=>simp [unRt] at h
theorem ren_canon {a b:Nm}:∀ {ts:List T} {sh:List Sh} {cs:List C},ts.map T.canon=(rtCells sh cs).map Tt.toT->ts.map (T.ren a b)=ts
 | [],_,_,_=>rfl
 | t::ts,sh,cs,h=>by
  cases sh with
  | nil=>simp [rtCells] at h
  | cons s r=>cases cs with
   | nil=>cases s <;> simp [rtCells] at h
   | cons c cs=>
    have hd:∃ t0:Tt,(∀ p,t0≠.pl p)/\rtCells (s::r) (c::cs)=t0::rtCells r cs:=by
     cases s with
     | fr=>exact ⟨.d c,(fun _ h=>by cases h),(by cases c <;> rfl)⟩
     | ow sub=>cases c with
      | li u l=>exact ⟨.ow sub u l,(fun _ h=>by cases h),rfl⟩
      | _=>exact ⟨.d _,(fun _ h=>by cases h),rfl⟩
    obtain ⟨t0,h0,h1⟩:=hd
    rw [h1] at h
    simp only [List.map_cons,List.cons.injEq] at h
    rw [List.map_cons,ren_canon h.2]
    congr 1
    cases t with
    | pl p=>
     have:=h.1
     cases t0 with
     | pl q=>exact (h0 q rfl).elim
     | _=>simp [T.canon,Tt.toT] at this
    | _=>rfl
theorem resA_fz:∀ (us:List U) (x:Fl us),(resA us x).toV.isFz=true:=by
 have one:∀ (u:U) (x:El u),(toA1 u x).toV.isFz=true:=by
  intro u x
  cases u with
  | st n=>simp only [toA1,A1.toV,AV1.isFz,List.map_map,List.all_map]; exact List.all_eq_true.2 fun _ _=>rfl
  | _=>rfl
 have all:∀ (us:List U) (x:Fl us),((resA.resL us x).map A1.toV).all AV1.isFz=true:=by
  intro us
  induction us with
  | nil=>intro _; rfl
  | cons u r ih=>intro x; simp only [resA.resL,List.map_cons,List.all_cons,one,ih,Bool.and_self]
 intro us x
 match us,x with
 | [],_=>rfl
 | [u],x=>show (toAt u x).toV.isFz=true; rw [toAt_one]; exact one u x
 | u::v::r,x=>exact all (u::v::r) x
theorem Cont_ptr {e:En} (he:e.ok) (hm:e.P.follows .mixedOrders=true) {f:Nat} {fn:Func} (hf:e.P.funcs[f]? = some fn) (hname:(fn.name == "runtime.NumGoroutine")=false) (hb:fn.body.isSome=true) {an:An} {sh:List Sh} {u:U} {ps rs:List U} {pre:El u->Fl ps->Prop} {Fn:El u->Fl ps->Fl rs×El u}
  (hlen:Nat.ble (ps.length+1) fn.ntmps=true) (hc:chkC fn.ntmps (fn.body.getD .skip)=true) (law:∀ x y,pre x y->∀ KK:Fl rs×El u->Prop,KK (Fn x y)->bodyPT e fn an sh u ps rs x y KK):Cont e.P f (ptrT sh u ps rs pre Fn):=by
 have hb':fn.body=some (fn.body.getD .skip):=by cases h:fn.body with
  | none=>rw [h] at hb; cases hb
  | some c=>rfl
 let φ:List AV->List T->(AV->List T->Prop)->Prop:=fun avs cells K=>∃ (x:El u) (y:Fl ps),avs=avs0 ps y/\cells.map T.canon=(rtCells sh (flat u x)).map Tt.toT/\pre x y /\
  ∀ cells',cells'.all (T.self (.out 0))=true->cells'.length=cells.length->cells'.map T.canon=(rtCells sh (flat u (Fn x y).2)).map Tt.toT->K (resA rs (Fn x y).1).toV cells'
 have hcon:Con e.P f (ptrC 0 φ):=by
  refine Con_ptr hf hname hb' φ (fun avs cells K ⟨x,y,hx,_⟩=>by rw [hx,avs0_length]; exact Nat.le_of_ble_eq_true hlen) (fun g avs cells K hg ⟨x,y,hx,hcells,hp,hk⟩=>?_)
  subst hx
  have h:=law x y hp (fun r=>r=Fn x y) rfl
  have h1:=AW_wpT (e:=⟨e.P,e.E,e.cs,e.sh,fun _ _=>False⟩) he hm (g:=g) _ an _ _ (by rw [hg]; exact hc) h
  have hln:cells.length=(rtCells sh (flat u x)).length:=by
   have:=congrArg List.length hcells
   simpa using this
  have h2:AW e.P g (fn.body.getD .skip) (LQ (fun _ _=>False) ⟨retPT e.P fn.results.toList sh u rs (fun r=>r=Fn x y),fun _ _=>False,retPT e.P fn.results.toList sh u rs (fun r=>r=Fn x y)⟩) ⟨entryT 0 (.one (.c (.pl ⟨.out 0,0,[]⟩))::avs0 ps y),[(.out 0,⟨true,cells⟩)]⟩:=by
   intro a w ⟨H,γ,F,hX⟩
   refine h1 a w ⟨H,γ,F,?_⟩
   have:=RX_canonR hX (.out 0)
   have e0:(⟨1,(0,0,.one (.c (.pl ⟨.out 0,0,[]⟩)))::entT 1 ps y,[(.out 0,0,⟨true,rtCells sh (flat u x),none⟩)]⟩:St).toS=⟨entryT 0 (.one (.c (.pl ⟨.out 0,0,[]⟩))::avs0 ps y),[(.out 0,⟨true,cells⟩)].map fun x=>(x.1,if x.1=.out 0 then canonR x.2 else x.2)⟩:=by
    refine drop_toS.S_ext ?_ ?_
    ·simp only [List.map_cons,entryT,entT_toS]; rfl
    ·simp only [List.map_cons,List.map_nil,if_true,Rt.toR,holed,canonR,hcells]
   rw [e0]; exact this
  refine AW_postR h2 (fun ex s' a w h' hR=>?_)
  have fin:∀ t:St,R g t.toS a w->retPT e.P fn.results.toList sh u rs (fun r=>r=Fn x y) t->∃ s'',resKp 0 e.P s'' fn.results.toList K/\R g s'' a w:=by
   intro t hR ht
   unfold retPT at ht
   dsimp only at ht
   have hR1:=R_ownCellsT (.out 0) (cellUs u) sh 0 (R_frzRessT fn.results.toList hR)
   generalize ownCellsT (frzRessT t fn.results.toList) (.out 0) (cellUs u) sh 0=s1 at ht hR1
   have hid:=frzRess_id (us:=rs) (k:=fun vs=>match canAs rs vs,getM s1.m (.out 0) with
    | some x_1,some ⟨true,cells,none⟩=>match unRt sh cells with
     | some ts=>match canU u ts with
      | some y_1=>(x_1,y_1)=Fn x y
      | none=>False
     | none=>False
    | _,_=>False) (by
     intro vs hvs
     split at hvs
     ·rename_i h1 _; exact ⟨_,h1⟩
     ·exact hvs.elim) ht
   refine ⟨s1.toS,?_,hR1⟩
   unfold resKp
   rw [hid]
   have hg2:=resGetsT_ok (us:=rs) (K:=fun r=>∃ cells ts y1,getM s1.m (.out 0)=some ⟨true,cells,none⟩/\unRt sh cells=some ts/\canU u ts=some y1/\(r,y1)=Fn x y) (okP_R hR1) (by
     intro vs hvs
     split at hvs
     ·rename_i x1 cells1 h1 h2
      split at hvs
      ·rename_i ts h3
       split at hvs
       ·rename_i y1 h4; exact ⟨x1,h1,cells1,ts,y1,h2,h3,h4,hvs⟩
       ·exact hvs.elim
      ·exact hvs.elim
     ·exact hvs.elim) ht
   have hroot:∃ cells1 ts y1,getM s1.m (.out 0)=some ⟨true,cells1,none⟩/\unRt sh cells1=some ts/\canU u ts=some y1:=by
    rcases Classical.em (∃ cells1 ts y1,getM s1.m (.out 0)=some ⟨true,cells1,none⟩/\unRt sh cells1=some ts/\canU u ts=some y1) with hh | hh
    ·exact hh
    ·refine (resGetsT_false (fun vs hvs=>?_) ht).elim
     split at hvs
     ·rename_i x1 cells1 h1 h2
      split at hvs
      ·rename_i ts h3
       split at hvs
       ·rename_i y1 h4; exact hh ⟨cells1,ts,y1,h2,h3,h4⟩
       ·exact hvs
      ·exact hvs
     ·exact hvs
   obtain ⟨cells1,ts,y1,r1,r2,r3⟩:=hroot
   rw [show getR s1.toS.m (.out 0)=some (⟨true,cells1,none⟩:Rt).toR from getR_of r1]
   show resK e.P s1.toS fn.results.toList (fun v=>K v (cells1.map Tt.toT))
   refine resK_of hid (Q:=fun r=>∃ cells ts y1,getM s1.m (.out 0)=some ⟨true,cells,none⟩/\unRt sh cells=some ts/\canU u ts=some y1/\(r,y1)=Fn x y) ?_ hg2
   rintro r ⟨cells2,ts2,y2,q1,q2,q3,q4⟩
   rw [r1] at q1
   have q1':=Option.some.inj q1
   simp only [Rt.mk.injEq,true_and,and_true] at q1'
   subst q1'
   have e1:r=(Fn x y).1:=by rw [<- q4]
   have e2:y2=(Fn x y).2:=by rw [<- q4]
   obtain ⟨k1,_⟩:=unRt_ok q2 (canU_CL q3)
   rw [e1]
   refine hk _ (cells_self q2).1 ?_ (by rw [<- e2,k1])
   have l1:(cells1.map Tt.toT).length=(rtCells sh (flat u y2)).length:=by
    have:=congrArg List.length k1
    simpa using this.symm
   have l2:∀ (sh:List Sh) (a b:List C),a.length=b.length->(rtCells sh a).length=(rtCells sh b).length:=by
    intro sh
    induction sh with
    | nil=>intro a b _; cases a <;> cases b <;> rfl
    | cons s r ih=>
     intro a b hab
     have hcons:∀ (c:C) (cs:List C),(rtCells (s::r) (c::cs)).length=(rtCells r cs).length+1:=by
      intro c cs
      cases s <;> cases c <;> rfl
     cases a with
     | nil=>cases b with
      | nil=>rfl
      | cons _ _=>cases hab
     | cons c cs=>cases b with
      | nil=>cases hab
      | cons d ds=>rw [hcons,hcons,ih cs ds (by simpa using hab)]
   rw [l1,hln]
   exact l2 sh _ _ (by rw [flat_length,flat_length])
  cases ex with
  | normal=>obtain ⟨t,rfl,ht⟩:=h'; exact fin t hR ht
  | ret=>obtain ⟨t,rfl,ht⟩:=h'; exact fin t hR ht
  | exit i=>exact h'.elim (fun t ht=>ht.2.elim)
  | panic c=>obtain ⟨_,_,_,_,hf⟩:=h'; exact hf.elim
  | _=>exact h'.elim
 refine ⟨hcon.run,fun pk s ops k k' hk hcc=>?_,fun g pk s a w H γ F1 ops k hX hops hcc=>?_⟩
 ·unfold ptrT at hcc ⊢
  split at hcc
  ·exact hcc.elim
  ·dsimp only at hcc ⊢
   split at hcc
   ·split at hcc
    ·split at hcc
     ·split at hcc
      ·split at hcc
       ·refine ⟨hcc.1,hk _ _ ?_ hcc.2⟩
        exact ((Ext_frzAts _ _).trans (Ext_ownCellsT _ _ _ _ _)).trans ⟨Nat.le_succ _,ExtT_kill (Nat.le_refl _),((ExtM_del _).trans (ExtM_kill (Nat.le_refl _))).trans (ExtM_cons _ _ _ (Nat.le_refl _))⟩
       ·exact hcc.elim
      ·exact hcc.elim
     ·exact hcc.elim
    ·exact hcc.elim
   ·exact hcc.elim
 ·unfold ptrT at hcc
  cases ops with
  | nil=>exact hcc.elim
  | cons o os=>
   dsimp only at hcc
   have hops':okOp o=true/\os.all okOp=true:=by simpa using hops
   obtain ⟨H1,F2,h1⟩:=RXt_frzAts (os.map (evA s)) s H F1 hX
   generalize frzAts s (os.map (evA s))=s1 at hcc h1
   split at hcc
   ·rename_i r hro
    obtain ⟨H2,γ2,F3,h2⟩:=R_ownCellsT (g:=g) r (cellUs u) sh 0 (R_of h1)
    generalize ownCellsT s1 r (cellUs u) sh 0=s2 at hcc h2
    split at hcc
    ·rename_i r' hev2
     split at hcc
     ·rename_i cells hdr hty hroot
      have hr':r'=r:=by simpa using hdr
      subst hr'
      split at hcc
      ·rename_i ts hts
       split at hcc
       ·rename_i x y hx hy
        have hn2:=ND_of h2
        obtain ⟨c1,c2,c3⟩:=canAs_ok hy
        obtain ⟨k1,_⟩:=unRt_ok hts (canU_CL hx)
        refine Calls.mono (hcon.call g s2.toS a w H2 γ2 F3 (o::os) (fun s' av=>∃ t v',(∀ {a:Act} {w:World} {H:FH} {γ:Gam} {F:Nm->Fp},RX g s' a w H γ F->RX g t.toS a w H γ F)/\av=v'.toV/\av.isFz=true/\k t v') h2 hops ?_) ?_
        ·unfold ptrC
         dsimp only
         rw [ops_toV hops'.2,frzVs_noRf c1,evA_toV hops'.1,hev2]
         simp only [At.toV,A1.toV,Tt.toT]
         rw [show getR s2.toS.m r'=some (⟨true,cells,none⟩:Rt).toR from getR_of hroot]
         dsimp only [Rt.toR,holed]
         refine ⟨hty.symm,(cells_self hts).1,by rw [ops_toV hops'.2]; exact c2,x,y,?_,?_,hcc.1,?_⟩
         ·have e:(os.map fun x=>(ev s2.toS x).map T.canon)=(os.map (ev s2.toS)).map (AV.map T.canon):=by rw [List.map_map]; rfl
          rw [e,ops_toV hops'.2]; exact c3
         ·rw [(cells_self hts).2,k1]
         ·intro cells' s1' l1' e1'
          refine ⟨by simpa using l1',s1',_,_,?_,rfl,resA_fz _ _,hcc.2⟩
          intro a w H γ F hX'
          have hc:=RX_canonR hX' r'
          have hlist:((r',(⟨true,cells'.map (T.ren (.out 0) r')⟩:Root))::killM (badR r') (delR s2.toS.m r')).map (fun x=>(x.1,if x.1=r' then canonR x.2 else x.2))=(r',⟨true,(rtCells sh (flat u (Fn x y).2)).map Tt.toT⟩)::killM (badR r') (delR s2.toS.m r'):=by
           simp only [List.map_cons,if_true]
           congr 1
           ·rw [ren_canon e1']; simp only [canonR,e1']
           ·refine (List.map_congr_left fun z hz=>?_).trans (List.map_id _)
            have hne:z.1≠r':=by
             intro e
             have hz1:z.1∈(killM (badR r') (delR s2.toS.m r')).map (·.1):=List.mem_map_of_mem (f:=(·.1)) hz
             have e2:(killM (badR r') (delR s2.toS.m r')).map (·.1)=(delR s2.toS.m r').map (·.1):=by simp only [killM,List.map_map]; rfl
             rw [e2,e] at hz1
             exact nmem_delR h2.mem.keys hz1
            rw [if_neg hne]; rfl
          have hfin:(⟨s2.nx+1,killA (badPt r') s2.nx s2.t,(r',s2.nx,⟨true,rtCells sh (flat u (Fn x y).2),none⟩)::killMm (badR r') s2.nx (delM s2.m r')⟩:St).toS=⟨killT (badP r') s2.toS.t,(r',⟨true,(rtCells sh (flat u (Fn x y).2)).map Tt.toT⟩)::killM (badR r') (delR s2.toS.m r')⟩:=by
           refine drop_toS.S_ext (killA_toS _ _ _) ?_
           simp only [List.map_cons]
           congr 1
           have:=killMm_toM (badR r') s2.nx (delM s2.m r')
           rw [delM_toM _ _ hn2] at this
           exact this
          rw [hfin]
          dsimp only at hc
          rw [hlist] at hc
          exact hc
        ·rintro e' w' ⟨rr,s',av,H',γ',F',q1,⟨t,v',q2,rfl,q3,q4⟩,q5,q6⟩
         exact .inl ⟨rr,t,v',H',γ',F',q1,q4,AR_fz (fun _ _ _ h=>h) q3 q5,q2 q6⟩
       ·exact hcc.elim
      ·exact hcc.elim
     ·exact hcc.elim
    ·exact hcc.elim
   ·exact hcc.elim
theorem Ext_nilOwn (s:St) (k:Nat) (sh:List Sh) (u:U):Ext s (nilOwn s k sh u):=by
 unfold nilOwn
 split
 ·exact Ext_own1T s k sh u
 ·exact Ext.refl s
theorem R_nilOwn {s:St} (h:R g s.toS a w) (k:Nat) (sh:List Sh) (u:U):R g (nilOwn s k sh u).toS a w:=by
 unfold nilOwn
 split
 ·exact R_own1T h k sh u
 ·exact h
theorem Cont_own {e:En} (he:e.ok) (hm:e.P.follows .mixedOrders=true) {f:Nat} {fn:Func} (hf:e.P.funcs[f]? = some fn) (hname:(fn.name == "runtime.NumGoroutine")=false) (hb:fn.body.isSome=true) {an:An} {u:U} {ps:List U} {pre:List (El u)->Fl ps->Prop} {Fn:List (El u)->Fl ps->List (El u)}
  (hlen:Nat.ble (ps.length+1) fn.ntmps=true) (hc:chkC fn.ntmps (fn.body.getD .skip)=true) (law:∀ x y,pre x y->∀ KK:List (El u)->Prop,KK (Fn x y)->bodyOT e fn an u ps x y KK):Cont e.P f (ownT u ps pre Fn):=by
 have hb':fn.body=some (fn.body.getD .skip):=by cases h:fn.body with
  | none=>rw [h] at hb; cases hb
  | some c=>rfl
 let φ:List AV->List Sh->List (List D)->(List (List D)->Prop)->Prop:=fun avs sub l K=>∃ (x:List (El u)) (y:Fl ps),avs=avs0 ps y/\sub=List.replicate (nc u) .fr/\l=x.map (encU u)/\pre x y/\K ((Fn x y).map (encU u))
 have hcon:Con e.P f (ownC φ):=by
  refine Con_own hf hname hb' φ (fun avs sub l K ⟨x,y,hx,_⟩=>by rw [hx,avs0_length]; exact Nat.le_of_ble_eq_true hlen) (fun g avs sub l K hg ⟨x,y,hx,hsub,hl,hp,hk⟩=>?_)
  subst hx; subst hsub; subst hl
  have h:=law x y hp (fun r=>r=Fn x y) rfl
  have h1:=AW_wpT (e:=⟨e.P,e.E,e.cs,e.sh,fun _ _=>False⟩) he hm (g:=g) _ an _ _ (by rw [hg]; exact hc) h
  have e0:(⟨1,(0,0,.one (.c (.rf ⟨.out 0,0,[]⟩)))::entT 1 ps y,[(.out 0,0,⟨false,[.ow (List.replicate (nc u) .fr) u x],none⟩)]⟩:St).toS=⟨entryT 0 (.one (.c (.rf ⟨.out 0,0,[]⟩))::avs0 ps y),[(.out 0,⟨false,[.ow (List.replicate (nc u) .fr) (x.map (encU u))]⟩)]⟩:=by
   refine drop_toS.S_ext ?_ rfl
   simp only [List.map_cons,entryT,entT_toS]; rfl
  rw [e0] at h1
  refine AW.mono h1 (fun ex s' h'=>?_)
  have fin:∀ t:St,retOT fn.results.toList u (fun r=>r=Fn x y) t->resO t.toS fn.results.toList (fun sub' l'=>sub'=List.replicate (nc u) .fr/\K l'):=by
   intro t ht
   unfold retOT at ht
   unfold resO
   split at ht
   ·rename_i tt hrs
    rw [hrs]
    dsimp only
    split at ht
    ·rename_i n hgt
     rw [gtA_eq hgt]
     simp only [At.toV,A1.toV,Tt.toT]
     split at ht
     ·rename_i sh u' l hr
      rw [show getR t.toS.m n=some (⟨false,[.ow sh u' l],none⟩:Rt).toR from getR_of hr]
      split at ht
      ·rename_i l' hs hcast
       obtain ⟨e1,rfl⟩:=castL_eq hcast
       subst e1
       refine ⟨shEqs_eq hs,?_⟩
       have hx2:l=Fn x y:=ht
       show K (l.map (encU u'))
       rw [hx2]; exact hk
      ·exact ht.elim
     ·exact ht.elim
    ·exact ht.elim
   ·exact ht.elim
  cases ex with
  | normal=>obtain ⟨t,rfl,ht⟩:=h'; exact fin t ht
  | ret=>obtain ⟨t,rfl,ht⟩:=h'; exact fin t ht
  | exit i=>exact h'.elim (fun t ht=>ht.2.elim)
  | panic c=>obtain ⟨_,_,_,_,hf⟩:=h'; exact hf.elim
  | _=>exact h'.elim
 refine ⟨hcon.run,fun pk s ops k k' hk hcc=>?_,fun g pk s a w H γ F1 ops k hX hops hcc=>?_⟩
 ·unfold ownT at hcc ⊢
  split at hcc
  ·dsimp only at hcc ⊢
   split at hcc
   ·split at hcc
    ·split at hcc
     ·refine ⟨hcc.1,hk _ _ ?_ hcc.2⟩
      exact ((Ext_nilOwn _ _ _ _).trans (Ext_frzAts _ _)).trans ⟨Nat.le_succ _,ExtT_kill (Nat.le_refl _),((ExtM_del _).trans (ExtM_kill (Nat.le_refl _))).trans (ExtM_cons _ _ _ (Nat.le_refl _))⟩
     ·exact hcc.elim
    ·exact hcc.elim
   ·exact hcc.elim
  ·exact hcc.elim
 ·unfold ownT at hcc
  split at hcc
  ·rename_i t os
   have hops':os.all okOp=true:=by
    have:=hops
    simp only [List.all_cons,Bool.and_eq_true] at this
    exact this.2
   dsimp only at hcc
   obtain ⟨H0,γ0,F0,h0⟩:=R_nilOwn (R_of hX) t (List.replicate (nc u) .fr) u
   generalize nilOwn s t (List.replicate (nc u) .fr) u=s0 at hcc h0
   obtain ⟨H1,F2,h1⟩:=RXt_frzAts (os.map (evA s0)) s0 H0 F0 h0
   generalize frzAts s0 (os.map (evA s0))=s1 at hcc h1
   have hn1:=ND_of h1
   split at hcc
   ·rename_i r hev
    split at hcc
    ·rename_i sh u' l hroot
     split at hcc
     ·rename_i l' x hs hcast hx
      obtain ⟨e1,rfl⟩:=castL_eq hcast
      subst e1
      obtain ⟨c1,c2,c3⟩:=canAs_ok hx
      refine Calls.mono (hcon.call g s1.toS a w H1 γ0 F2 (.tmp t::os) (fun s' av=>∃ t' v',s'=t'.toS/\av=v'.toV/\k t' v') h1 hops ?_) ?_
      ·unfold ownC
       dsimp only
       rw [ops_toV hops',frzVs_noRf c1]
       rw [show ev s1.toS (.tmp t)=(evA s1 (.tmp t)).toV from gtA_toS t s1.t,hev]
       simp only [At.toV,A1.toV,Tt.toT]
       rw [show getR s1.toS.m r=some (⟨false,[.ow sh u' l],none⟩:Rt).toR from getR_of hroot]
       dsimp only [Rt.toR,holed,List.map_cons,List.map_nil,Tt.toT]
       refine ⟨by rw [ops_toV hops']; exact c2,l,x,?_,shEqs_eq hs,rfl,hcc.1,_,_,?_,?_,hcc.2⟩
       ·have e:(os.map fun x=>(ev s1.toS x).map T.canon)=(os.map (ev s1.toS)).map (AV.map T.canon):=by rw [List.map_map]; rfl
        rw [e,ops_toV hops']; exact c3
       ·refine (drop_toS.S_ext (killA_toS _ _ _) ?_).symm
        simp only [List.map_cons]
        congr 1
        have:=killMm_toM (badR r) s1.nx (delM s1.m r)
        rw [delM_toM _ _ hn1] at this
        exact this
       ·rfl
      ·rintro e' w' ⟨rr,s',av,H',γ',F',q1,⟨t',v',rfl,rfl,q4⟩,q5,q6⟩
       exact .inl ⟨rr,t',v',H',γ',F',q1,q4,q5,q6⟩
     ·exact hcc.elim
    ·exact hcc.elim
   ·exact hcc.elim
  ·exact hcc.elim
end
end Go.Am
end

section
namespace Go.Am
open Go Go.Proofs
set_option linter.unusedSimpArgs false
set_option linter.unusedVariables false
def F_numDigit_j1 (x1:Int) (KK:(Int)->Prop):Prop:=
 KK (IntKind.u8.wrap (IntKind.i64.wrap (48+x1)))
def F_numDigit (a0_n:Int) (KK:(Int)->Prop):Prop:=
 if (decide (a0_n < 0))=true then F_numDigit_j1 (IntKind.i64.wrap (0-a0_n)) KK else F_numDigit_j1 a0_n KK
def F_numPut_j2 (x3:Int) (x4:List Int) (KK:(List UInt8)->Prop):Prop:=
 (((0:Int)<=x3/\x3.toNat<=20/\20<=20/\x4.length=20))/\KK ((((x4.take 20).drop x3.toNat).take (20-x3.toNat)).map fun n=>UInt8.ofNat n.toNat)
def F_numPut_j1 (a0_n:Int) (x1:Int) (x2:List Int) (KK:(List UInt8)->Prop):Prop:=
 if (decide (a0_n < 0))=true then (((0:Int)<=(IntKind.i64.wrap (x1 - 1))/\(IntKind.i64.wrap (x1 - 1)) < 20/\x2.length=20))/\F_numPut_j2 (IntKind.i64.wrap (x1 - 1)) (x2.set (IntKind.i64.wrap (x1 - 1)).toNat 45) KK else F_numPut_j2 x1 x2 KK
def F_numPut_l3 (a0_n:Int) (KK:(List UInt8)->Prop):Nat->Int->Int->(List Int)->Prop
 | 0,_,_,_=>False
 | n9+1,x5,x6,x7=>(True)/\(((0:Int)<=(IntKind.i64.wrap (x5 - 1))/\(IntKind.i64.wrap (x5 - 1)) < 20/\x7.length=20))/\(True)/\if (decide ((IntKind.i64.wrap (Int.tdiv x6 10))=0))=true then F_numPut_j1 a0_n (IntKind.i64.wrap (x5 - 1)) (x7.set (IntKind.i64.wrap (x5 - 1)).toNat (Lt.numDigit (Int.tmod x6 10))) KK else (fun y1 y2 y3=>F_numPut_l3 a0_n KK n9 y1 y2 y3) (IntKind.i64.wrap (x5 - 1)) (IntKind.i64.wrap (Int.tdiv x6 10)) (x7.set (IntKind.i64.wrap (x5 - 1)).toNat (Lt.numDigit (Int.tmod x6 10)))
def F_numPut (a0_n:Int) (KK:(List UInt8)->Prop):Prop:=
 ∃ n9,F_numPut_l3 a0_n KK n9 20 a0_n [0,0,0,0,0,0,0,0,0,0,0,0,0,0,0,0,0,0,0,0]
theorem law_numDigit (n:Int) (KK:Int->Prop) (h:KK (Lt.numDigit n)):F_numDigit n KK:=by
 unfold F_numDigit F_numDigit_j1; unfold Lt.numDigit at h
 by_cases hn:n < 0
 ·simp only [hn,decide_true,if_true] at h ⊢; exact h
 ·simp only [hn,decide_false,Bool.false_eq_true,if_false] at h ⊢; exact h
theorem wrap_small {n:Int} (h1:-9223372036854775808<=n) (h2:n < 9223372036854775808):IntKind.i64.wrap n=n:=by
 simp only [IntKind.wrap,IntKind.signed,IntKind.bits]
 simp
 omega
theorem digit_of {r:Int}:UInt8.ofNat (Lt.numDigit (Int.tmod r 10)).toNat=UInt8.ofNat (48+r.natAbs % 10):=by
 have hb:(Int.tmod r 10).natAbs=r.natAbs % 10:=by simp [Int.natAbs_tmod]
 have hlt:r.natAbs % 10 < 10:=Nat.mod_lt _ (by omega)
 have h:Lt.numDigit (Int.tmod r 10)=((48+r.natAbs % 10:Nat):Int):=by
  unfold Lt.numDigit
  have e1:(if Int.tmod r 10 < 0 then IntKind.i64.wrap (0-Int.tmod r 10) else Int.tmod r 10)=((r.natAbs % 10:Nat):Int):=by
   split
   ·rw [wrap_small (by omega) (by omega)]; omega
   ·omega
  rw [e1,wrap_small (by omega) (by omega)]
  simp only [IntKind.wrap,IntKind.signed,IntKind.bits]
  simp
  omega
 rw [h,Int.toNat_natCast]
theorem digs_small {n:Nat} (h:n < 10):Lt.digs n=[UInt8.ofNat (48+n)]:=by
 rw [Lt.digs,if_pos h]
theorem digs_big {n:Nat} (h:¬ n < 10):Lt.digs n=Lt.digs (n / 10)++[UInt8.ofNat (48+n % 10)]:=by
 rw [Lt.digs,if_neg h]
abbrev by8 (l:List Int):List UInt8:=l.map fun n=>UInt8.ofNat n.toNat
theorem drop_set (l:List Int) (i:Nat) (v:Int) (h:i<l.length):(l.set i v).drop i=v::l.drop (i+1):=by
 rw [List.drop_eq_getElem_cons (by simpa using h)]
 simp only [List.getElem_set_self]
 congr 1
 exact List.drop_set_of_lt (by omega)
theorem numPut_loop (n:Int) (KK:List UInt8->Prop):∀ (k:Nat) (r:Int) (at_:Nat) (arr:List Int),r.natAbs < 10 ^ (k+1)->k+1<=at_->at_<=20->arr.length=20->r.natAbs<=9223372036854775808 ->
  (∀ at' arr',at_<=at'+(k+1)->at' < 20->arr'.length=20->by8 (arr'.drop at')=Lt.digs r.natAbs++by8 (arr.drop at_)->F_numPut_j1 n (at':Int) arr' KK) ->
  F_numPut_l3 n KK (k+1) (at_:Int) r arr:=by
 intro k
 induction k with
 | zero=>
  intro r at_ arr h1 h2 h3 h4 h5 hk
  have w:IntKind.i64.wrap ((at_:Int) - 1)=((at_ - 1:Nat):Int):=by rw [wrap_small (by omega) (by omega)]; omega
  have hq:IntKind.i64.wrap (Int.tdiv r 10)=0:=by
   have:(Int.tdiv r 10).natAbs=r.natAbs / 10:=by rw [Int.natAbs_tdiv]; rfl
   have h0:r.natAbs / 10=0:=by omega
   have:Int.tdiv r 10=0:=by omega
   rw [this]; rfl
  simp only [F_numPut_l3,w,hq,decide_true,if_true,Int.toNat_natCast]
  refine ⟨trivial,⟨Int.natCast_nonneg _,by omega,h4⟩,trivial,?_⟩
  refine hk (at_ - 1) _ (by omega) (by omega) (by simpa using h4) ?_
  rw [drop_set _ _ _ (by omega),digs_small (by omega)]
  simp only [by8,List.map_cons,digit_of]
  rw [Nat.mod_eq_of_lt (by omega),show at_ - 1+1=at_ by omega]
  rfl
 | succ k ih=>
  intro r at_ arr h1 h2 h3 h4 h5 hk
  have w:IntKind.i64.wrap ((at_:Int) - 1)=((at_ - 1:Nat):Int):=by rw [wrap_small (by omega) (by omega)]; omega
  have hq:(Int.tdiv r 10).natAbs=r.natAbs / 10:=by rw [Int.natAbs_tdiv]; rfl
  have wq:IntKind.i64.wrap (Int.tdiv r 10)=Int.tdiv r 10:=wrap_small (by omega) (by omega)
  simp only [F_numPut_l3,w,wq,Int.toNat_natCast]
  refine ⟨trivial,⟨Int.natCast_nonneg _,by omega,h4⟩,trivial,?_⟩
  have hd:by8 ((arr.set (at_ - 1) (Lt.numDigit (Int.tmod r 10))).drop (at_ - 1))=UInt8.ofNat (48+r.natAbs % 10)::by8 (arr.drop at_):=by
   rw [drop_set _ _ _ (by omega)]
   simp only [by8,List.map_cons,digit_of]
   rw [show at_ - 1+1=at_ by omega]
  split
  ·rename_i hc
   have hc':Int.tdiv r 10=0:=by simpa using hc
   have h0:r.natAbs / 10=0:=by rw [<- hq,hc']; rfl
   refine hk (at_ - 1) _ (by omega) (by omega) (by simpa using h4) ?_
   rw [hd,digs_small (by omega),Nat.mod_eq_of_lt (by omega)]
   rfl
  ·rename_i hc
   have hc':¬ Int.tdiv r 10=0:=by simpa using hc
   have h10:¬ r.natAbs < 10:=by
    intro hlt
    exact hc' (by omega)
   refine ih _ _ _ (by rw [hq]; rw [Nat.pow_succ] at h1; omega) (by omega) (by omega) (by simpa using h4) (by omega) (fun at' arr' k1 k2 k3 k4=>hk at' arr' (by omega) k2 k3 ?_)
   rw [k4,hd,digs_big h10,hq]
   simp
theorem law_numPut (n:Int) (hp:Lt.preNum n) (KK:List UInt8->Prop) (h:KK (Lt.numPut n)):F_numPut n KK:=by
 unfold Lt.preNum Lt.inR at hp
 refine ⟨19,numPut_loop n KK 18 n 20 _ (by omega) (by omega) (by omega) rfl (by omega) (fun at' arr' k1 k2 k3 k4=>?_)⟩
 simp only [List.drop_eq_nil_of_le (show ([0,0,0,0,0,0,0,0,0,0,0,0,0,0,0,0,0,0,0,0]:List Int).length<=20 from Nat.le_refl _),by8,List.map_nil,List.append_nil] at k4
 unfold F_numPut_j1
 split
 ·rename_i hc
  have hn:n < 0:=by simpa using hc
  have w:IntKind.i64.wrap ((at':Int) - 1)=((at' - 1:Nat):Int):=by rw [wrap_small (by omega) (by omega)]; omega
  rw [w,Int.toNat_natCast]
  refine ⟨⟨Int.natCast_nonneg _,by omega,k3⟩,⟨Int.natCast_nonneg _,by rw [Int.toNat_natCast]; omega,by omega,by simpa using k3⟩,?_⟩
  rw [Int.toNat_natCast,List.take_of_length_le (by simp [k3]),List.take_of_length_le (by simp [k3]),drop_set _ _ _ (by omega),List.map_cons,show at' - 1+1=at' by omega]
  have:Lt.numPut n=45::Lt.digs n.natAbs:=by simp [Lt.numPut,hn]
  rw [this] at h
  simp only [k4]
  exact h
 ·rename_i hc
  have hn:¬ n < 0:=by simpa using hc
  refine ⟨⟨Int.natCast_nonneg _,by rw [Int.toNat_natCast]; omega,by omega,k3⟩,?_⟩
  rw [Int.toNat_natCast,List.take_of_length_le (by simp [k3]),List.take_of_length_le (by simp [k3]),k4]
  have:Lt.numPut n=Lt.digs n.natAbs:=by simp [Lt.numPut,hn]
  rw [this] at h
  exact h
set_option maxRecDepth 100000 in
set_option maxHeartbeats 4000000 in
theorem walk_numDigit (g:G) (hg:g.nt=Tryz.f70.ntmps) (a0_n:Int) (K:AV->Prop) (KK:(Int)->Prop) (hKK:∀ r,KK r->K (o1 (cI .u8) r) ) (h:F_numDigit a0_n KK) :
  AW Tryz.prog g (Tryz.f70.body.getD .skip) (retQ Tryz.prog [.tmp 2] K) ⟨entryT 0 [.one ((cI .i64).enc a0_n)],[]⟩:=by
 have hcs:CT.Ok Tryz.prog []:=CT.ok0
 have hn:g.nt=10:=hg
 have hm:Tryz.prog.follows .mixedOrders=true:=by kernel_rfl
 unfold Tryz.f70
 dsimp only [Option.getD_some]
 unfold F_numDigit at h
 apply AW_seq_k
 intro K1 hK1
 have hx:=True.intro
 refine rgA [0] [] ?_
 refine stA ?_
 refine enA ?_
 refine hK1 _ ?_
 refine AW_joinO [] [0] [] (fun y:Int=>⟨[(0,.one (.c (.d (.int .i64 y))))],[]⟩) (fun y=>F_numDigit_j1 y KK) ?_ ?_
 ·apply AW_seq_k
  intro K3 hK3
  have hx:=True.intro
  refine rgA [0,4] [] ?_
  iterate 2 refine stA ?_
  refine enA ?_
  refine hK3 _ ?_
  refine cdA h rfl (fun h=>?_) (fun h=>?_)
  ·have hx:=True.intro
   refine rgA [0] [] ?_
   iterate 3 refine stA ?_
   refine enA ?_
   exact ⟨(IntKind.i64.wrap (0-a0_n)),siA,h⟩
  ·apply AW_skip
   exact ⟨a0_n,siA,h⟩
 ·rintro x1 h
  change F_numDigit_j1 x1 KK at h
  unfold F_numDigit_j1 at h
  apply AW_seq_k
  intro K2 hK2
  have hx:=True.intro
  refine rgA [2] [] ?_
  iterate 4 refine stA ?_
  refine enA ?_
  refine hK2 _ ?_
  apply AW_ret
  exact fiA (hKK _ h)
def D_numDigit:CK1:=pureC (fn1 (cI .i64) (o1 (cI .u8)) (fun _=>True) Lt.numDigit)
theorem d_numDigit:Con Tryz.prog 70 D_numDigit:=
 Con_fn1 (fn:=Tryz.f70) (c:=Tryz.f70.body.getD .skip) (by kernel_rfl) (by kernel_rfl) (by kernel_rfl) (by decide +kernel) (fun g a0_n K hg hp hK=>walk_numDigit g hg a0_n K _ (fun _ h=>h) (law_numDigit a0_n _ hK))
attribute [push_cast] D_numDigit
set_option maxRecDepth 100000 in
set_option maxHeartbeats 4000000 in
theorem walk_numPut (g:G) (hg:g.nt=Tryz.f56.ntmps) (a0_n:Int) (K:AV->Prop) (KK:(List UInt8)->Prop) (hKK:∀ r,KK r->K (o1 cS r) ) (h:F_numPut a0_n KK) :
  AW Tryz.prog g (Tryz.f56.body.getD .skip) (retQ Tryz.prog [.tmp 2] K) ⟨entryT 0 [.one ((cI .i64).enc a0_n)],[]⟩:=by
 have hcs:CT.Ok Tryz.prog [(70,D_numDigit)]:=(CT.cons d_numDigit CT.ok0)
 have hn:g.nt=27:=hg
 have hm:Tryz.prog.follows .mixedOrders=true:=by kernel_rfl
 unfold Tryz.f56
 dsimp only [Option.getD_some]
 unfold F_numPut at h
 apply AW_seq_k
 intro K1 hK1
 have hx:=True.intro
 refine rgA [0] [] ?_
 refine stA ?_
 refine enA ?_
 refine hK1 _ ?_
 apply AW_seq_k
 intro K2 hK2
 have hx:=True.intro
 refine rgA [0,3] [] ?_
 refine stA ?_
 refine enA ?_
 refine hK2 _ ?_
 apply AW_seq_k
 intro K3 hK3
 have hx:=True.intro
 refine rgA [0,3,4] [] ?_
 refine stA ?_
 refine enA ?_
 refine hK3 _ ?_
 refine AW_joinO [] [0,3,4] [] (fun y:Int×List Int=>⟨[(0,.one (.c (.d (.int .i64 a0_n)))),(3,.one (.c (.pl ⟨.loc 3,0,[]⟩))),(4,.one (.c (.d (.int .i64 y.1))))],[(.loc 3,⟨true,y.2.map (tI .u8)⟩)]⟩) (fun y=>F_numPut_j1 a0_n y.1 y.2 KK) ?_ ?_
 ·apply AW_seq_k
  intro K7 hK7
  have hx:=True.intro
  refine rgA [0,3,4,5] [] ?_
  iterate 2 refine stA ?_
  refine enA ?_
  refine hK7 _ ?_
  apply AW_block_k
  intro Q8 hN8 hE8 hO8
  obtain ⟨n9,h⟩:=h
  refine AW_loopO [] [0,3,4,5] [] (fun y:Nat×Int×Int×List Int=>⟨[(0,.one (.c (.d (.int .i64 a0_n)))),(3,.one (.c (.pl ⟨.loc 3,0,[]⟩))),(4,.one (.c (.d (.int .i64 y.2.1)))),(5,.one (.c (.d (.int .i64 y.2.2.1))))],[(.loc 3,⟨true,y.2.2.2.map (tI .u8)⟩)]⟩) (fun y=>F_numPut_l3 a0_n KK y.1 y.2.1 y.2.2.1 y.2.2.2) (fun y=>y.1) (n9,20,a0_n,[0,0,0,0,0,0,0,0,0,0,0,0,0,0,0,0,0,0,0,0]) ?_ h ?_
  ·first | exact siA (by rfl) | exact siA
  clear h
  rintro ⟨n9,x5,x6,x7⟩ h K9 hK9
  cases n9 with
  | zero=>exact h.elim
  | succ n9=>
   change F_numPut_l3 a0_n KK (n9+1) x5 x6 x7 at h
   unfold F_numPut_l3 at h
   apply AW_block_k
   intro Q10 hN10 hE10 hO10
   apply AW_seq_k
   intro K11 hK11
   have hx:=True.intro
   refine rgA [0,3,4,5] [] ?_
   iterate 3 refine stA ?_
   refine enA ?_
   refine hK11 _ ?_
   apply AW_seq_k
   intro K12 hK12
   obtain ⟨ho1,ho2,h⟩:=h
   have hx:=True.intro
   have hx:=And.intro (show ¬ (10:Int)=0 from by decide) hx
   have hx:=useA ho2.1 hx
   have hx:=useA (show (IntKind.i64.wrap (x5 - 1)) < ((20:Nat):Int) from ho2.2.1) hx
   have hx:=And.intro ho2.2.2 hx
   have hx:=And.intro (show (IntKind.i64.wrap (x5 - 1)).toNat < 20 from by omega) hx
   have hx:=And.intro (show 0 < 20 - (IntKind.i64.wrap (x5 - 1)).toNat from by omega) hx
   have hx:=And.intro (show (x7.map (tI .u8))[(IntKind.i64.wrap (x5 - 1)).toNat]? = some (tI .u8 (x7.getD (IntKind.i64.wrap (x5 - 1)).toNat default)) from get_map (tI .u8) x7 (by omega)) hx
   refine rgA [0,3,4,5] [] ?_
   iterate 6 refine stA ?_
   refine enA ?_
   refine hK12 _ ?_
   apply AW_seq_k
   intro K13 hK13
   obtain ⟨ho1,h⟩:=h
   have hx:=True.intro
   have hx:=And.intro (show ¬ (10:Int)=0 from by decide) hx
   refine rgA [0,3,4,5] [] ?_
   iterate 3 refine stA ?_
   refine enA ?_
   refine hK13 _ ?_
   apply AW_seq_k
   intro K14 hK14
   have hx:=True.intro
   refine rgA [0,3,4,5,17] [] ?_
   iterate 2 refine stA ?_
   refine enA ?_
   refine hK14 _ ?_
   refine cdA h rfl (fun h=>?_) (fun h=>?_)
   ·apply AW_exit
    refine hO10 _ _ (by simp) ?_
    refine hE8 _ ?_
    exact ⟨((IntKind.i64.wrap (x5 - 1)),(x7.set (IntKind.i64.wrap (x5 - 1)).toNat (Lt.numDigit (Int.tmod x6 10)))),siA,h⟩
   ·apply AW_skip
    refine hN10 _ ?_
    exact hK9 _ (n9,(IntKind.i64.wrap (x5 - 1)),(IntKind.i64.wrap (Int.tdiv x6 10)),(x7.set (IntKind.i64.wrap (x5 - 1)).toNat (Lt.numDigit (Int.tmod x6 10)))) siA h (Nat.lt_succ_self _)
 ·rintro ⟨x1,x2⟩ h
  change F_numPut_j1 a0_n x1 x2 KK at h
  unfold F_numPut_j1 at h
  refine AW_joinO [] [3,4] [] (fun y:Int×List Int=>⟨[(3,.one (.c (.pl ⟨.loc 3,0,[]⟩))),(4,.one (.c (.d (.int .i64 y.1))))],[(.loc 3,⟨true,y.2.map (tI .u8)⟩)]⟩) (fun y=>F_numPut_j2 y.1 y.2 KK) ?_ ?_
  ·apply AW_seq_k
   intro K5 hK5
   have hx:=True.intro
   refine rgA [3,4,19] [] ?_
   iterate 2 refine stA ?_
   refine enA ?_
   refine hK5 _ ?_
   refine cdA h rfl (fun h=>?_) (fun h=>?_)
   ·apply AW_seq_k
    intro K6 hK6
    have hx:=True.intro
    refine rgA [3,4] [] ?_
    iterate 3 refine stA ?_
    refine enA ?_
    refine hK6 _ ?_
    obtain ⟨ho1,h⟩:=h
    have hx:=True.intro
    have hx:=useA ho1.1 hx
    have hx:=useA (show (IntKind.i64.wrap (x1 - 1)) < ((20:Nat):Int) from ho1.2.1) hx
    have hx:=And.intro ho1.2.2 hx
    have hx:=And.intro (show (IntKind.i64.wrap (x1 - 1)).toNat < 20 from by omega) hx
    have hx:=And.intro (show 0 < 20 - (IntKind.i64.wrap (x1 - 1)).toNat from by omega) hx
    have hx:=And.intro (show (x2.map (tI .u8))[(IntKind.i64.wrap (x1 - 1)).toNat]? = some (tI .u8 (x2.getD (IntKind.i64.wrap (x1 - 1)).toNat default)) from get_map (tI .u8) x2 (by omega)) hx
    refine rgA [3,4] [] ?_
    iterate 3 refine stA ?_
    refine enA ?_
    exact ⟨((IntKind.i64.wrap (x1 - 1)),(x2.set (IntKind.i64.wrap (x1 - 1)).toNat 45)),siA,h⟩
   ·apply AW_skip
    exact ⟨(x1,x2),siA,h⟩
  ·rintro ⟨x3,x4⟩ h
   change F_numPut_j2 x3 x4 KK at h
   unfold F_numPut_j2 at h
   apply AW_seq_k
   intro K4 hK4
   refine frB (.loc 3) ?_
   obtain ⟨ho1,h⟩:=h
   have hx:=True.intro
   have hx:=useA ho1.1 hx
   have hx:=useA ho1.2.1 hx
   have hx:=useA ho1.2.2.1 hx
   have hx:=useA ho1.2.2.2 hx
   refine rgA [2] [] ?_
   iterate 4 refine stA ?_
   refine enA ?_
   refine hK4 _ ?_
   apply AW_ret
   exact fiA (hKK _ h)
def C_numPut:CKt:=pureT [(.i .i64)] [.s] (fun x=>Lt.preNum x) (fun x=>Lt.numPut x)
theorem c_numPut:Cont Tryz.prog 56 C_numPut:=
 Cont_of_con (φ:=fun avs K=>∃ n:Int,avs=[.one ((cI .i64).enc n)]/\Lt.preNum n/\K (o1 cS (Lt.numPut n))) (fun x K hp hk=>⟨x,rfl,hp,hk⟩)
  (Con_pure (fn:=Tryz.f56) (c:=Tryz.f56.body.getD .skip) (by kernel_rfl) (by kernel_rfl) (by kernel_rfl) _ (fun avs K ⟨x,hx,_,_⟩=>by rw [hx]; exact (by decide +kernel:1<=Tryz.f56.ntmps)) (fun g avs K hg ⟨x,hx,hp,hk⟩=>by
   subst hx
   exact walk_numPut g hg x K _ (fun _ h=>h) (law_numPut x hp _ hk)))
end Go.Am
end
