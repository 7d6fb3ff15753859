/-
  Part 9: AmBldW · AmFixH.
-/
import Derived.Test.YtlikflolhhlgjaaGreatDoorBa8
import Derived.Test.YtlikflolhhlgjaaGreatDoorChecked
import Derived.Shelf.Strings.Builder1
set_option linter.unusedSimpArgs false
set_option linter.unusedVariables false
set_option linter.unusedSectionVars false
set_option linter.unnecessarySimpa false
section
namespace Go.Proofs
open Go.Shelf Go.RowKit
theorem Tryz.bldSize:(Tryz.prog.info? 127).map (·.size)=some 2:=by kernel_rfl
theorem Tryz.bldLies:liesAt Tryz.prog Tryz.prog.depth 127 (2 / Tryz.prog.cellsOf 127) 0 127 1=true:=by kernel_rfl
theorem Tryz.bldByte:(Tryz.prog.info? 5).map (fun i=>(i.zero,i.size,i.bytes))=some (some (.int .u8 0),1,1):=by kernel_rfl
set_option maxHeartbeats 1000000 in
set_option maxRecDepth 100000 in
theorem Tryz.bldCheckUsed (b:Nat) (w:World) (h0:w.cell? ⟨b,0,none⟩=some (.pointer (some ⟨b,0,none⟩))) :
  Calls Tryz.prog 98 #[.pointer (some ⟨b,0,none⟩)] w fun e w'=>e=.returned (.tuple #[])/\w'=w:=by
 obtain ⟨j,hj,_⟩:=aeG.1 Tryz.bldSize
 go_enter Tryz.func98,Tryz.ntmps98
 go_wp2
 rw [Lib.run_neq_ptr_same w _ Tryz.underlying125 hj]
 go_wp2
 go_end0
 exact ⟨rfl,rfl⟩
set_option maxHeartbeats 1000000 in
set_option maxRecDepth 100000 in
theorem Tryz.bldCheckFresh (b:Nat) (w:World) (h0:w.cell? ⟨b,0,none⟩=some (.pointer none)) (hsh:w.shape? b=some (127,2)) (hfz:w.frozen? ⟨b,0,none⟩=false) :
  Calls Tryz.prog 98 #[.pointer (some ⟨b,0,none⟩)] w fun e w'=>e=.returned (.tuple #[])/\w'=w.setCell ⟨b,0,none⟩ (.pointer (some ⟨b,0,none⟩)):=by
 obtain ⟨j,hj,hjs⟩:=aeG.1 Tryz.bldSize
 go_enter Tryz.func98,Tryz.ntmps98
 go_wp2
 rw [Lib.run_to_unsafe w ⟨b,0,none⟩ Tryz.underlying125 Tryz.underlying199 hj (by rw [hjs]; decide) hsh (Nat.zero_lt_succ 1)];simp only [Result.andThen];rw [Oper.upon_value]
 go_wp2
 rw [run_callFunc_extern Tryz.func123 (by kernel_rfl) (by kernel_rfl) (by kernel_rfl) (e:=Extern.AbiNoEscape.same) (by kernel_rfl)];rw [Lib.run_noEscape];simp only [Result.andThen];rw [Oper.upon_value]
 go_wp2
 rw [Lib.run_from_unsafe w ⟨b,0,none⟩ Tryz.underlying199 Tryz.underlying125 hj hsh Tryz.bldLies];simp only [Result.andThen];rw [Oper.upon_value]
 go_wp2
 go_end0
 exact ⟨rfl,rfl⟩
theorem Tryz.bldCheck (B b:Nat) (bs:List Value) (w:World) (h:Lib.IsBuilder 127 5 B b bs w) :
  Calls Tryz.prog 98 #[.pointer (some ⟨b,0,none⟩)] w fun e w'=>e=.returned (.tuple #[])/\(Lib.BuilderAt 127 5 B b (.pointer (some ⟨b,0,none⟩)) bs w'/\Below B w w'):=by
 rcases h with h | h
 ·refine (Tryz.bldCheckFresh b w h.cell0 h.shape h.frozen0).mono ?_;rintro e w' ⟨rfl,rfl⟩
  exact ⟨rfl,h.used _,(Below.refl B w).setCell (p:=⟨b,0,none⟩) h.1 _⟩
 ·refine (Tryz.bldCheckUsed b w h.cell0).mono ?_;rintro e w' ⟨rfl,rfl⟩
  exact ⟨rfl,h,Below.refl B _⟩
set_option maxHeartbeats 2000000 in
set_option maxRecDepth 100000 in
theorem Tryz.bldWriteByte (B b:Nat) (bs:List Value) (c:Int) (w:World) (h:Lib.IsBuilder 127 5 B b bs w) (hlen:bs.length+1<=140737488355328) (hBw:B<=w.heap.size) :
  Calls Tryz.prog 51 #[.pointer (some ⟨b,0,none⟩),.int .u8 c] w fun e w'=>e=.returned .nilIface/\(Lib.BuilderAt 127 5 B b (.pointer (some ⟨b,0,none⟩)) (bs++[.int .u8 c]) w'/\Below B w w'):=by
 obtain ⟨i0,hi,hz0,hz1,hz2⟩:=info_parts Tryz.bldByte
 go_enter Tryz.func51,Tryz.ntmps51
 go_wp2_with (go_at_call 98; refine (Tryz.bldCheck B b bs _ h).mono ?_)
 rintro e w1 ⟨rfl,h1,hb1⟩
 obtain ⟨hB,v,hbk,hown,hne⟩:=h1;have c0:w1.cell? ⟨b,0,none⟩=some (.pointer (some ⟨b,0,none⟩)):=by rw [Lib.cell_of_heap hbk]; rfl
 have c1:w1.cell? ⟨b,1,none⟩=some v:=by rw [Lib.cell_of_heap hbk]; rfl
 go_wp2_with (at_builtin; refine wpList_append_own _ rfl _ _ 106 rfl B 5 i0 (.int .u8 0) 1 1 Tryz.underlying106 hi hz0 hz1 hz2 rfl (by decide) _ _ _ rfl (hown.alloc _) ⟨w1.heap.size,0,none⟩ 1 1 [.int .u8 c] rfl rfl ?c1 ?c2 ?c3 ?c4 ?c5 ?_)
 case c1=>
  intro j u hj
  match j,hj with
  | 0,hj=>simp at hj; subst hj; simp [Addr.add]
 case c2=>intro u hu; simp at hu; subst hu; rfl
 case c3=>unfold maxLen; omega
 case c4=>omega
 case c5=>have:=hb1.size; simp; omega
 intro v' w2 hown' hgrow _;have hlt:b<w1.heap.size:=by
  rcases aeC b w1.heap.size with h' | h'
  ·exact h'
  ·simp [aeS h'] at hbk
 have hb2:w2.heap[b]? = some (.cells #[.pointer (some ⟨b,0,none⟩),v] 127 (0,0)):=by
  rw [hgrow.block b (by simp; omega) (fun e=>hne e.symm),Lib.alloc_old w1 _ b hlt];exact hbk
 have d0:w2.cell? ⟨b,0,none⟩=some (.pointer (some ⟨b,0,none⟩)):=by rw [Lib.cell_of_heap hb2]; rfl
 have d1:w2.cell? ⟨b,1,none⟩=some v:=by rw [Lib.cell_of_heap hb2]; rfl
 have f1:w2.frozen? ⟨b,1,none⟩=false:=Lib.frozen_of_heap hb2 1
 obtain ⟨g,cap,rfl⟩:∃ g cap,v'=.slice (some ⟨g,0,none⟩) (bs.length+1) cap:=by
  rcases hown'.2 with ⟨_,h0⟩ | ⟨g,cap,cur,hv,_⟩
  ·omega
  ·exact ⟨g,cap,hv⟩
 go_wp2
 go_ret
 refine ⟨rfl,?_,?_⟩
 ·exact Lib.BuilderAt.put (T:=127) (e:=5) hB hb2 (bs':=bs++[.int .u8 c]) (by simpa using hown') (by decide)
 ·exact ((hb1.alloc (by have:=hb1.size; omega) _).grown hgrow (by have:=hb1.size; simp; omega) (fun k hk=>(hown.lt k hk).1)).setCell (p:=⟨b,1,none⟩) hB _
set_option maxHeartbeats 2000000 in
set_option maxRecDepth 100000 in
theorem Tryz.bldWriteString (B b:Nat) (bs:List Value) (s:ByteArray) (w:World) (h:Lib.IsBuilder 127 5 B b bs w) (hlen:bs.length+s.size<=140737488355328) (hBw:B<=w.heap.size) :
  Calls Tryz.prog 52 #[.pointer (some ⟨b,0,none⟩),.string s] w fun e w'=>e=.returned (.tuple #[.int .i64 s.size,.nilIface])/\(Lib.BuilderAt 127 5 B b (.pointer (some ⟨b,0,none⟩)) (bs++Lib.strCells s) w'/\Below B w w'):=by
 obtain ⟨i0,hi,hz0,hz1,hz2⟩:=info_parts Tryz.bldByte
 go_enter Tryz.func52,Tryz.ntmps52
 go_wp2_with (go_at_call 98; refine (Tryz.bldCheck B b bs _ h).mono ?_)
 rintro e w1 ⟨rfl,h1,hb1⟩
 obtain ⟨hB,v,hbk,hown,hne⟩:=h1;have c0:w1.cell? ⟨b,0,none⟩=some (.pointer (some ⟨b,0,none⟩)):=by rw [Lib.cell_of_heap hbk]; rfl
 have c1:w1.cell? ⟨b,1,none⟩=some v:=by rw [Lib.cell_of_heap hbk]; rfl
 go_wp2_with (at_builtin; refine Lib.wpList_append_own_string _ rfl _ _ 106 9 rfl B 5 i0 Tryz.underlying106 Tryz.underlying9 hi hz0 hz1 hz2 _ _ _ rfl hown s rfl ?c3 ?c4 ?c5 ?_)
 case c3=>unfold maxLen; omega
 case c4=>omega
 case c5=>have:=hb1.size; omega
 intro v' w2 hown' hgrow _;have hlt:b<w1.heap.size:=by
  rcases aeC b w1.heap.size with h' | h'
  ·exact h'
  ·simp [aeS h'] at hbk
 have hb2:w2.heap[b]? = some (.cells #[.pointer (some ⟨b,0,none⟩),v] 127 (0,0)):=by
  rw [hgrow.block b hlt (fun e=>hne e.symm)];exact hbk
 have d0:w2.cell? ⟨b,0,none⟩=some (.pointer (some ⟨b,0,none⟩)):=by rw [Lib.cell_of_heap hb2]; rfl
 have d1:w2.cell? ⟨b,1,none⟩=some v:=by rw [Lib.cell_of_heap hb2]; rfl
 have f1:w2.frozen? ⟨b,1,none⟩=false:=Lib.frozen_of_heap hb2 1
 obtain ⟨ao,n',cap,rfl⟩:∃ ao n' cap,v'=.slice ao n' cap:=by
  rcases hown'.2 with ⟨hv,_⟩ | ⟨g,cap,cur,hv,_⟩
  ·exact ⟨_,_,_,hv⟩
  ·exact ⟨_,_,_,hv⟩
 go_wp2
 go_ret2
 refine ⟨rfl,?_,?_⟩
 ·exact Lib.BuilderAt.put (T:=127) (e:=5) hB hb2 (bs':=bs++Lib.strCells s) (by simpa [Lib.strCells_length] using hown') (by decide)
 ·exact (hb1.grown hgrow (by have:=hb1.size; omega) (fun k hk=>(hown.lt k hk).1)).setCell (p:=⟨b,1,none⟩) hB _
end Go.Proofs
end

section
namespace Go.Am
open Go.RowKit
def kh (o:Oper):Bool:=o.guard.isNone&&match o.op with
 | .alloc _=>true
 | .store _ _ _=>true
 | _=>isQ o
section
variable {P:Program} {g:G} {s:S}
theorem OO {cs:CT} {o:Oper} {K:S->Prop} {a:Act} {w:World} {H:FH} {γ:Gam} {F:Nm->Fp} {Q:Exit->Act->World->Prop} (hk:kh o=true) (hc:opC g.nt o=true) (h:opK P cs o s K) (hX:RX g s a w H γ F) :
  o.wp P a w (fun a' w'=>∃ s' γ' F',K s'/\RX g s' a' w' H γ' F') Q:=by
 unfold kh at hk;rw [ac9] at hk;obtain ⟨_,hk⟩:=hk;by_cases hq:isQ o=true
 ·have h:=FE hq h
  obtain ⟨z,d,B,_,e1,e2,e3⟩:=Be hX hc h;unfold Oper.wp;rw [e1 w (fun _ _=>rfl)];exact ⟨_,γ,F,e3,hX.put (eB hc) e2⟩
 ·unfold opC at hc;unfold opK at h;rw [ac9] at hc;obtain ⟨hd,hc⟩:=hc;cases ho:o.op with
  | store t x v=>
   rw [ho] at h hc
   try dsimp only at hc
   have h1:=hc
   simp only [ac9] at h1;obtain ⟨s',w',γ',F',e1,e2,e3⟩:=EL (P:=P) hX h (br hX h1.1) (br hX h1.2);unfold Oper.wp;have:(execOp a.eval o).run P w=.ok .skip w':=by simp only [execOp,ho]; rw [Sem.run_bind,e1]; rfl
   rw [this];exact ⟨_,γ',F',e2,e3.put hd trivial⟩
  | alloc t=>
   rw [ho] at h;cases hdd:o.dst with
   | none=>rw [hdd] at h; exact h.elim
   | some d=>
    rw [hdd] at h hd;obtain ⟨s',y,w',γ',F',e1,e2,e3⟩:=Eg (P:=P) hX hd h;unfold Oper.wp;have:(execOp a.eval o).run P w=.ok (.value y) w':=by simp only [execOp,ho]; rw [Sem.run_bind,e1]; rfl
    rw [this];exact ⟨_,γ',F',e2,by rw [hdd]; exact e3⟩
  | _=>rw [ho] at hk; exact absurd hk hq
theorem tR {cs:CT} {H:FH} {Q:Exit->Act->World->Prop} {all:List Oper} {k:S->Prop} (hQ:∀ s' a' w' γ' F',k s'->RX g s' a' w' H γ' F'->Q .normal a' w') :
  ∀ (rest:List Oper) (s:S) (a:Act) (w:World) (γ:Gam) (F:Nm->Fp),rest.all kh=true->oN g.nt all rest=true->nE P cs all rest s k->RX g s a w H γ F->wpList P all.toArray Q rest a w
 | [],s,a,w,γ,F,_,_,h,hX=>wpList_nil (hQ s a w γ F h hX)
 | o::r,s,a,w,γ,F,hk,hc,h,hX=>by
  simp only [adQ,ac9] at hk;simp only [oN,ac9] at hc;have hg:o.guard=none:=by
   have:=hk.1
   simp only [kh,ac9,agH] at this;exact this.1
  simp only [nE,hg] at h;refine wpList_plain hg (fun K hK=>bz (fun a' w' ⟨s',γ',F',h1,h2⟩=>hK _ _ (tR hQ r s' a' w' γ' F' hk.2 hc.2 h1 h2)) (fun _ _ _ h=>h) (OO (Q:=Q) hk.1 hc.1.1 h hX))
def RB (g:G) (H:FH) (b:Nat) (x:S×List UInt8) (a:Act) (w:World):Prop:=
 x.1.m=[]/\(∃ γ F,RX g x.1 a w H γ F)/\Lib.IsBuilder 127 5 g.w0.heap.size b (Lib.byteCells x.2) w
def BW (P:Program) (g:G) (H:FH) (b:Nat) (c:Code) (Q:Exit->S×List UInt8->Prop) (x:S×List UInt8):Prop:=
 ∀ a w,RB g H b x a w->c.wp P (fun e a w=>∃ x',Q e x'/\RB g H b x' a w) a w
variable {H:FH} {b:Nat} {Q:Exit->S×List UInt8->Prop} {x:S×List UInt8}
theorem Gd (h:Q .normal x):BW P g H b .skip Q x:=fun a w hR=>wp_skip ⟨x,h,hR⟩
theorem OW {id:Nat} (h:Q (.exit id) x):BW P g H b (.exit id) Q x:=fun a w hR=>wp_exit ⟨x,h,hR⟩
theorem lK {c d:Code} (h:∀ K:S×List UInt8->Prop,(∀ x,BW P g H b d Q x->K x)->BW P g H b c (fun e x=>match e with | .normal=>K x | e=>Q e x) x):BW P g H b (.seq c d) Q x:=fun a w hR=>
 wp_seq (Code.wp_mono (fun e a w hl=>by
  obtain ⟨s',h1,h2⟩:=hl;cases e with
  | normal=>exact h1 a w h2
  | exit _=>exact ⟨s',h1,h2⟩
  | goto _=>exact ⟨s',h1,h2⟩
  | ret=>exact ⟨s',h1,h2⟩
  | panic _=>exact ⟨s',h1,h2⟩
  | outgrown=>exact ⟨s',h1,h2⟩) (h (BW P g H b d Q) (fun _ h=>h) a w hR))
theorem tJ {id:Nat} {c:Code} (h:BW P g H b c (fun e x=>match e with | .exit i=>if i=id then Q .normal x else Q (.exit i) x | e=>Q e x) x):BW P g H b (.block id c) Q x:=fun a w hR=>
 wp_block (Code.wp_mono (fun e a w hl=>by
  obtain ⟨s',h1,h2⟩:=hl;cases e with
  | exit id'=>
   dsimp only at h1;simp only [Exit.inBlock];split
   ·rename_i e; rw [if_pos e] at h1; exact ⟨s',h1,h2⟩
   ·rename_i e; rw [if_neg e] at h1; exact ⟨s',h1,h2⟩
  | normal=>exact ⟨s',h1,h2⟩
  | goto _=>exact ⟨s',h1,h2⟩
  | ret=>exact ⟨s',h1,h2⟩
  | panic _=>exact ⟨s',h1,h2⟩
  | outgrown=>exact ⟨s',h1,h2⟩) (h a w hR))
theorem Ig {t:Tmp} {c d:Code} {v:Bool} (hc:aK x.1.t t=.one (.c (.d (.bool v)))) (ht:v=true->BW P g H b c Q x) (hf:v=false->BW P g H b d Q x) (htb:t<TB:=by decide):BW P g H b (.cond (.tmp t) c d) Q x:=by
 intro a w hR;obtain ⟨hm,⟨γ,F,hX⟩,hB⟩:=hR;have h:=hX.t t
 rw [hc,G.tv_lo htb] at h;obtain ⟨_,m,h⟩:=h;have h':a.tmps.getD t undef=.bool v:=by cases m <;> exact h
 cases v with
 | true=>exact wp_cond_true (by simp only [Act.eval]; exact h') (ht rfl a w ⟨hm,⟨γ,F,hX⟩,hB⟩)
 | false=>exact wp_cond_false (by simp only [Act.eval]; exact h') (hf rfl a w ⟨hm,⟨γ,F,hX⟩,hB⟩)
theorem Pk {c:Code} (st:Nat->S×List UInt8) (N i0:Nat) (h0:x=st i0) (hle:i0<=N)
  (round:∀ i,i<=N->BW P g H b c (fun e y=>match e with | .normal=>i<N/\y=st (i+1) | e=>Q e y) (st i)):BW P g H b (.loop c) Q x:=by
 subst h0;intro a w hR
 let I:Act->World->Prop:=fun a w=>∃ i,i<=N/\RB g H b (st i) a w
 let p:Act->World->Nat->Prop:=fun a w n=>∃ i,i<=N/\N-i=n/\RB g H b (st i) a w
 have hmin:∀ a w,(∃ n,p a w n)->∃ n,p a w n/\∀ m,m<n->¬ p a w m:=fun a w h=>least h
 let μ:Act->World->Nat:=fun a w=>by
  classical
  exact if h:∃ n,p a w n then Classical.choose (hmin a w h) else 0
 have hμ:∀ a w (h:∃ n,p a w n),p a w (μ a w)/\∀ m,m<μ a w->¬ p a w m:=by
  intro a w h;have:μ a w=Classical.choose (hmin a w h):=by simp only [μ]; rw [dif_pos h]
  rw [this];exact Classical.choose_spec (hmin a w h)
 refine wp_loop (fun a w=>∃ n,p a w n) μ ⟨_,i0,hle,rfl,hR⟩ (fun a w hI=>?_);obtain ⟨⟨i,hi,hin,h2⟩,_⟩:=hμ a w hI;refine Code.wp_mono (fun e a' w' hl=>?_) (round i hi a w h2);obtain ⟨y,k1,k2⟩:=hl;cases e with
 | normal=>
  obtain ⟨hlt,rfl⟩:=k1;have hI':∃ n,p a' w' n:=⟨_,i+1,hlt,rfl,k2⟩
  refine ⟨hI',?_⟩;rcases aeC (μ a' w') (μ a w) with h | h
  ·exact h
  ·exact absurd ⟨i+1,hlt,rfl,k2⟩ ((hμ a' w' hI').2 (N - (i+1)) (by omega))
 | exit _=>exact ⟨y,k1,k2⟩
 | goto _=>exact ⟨y,k1,k2⟩
 | ret=>exact ⟨y,k1,k2⟩
 | panic _=>exact ⟨y,k1,k2⟩
 | outgrown=>exact ⟨y,k1,k2⟩
theorem jp {T e:TypeId} {B b:Nat} {bs:List Value} {w w':World} (h:Lib.IsBuilder T e B b bs w) (hs:w.heap.size<=w'.heap.size) (ho:w'.os=w.os) (ht:w'.tape=w.tape) (hp:w'.output=w.output) (hw:∀ k,k<w.heap.size->w'.heap[k]? = w.heap[k]?):Lib.IsBuilder T e B b bs w':=by
 have key:∀ p,Lib.BuilderAt T e B b p bs w->Lib.BuilderAt T e B b p bs w':=by
  intro p h;have hlt:=h.lt
  obtain ⟨hB,v,hb,hown,hne⟩:=h;refine ⟨hB,v,(hw b hlt).trans hb,?_,hne⟩;exact hown.kept (row:=none) ⟨ho,ht,hp,hs,fun k hk _=>hw k hk⟩ (by cases v.ownBlock <;> simp)
 rcases h with h | h
 ·exact .inl (key _ h)
 ·exact .inr (key _ h)
theorem rV {cs:CT} (ks:List Nat) (ds:List Nm) {id:Nat} {l:List Oper} (hk:l.all kh=true) (hc:oN g.nt l l=true) (s1:S) (hm1:s1.m=[]) (hQ:Q .normal (s1,x.2)) (h:RK P cs l l x.1 (fun s'=>s'.cut ks ds=s1)):BW P g H b (.region id l.toArray false) Q x:=by
 intro a w ⟨hm,⟨γ,F,hX⟩,hB⟩;have htot:tot F x.1.m=fun _=>0:=by rw [hm]; rfl
 let g2:G:=⟨g.nt,w,H,fun _=>0,g.out,g.ex,g.dfs⟩
 have hX2:RX g2 x.1 a w H γ F:=⟨hX.mem,⟨adH _,rfl,rfl,rfl,fun _ _ _=>rfl,fun _ _ _ h=>h,fun _ _ h1 h2=>absurd h2 h1,fun c hc=>by rw [htot] at hc; exact absurd rfl hc⟩,hX.nt,⟨hX.df.1,hX.df.2.1,dJ hX⟩,hX.t⟩
 refine wp_region_lit (tR (g:=g2) (H:=H) (k:=fun s'=>s'.cut ks ds=s1) (fun s' a' w' γ' F' hk' hX'=>?_) l x.1 a w γ F hk hc h.out hX2);subst hk';have hX3:=vr ds (mF ks hX')
 have hf:=hX3.fr
 refine ⟨_,hQ,hm1,⟨γ',F',hX3.mem,?_,hX3.nt,⟨hX3.df.1,hX3.df.2.1,hX.df.2.2⟩,hX3.t⟩,?_⟩
 ·exact hX.fr.trans (by rw [htot]; exact hf)
 ·exact jp hB hf.size hf.os hf.tape hf.output (fun k hk=>hf.block k hk rfl)
end
end Go.Am
end
