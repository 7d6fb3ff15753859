/-
  Part 16: AmRd · AmCl17 · AmKp1.
-/
import Derived.Test.YtjccmeppajblpaaDoorSf15
import Derived.MapFrom
set_option linter.unusedSimpArgs false
set_option linter.unusedVariables false
set_option linter.unusedSectionVars false
set_option linter.unnecessarySimpa false
section
namespace Go.Am
open Go Go.RowKit Go.Proofs Go.MapKept
def pickF (w:List UInt8) (df:Nat):List (List UInt8×Nat)->Nat
 | []=>df
 | (w0,f)::r=>if decide (w=w0)=true then f else pickF w df r
theorem swP_pick (w:List UInt8) (K:Nat->Prop) (df:Nat):∀ tab,swP w K df tab=K (pickF w df tab)
 | []=>rfl
 | (w0,f)::r=>by
  rw [swP,pickF,swP_pick w K df r]
  split <;> rfl
section
variable {P:Program}
theorem upon_ins {o:Oper} {a:Act} {next:Act->World->Prop} {Q:Exit->Act->World->Prop} {mt kt et:TypeId} {r:Nat} {es:Array MapEntry} {clock:Nat} {k:ByteArray} {v:Value} {w:World}
  (hm:P.underlying mt=some (.map kt et)) (hd:P.underlying kt=some .string) (hb:w.heap[r]? = some (.map es clock)) (hf:Instr.findNow .string (.string k) es.toList 0=some none)
  (h:∀ w2,w2.heap[r]? = some (.map (es.push { key:=.string k,val:=v,born:=clock }) (clock+1))->Below r w w2->next (a.put o.dst undef) w2) :
  o.upon P a next Q (((Instr.mapUpdate mt (.map (some r)) (.string k) v).run P w).andThen fun _ w'=>.ok Next.skip w'):=by
 have hrun:(Instr.mapUpdate mt (.map (some r)) (.string k) v).run P w=.ok () { w with heap:=w.heap.setIfInBounds r (.map (es.push { key:=.string k,val:=v,born:=clock }) (clock+1)) }:=by
  simp [Instr.mapUpdate,run_underlying hm,MapKept.run_getObj_map hb,run_checkKey hd (k:=.string k) trivial,run_findKey hd hf,run_setObj_map _ hb,Result.andThen]
 rw [hrun]
 exact h _ (heap_set hb).1 ⟨rfl,rfl,rfl,by simp,fun j hj=>(heap_set hb).2 j (by omega)⟩
theorem find_tab (s:ByteArray):∀ (es:List MapEntry) (tab:List (List UInt8×Nat)) (i:Nat),es.map (fun e=>(e.key,e.val))=tab.map (fun x=>(Value.string ⟨x.1.toArray⟩,Value.func (.func x.2) #[] #[])) ->
  (∃ x∈tab,(∃ j,Instr.findNow .string (.string s) es i=some (some (j,.func (.func x.2) #[] #[])))/\∀ df,pickF s.data.toList df tab=x.2)\/(Instr.findNow .string (.string s) es i=some none/\∀ df,pickF s.data.toList df tab=df)
 | [],[],i,_=>.inr ⟨rfl,fun _=>rfl⟩
 | [],_::_,i,h=>by simp at h
 | _::_,[],i,h=>by simp at h
 | e::es,(k,f)::tab,i,h=>by
  obtain ⟨ek,ev,eb⟩:=e
  simp only [List.map_cons,List.cons.injEq,Prod.mk.injEq] at h
  obtain ⟨⟨rfl,rfl⟩,h⟩:=h
  unfold Instr.findNow
  simp only [Instr.sameNow]
  by_cases hc:s=⟨k.toArray⟩
  ·have e1:(s==⟨k.toArray⟩)=true:=(bytes_beq _ _).2 hc
   rw [e1]
   refine .inl ⟨(k,f),by simp,⟨i,rfl⟩,fun df=>?_⟩
   have:s.data.toList=k:=by rw [hc]
   rw [pickF,if_pos (by simp [this])]
  ·have e1:(s==⟨k.toArray⟩)=false:=by
    rw [Bool.eq_false_iff]; exact fun e=>hc ((bytes_beq _ _).1 e)
   rw [e1]
   have n1:¬ s.data.toList=k:=by
    rintro rfl
    exact hc (by obtain ⟨x⟩:=s; simp)
   rcases find_tab s es tab (i+1) h with ⟨x,hx,hj,hp⟩ | ⟨h1,h2⟩
   ·exact .inl ⟨x,by simp [hx],hj,fun df=>by rw [pickF,if_neg (by simpa using n1)]; exact hp df⟩
   ·exact .inr ⟨h1,fun df=>by rw [pickF,if_neg (by simpa using n1)]; exact h2 df⟩
theorem run_look {mt kt et:TypeId} {r:Nat} {es:Array MapEntry} {clock:Nat} {s:ByteArray} {w:World} (hm:P.underlying mt=some (.map kt et)) (hd:P.underlying kt=some .string) (hz:(zeroValue et).run P w=.ok .nilFunc w)
  (hb:w.heap[r]? = some (.map es clock)) {x:Option (Nat×Value)} (hf:Instr.findNow .string (.string s) es.toList 0=some x) :
  (Instr.lookup mt (.map (some r)) (.string s) false).run P w=.ok (match x with | some (_,v)=>v | none=>.nilFunc) w:=by
 cases x with
 | none=>simp [Instr.lookup,run_underlying hm,MapKept.run_getObj_map hb,run_checkKey hd (k:=.string s) trivial,run_findKey hd hf,hz,Result.andThen]
 | some y=>obtain ⟨j,v⟩:=y; simp [Instr.lookup,run_underlying hm,MapKept.run_getObj_map hb,run_checkKey hd (k:=.string s) trivial,run_findKey hd hf,Result.andThen]
end
theorem eq_func {P:Program} {t:TypeId} {ps rs:Array TypeId} {va:Bool} {f:Fn} {a b:Array Value} (h:P.underlying t=some (.func ps rs va)) (w:World):(Op.equal t (.func f a b) .nilFunc).run P w=.ok false w:=by
 unfold Op.equal Op.maxDepth
 rw [show (10000:Nat)=9999+1 from rfl]
 unfold Op.equalIn
 simp only [Sem.run_bind,run_underlying h,Result.andThen]
 rfl
theorem eq_nilFunc {P:Program} {t:TypeId} {ps rs:Array TypeId} {va:Bool} (h:P.underlying t=some (.func ps rs va)) (w:World):(Op.equal t .nilFunc .nilFunc).run P w=.ok true w:=by
 unfold Op.equal Op.maxDepth
 rw [show (10000:Nat)=9999+1 from rfl]
 unfold Op.equalIn
 simp only [Sem.run_bind,run_underlying h,Result.andThen]
 rfl
theorem neq_func {P:Program} {t:TypeId} {ps rs:Array TypeId} {va:Bool} {f:Fn} {a b:Array Value} (h:P.underlying t=some (.func ps rs va)) (w:World):(binOp .neq t (.func f a b) .nilFunc).run P w=.ok (.bool true) w:=by
 show (do pure (.bool (!(<- Op.equal t (.func f a b) .nilFunc))):Sem Value).run P w=_
 simp only [Sem.run_bind,eq_func h,Result.andThen]
 rfl
theorem neq_nilFunc {P:Program} {t:TypeId} {ps rs:Array TypeId} {va:Bool} (h:P.underlying t=some (.func ps rs va)) (w:World):(binOp .neq t .nilFunc .nilFunc).run P w=.ok (.bool false) w:=by
 show (do pure (.bool (!(<- Op.equal t .nilFunc .nilFunc))):Sem Value).run P w=_
 simp only [Sem.run_bind,eq_nilFunc h,Result.andThen]
 rfl
theorem abs_es {es0:Array MapEntry} {c0:Nat} {f:Option Obj} (hb:f=some (.map es0 c0)) {L:List (Value×Value)} (he:es0.toList.map (fun e=>(e.key,e.val))=L):∃ es c,f=some (.map es c)/\es.toList.map (fun e=>(e.key,e.val))=L:=⟨es0,c0,hb,he⟩
def rTab:List (List UInt8×Nat):=[([115,115,97],46),([99,108,97,115,115],47),([102,105,101,108,100],48),([103,108,111,98,97,108],49),([101,120,116,101,114,110],50),([102,117,110,99],51),([112,97,114,97,109],52),([118,97,114],53),([98,108,111,99,107],54),([112,104,105],55),([97,116],56),([111,98,106],57),([106,117,109,112],58),([98,114,97,110,99,104],58),([114,101,116],58),([116,114,97,112],58)]
set_option maxRecDepth 100000 in
theorem readers_walk (s:ByteArray) (w:World) :
  Calls Tryd.prog 31 #[.string s] w fun e w'=>e=.returned (.func (.func (pickF s.data.toList 32 rTab)) #[] #[])/\Below w.heap.size w w':=by
 have hmm:=@run_makeMap Tryd.prog
 have hm:=Tryd.underlying123
 have hd:=Tryd.underlying9
 have hz:∀ w,(zeroValue 100).run Tryd.prog w=.ok .nilFunc w:=Tryd.zeroValue100
 have hb:(w.alloc (.map #[] 0)).heap[w.heap.size]? = some (.map #[] 0):=(heap_alloc w _).1
 have hB:Below w.heap.size w (w.alloc (.map #[] 0)):=(Below.refl _ w).alloc (Nat.le_refl _) _
 go_enter Tryd.func31,Tryd.ntmps31
 go_wp2
 iterate 16
  refine upon_ins hm hd hb (by kernel_rfl) (fun w2 hb2 hB2=>?_)
  replace hB:=hB.trans hB2
  replace hb:=hb2
  clear hB2 hb2
  go_wp2
 obtain ⟨es,c,hb,he⟩:=abs_es hb (L:=rTab.map (fun x=>(Value.string ⟨x.1.toArray⟩,Value.func (.func x.2) #[] #[]))) (by kernel_rfl)
 rcases find_tab s es.toList rTab 0 he with ⟨x,hx,⟨j,hj⟩,hp⟩ | ⟨h1,hp⟩
 ·rw [run_look hm hd (hz _) hb hj]
  simp only [Result.andThen]
  rw [Oper.upon_value]
  go_wp2
  rw [neq_func Tryd.underlying100]
  simp only [Result.andThen]
  rw [Oper.upon_value]
  go_wp2
  go_ret
  exact ⟨by rw [hp]; rfl,hB⟩
 ·rw [run_look hm hd (hz _) hb h1]
  simp only [Result.andThen]
  rw [Oper.upon_value]
  go_wp2
  rw [neq_nilFunc Tryd.underlying100]
  simp only [Result.andThen]
  rw [Oper.upon_value]
  go_wp2
  go_ret
  exact ⟨by rw [hp]; rfl,hB⟩
theorem canA_s {v:At} {x:List UInt8} (h:canAs [.s] [v]=some x):v.noRf=true/\v.toV.isFz=true/\v.toV.map T.canon=.one (.c (.d (.str x))):=by
 obtain ⟨h1,h2,h3⟩:=canAs_ok h
 refine ⟨by simpa using h1,by simpa using h2,?_⟩
 have:[v.toV.map T.canon]=[AV.one (.c (.d (.str x)))]:=h3
 simpa using this
def C_yReaders:CKt:=swT rTab 32
theorem c_yReaders:Cont Tryd.prog 31 C_yReaders:=by
 refine ⟨run_fn2 (fn:=Tryd.f31) (by kernel_rfl) (by kernel_rfl) (by kernel_rfl),fun pk s ops k k' hk hc=>?_,fun g pk s a w H γ F1 ops k hX hops hc=>?_⟩
 ·unfold C_yReaders swT at hc ⊢
  dsimp only at hc ⊢
  split at hc
  ·rw [swP_pick] at hc ⊢
   exact hk _ _ (Ext_frzAts _ _) hc
  ·exact hc.elim
 ·unfold C_yReaders swT at hc
  dsimp only at hc
  obtain ⟨H1,F2,h1⟩:=RXt_frzAts (ops.map (evA s)) s H F1 hX
  generalize frzAts s (ops.map (evA s))=s1 at hc h1
  split at hc
  ·rename_i x hx
   rw [swP_pick] at hc
   match ops,hx with
   | [],hx=>simp [canAs] at hx
   | [o],hx=>
    obtain ⟨_,hz,hcn⟩:=canA_s hx
    have hop:okOp o=true:=by simpa using hops
    have hv:=ev_ok h1 hop
    rw [evA_toV hop] at hv
    have hv2:=AR_map TR_canon (AR_fz (w':=w) (γ':=γ) (m':=[]) (fun _ _ _ h=>h) hz hv)
    rw [hcn] at hv2
    obtain ⟨e1,_⟩:=AR_text hv2
    show Calls _ _ #[a.eval o] w _
    rw [e1]
    refine (readers_walk ⟨x.toArray⟩ w).mono ?_
    rintro e w' ⟨rfl,hb⟩
    rw [bs_list]
    have hsame:∀ b,tot F2 s1.toS.m b≠0->w'.heap[b]? = w.heap[b]? := fun b hb'=>hb.block b (h1.mem.lt b hb')
    have hKp:=Keeps_grow (w':=w') h1.mem hsame
    have hmem:Mem w' H1 γ s1.toS.m F2:=by
     refine ⟨fun b o y hy=>?_,fun x hx=>RootR_keeps hKp (fun _ _ _ h=>h) rfl (fun b hb'=>hsame b (by have:=tot_ge (F:=F2) hx b; omega)) (h1.mem.roots x hx),h1.mem.keys,h1.mem.le1,fun b hb'=>by have:=h1.mem.lt b hb'; have:=hb.size; omega,h1.mem.nofz⟩
     have hlt:b<w.heap.size:=World.block_lt_of_cell? _ _ (h1.mem.agree b o y hy)
     rw [hb.cell hlt]
     exact h1.mem.agree b o y hy
    have hFr:Fr w H1 (tot F2 s1.toS.m) w' H1 (tot F2 s1.toS.m):=
     ⟨hb.size,hb.os,hb.tape,hb.output,fun b hb' _=>hb.block b hb',fun _ _ _ h=>h,fun b o h2 h3=>absurd h3 h2,fun b hb=>.inl hb,fun b h0=>h0.of_block (hb.block b h0.lt),nz_refl.2⟩
    exact .inl ⟨_,s1,sct (.v (.func (.func (pickF x 32 rTab)) #[] #[])),H1,γ,F2,rfl,hc,⟨fun _=>rfl,0,rfl,rfl⟩,RX_step h1 hmem hFr (fun i=>AR_keeps hKp (fun _ _ _ h=>h) (h1.t i)) (fun _=>rfl)⟩
   | _::_::_,hx=>simp [canAs] at hx
  ·exact hc.elim
end Go.Am
end

section
namespace Go.Am
open Go Go.Proofs
set_option maxRecDepth 100000
def eU:Ut:=[(32,(.st .Var)),(54,(.st .Block)),(137,(.st .Class)),(142,(.st .Extern)),(25,(.st .Func)),(45,(.st .Pair)),(82,(.st .Phi)),(90,(.st .Instr)),(9,.s),(71,(.st .Line)),(77,(.st .way)),(84,(.st .In)),(49,(.st .Arg)),(114,(.st .Frame)),(118,(.st .Virt)),(22,(.sl (.st .Var))),(5,.b8),(3,(.i .i64)),(102,(.sl (.i .i64))),(116,(.st .Bind))]
def eS:List (TypeId×List Sh):=[(25,[.fr,.fr,.ow [.fr,.fr],.ow [.fr,.fr],.ow [.fr,.ow [.fr,.fr],.ow [.fr,.fr,.fr,.fr,.ow [.fr,.fr,.fr,.fr],.ow [.fr,.fr]],.fr,.fr,.fr,.fr,.fr,.fr]]),(38,[.fr,.ow [.fr,.ow [.fr,.fr]],.ow [.fr,.fr],.ow [.fr,.fr],.ow [.fr,.fr,.ow [.fr,.fr],.ow [.fr,.fr],.ow [.fr,.ow [.fr,.fr],.ow [.fr,.fr,.fr,.fr,.ow [.fr,.fr,.fr,.fr],.ow [.fr,.fr]],.fr,.fr,.fr,.fr,.fr,.fr]]]),(54,[.fr,.ow [.fr,.fr],.ow [.fr,.fr,.fr,.fr,.ow [.fr,.fr,.fr,.fr],.ow [.fr,.fr]],.fr,.fr,.fr,.fr,.fr,.fr]),(65,[.fr,.ow [.fr,.ow [.fr,.fr]],.ow [.fr,.fr],.ow [.fr,.fr],.ow [.fr,.fr,.ow [.fr,.fr],.ow [.fr,.fr],.ow [.fr,.ow [.fr,.fr],.ow [.fr,.fr,.fr,.fr,.ow [.fr,.fr,.fr,.fr],.ow [.fr,.fr]],.fr,.fr,.fr,.fr,.fr,.fr]],.fr,.fr,.fr,.fr]),(66,[.fr,.ow [.fr,.ow [.fr,.fr]],.ow [.fr,.fr],.ow [.fr,.fr],.ow [.fr,.fr,.ow [.fr,.fr],.ow [.fr,.fr],.ow [.fr,.ow [.fr,.fr],.ow [.fr,.fr,.fr,.fr,.ow [.fr,.fr,.fr,.fr],.ow [.fr,.fr]],.fr,.fr,.fr,.fr,.fr,.fr]],.fr,.fr,.fr,.fr]),(90,[.fr,.fr,.fr,.fr,.ow [.fr,.fr,.fr,.fr],.ow [.fr,.fr]]),(137,[.fr,.ow [.fr,.fr]])]
abbrev eP:List (TypeId×List Sh):=[(102,[.ow [.fr]])]
theorem numPut_pre (x:Int) (h:(decide (-9223372036854775808<=x)&&decide (x<=9223372036854775807))=true):Lt.preNum x:=by
 simp only [Bool.and_eq_true,decide_eq_true_eq] at h
 unfold Lt.preNum Lt.inR
 omega
abbrev shR:List Sh:=[.fr,.ow [.fr,.ow [.fr,.fr]],.ow [.fr,.fr],.ow [.fr,.fr],.ow [.fr,.fr,.ow [.fr,.fr],.ow [.fr,.fr],.ow [.fr,.ow [.fr,.fr],.ow [.fr,.fr,.fr,.fr,.ow [.fr,.fr,.fr,.fr],.ow [.fr,.fr]],.fr,.fr,.fr,.fr,.fr,.fr]],.fr,.fr,.fr,.fr]
noncomputable def x28:Cl 28:=⟨fnB [.s,.s] [.sl .s] (fun x=>decide (x.1.length < 4294967281)&&decide (1<=x.2.length)) (fun x=>Lt.gSplit x.1 x.2),_,fnB_ck (fun x h=>by simp only [Bool.and_eq_true,decide_eq_true_eq] at h; exact h),c_gSplit⟩
noncomputable def x29:Cl 29:=⟨fnB [.s,.s] [.s,.s,.bo] (fun x=>decide (x.1.length < 4294967281)) (fun x=>Lt.gCut x.1 x.2),_,fnB_ck (fun x h=>of_decide_eq_true h),c_gCut⟩
noncomputable def x45:Cl 45:=clL eU eP [] 80 Tryd.f45 [.b8] [.bo] (by kernel_rfl) (by kernel_rfl)
noncomputable def x30:Cl 30:=clP eU eP [⟨_,x45⟩] 80 Tryd.f30 [.s] [(.sl .s),.bo] (by kernel_rfl) (by kernel_rfl)
noncomputable def x18:Cl 18:=clP eU eP [⟨_,x28⟩,⟨_,x29⟩,⟨_,x30⟩] 80 Tryd.f18 [.s] [(.sl (.st .Line)),(.i .i64),(.i .i64)] (by kernel_rfl) (by kernel_rfl)
noncomputable def x33:Cl 33:=clN eU eS [] 80 Tryd.f33 (by kernel_rfl) (by kernel_rfl)
noncomputable def x46:Cl 46:=clM eU eS [⟨_,x33⟩] 80 Tryd.f46 [(.sl .s)] [] shR (.st .Reader) (by kernel_rfl) (by kernel_rfl)
noncomputable def x34:Cl 34:=clL eU eS [] 80 Tryd.f34 [(.sl (.i .i64)),(.i .i64)] [.bo] (by kernel_rfl) (by kernel_rfl)
noncomputable def x21:Cl 21:=clN eU eS [⟨_,x34⟩,⟨_,x33⟩] 80 Tryd.f21 (by kernel_rfl) (by kernel_rfl)
noncomputable def x90:Cl 90:=clL eU eP [] 80 Tryd.f90 [.b8] [.bo] (by kernel_rfl) (by kernel_rfl)
noncomputable def x91:Cl 91:=clL eU eP [] 80 Tryd.f91 [.s] [.bo] (by kernel_rfl) (by kernel_rfl)
noncomputable def x92:Cl 92:=clL eU eP [] 80 Tryd.f92 [.b8] [.bo] (by kernel_rfl) (by kernel_rfl)
noncomputable def x79:Cl 79:=clL eU eP [⟨_,x90⟩,⟨_,x91⟩,⟨_,x92⟩] 80 Tryd.f79 [.s] [.bo] (by kernel_rfl) (by kernel_rfl)
noncomputable def x59:Cl 59:=clL eU eS [⟨_,x79⟩,⟨_,x33⟩] 80 Tryd.f59 [.s] [.s] (by kernel_rfl) (by kernel_rfl)
noncomputable def x71:Cl 71:=clN eU eS [] 80 Tryd.f71 (by kernel_rfl) (by kernel_rfl)
noncomputable def x47:Cl 47:=clM eU eS [⟨_,x21⟩,⟨_,x33⟩,⟨_,x59⟩,⟨_,x71⟩] 80 Tryd.f47 [(.sl .s)] [] shR (.st .Reader) (by kernel_rfl) (by kernel_rfl)
noncomputable def x72:Cl 72:=clL eU eS [⟨_,x79⟩,⟨_,x33⟩] 80 Tryd.f72 [.s] [.s] (by kernel_rfl) (by kernel_rfl)
noncomputable def x48:Cl 48:=clM eU eS [⟨_,x21⟩,⟨_,x33⟩,⟨_,x59⟩,⟨_,x72⟩,⟨_,x71⟩] 80 Tryd.f48 [(.sl .s)] [] shR (.st .Reader) (by kernel_rfl) (by kernel_rfl)
noncomputable def x49:Cl 49:=clM eU eS [⟨_,x21⟩,⟨_,x33⟩,⟨_,x59⟩,⟨_,x72⟩,⟨_,x71⟩] 80 Tryd.f49 [(.sl .s)] [] shR (.st .Reader) (by kernel_rfl) (by kernel_rfl)
noncomputable def x26:Cl 26:=clF [.i .i64] [.s] Lt.numPut (fun x=>decide (-9223372036854775808<=x)&&decide (x<=9223372036854775807)) (fun x h=>numPut_pre x h) c_numPut
noncomputable def x78:Cl 78:=clL eU eP [⟨_,x26⟩] 80 Tryd.f78 [.s] [(.i .i64),.bo] (by kernel_rfl) (by kernel_rfl)
noncomputable def x73:Cl 73:=clL eU eS [⟨_,x78⟩,⟨_,x33⟩] 80 Tryd.f73 [.s,(.i .i64),(.i .i64)] [(.i .i64)] (by kernel_rfl) (by kernel_rfl)
noncomputable def x50:Cl 50:=clM eU eS [⟨_,x21⟩,⟨_,x33⟩,⟨_,x59⟩,⟨_,x73⟩,⟨_,x71⟩] 80 Tryd.f50 [(.sl .s)] [] shR (.st .Reader) (by kernel_rfl) (by kernel_rfl)
noncomputable def x51:Cl 51:=clM eU eS [⟨_,x21⟩,⟨_,x33⟩,⟨_,x59⟩,⟨_,x72⟩,⟨_,x71⟩] 80 Tryd.f51 [(.sl .s)] [] shR (.st .Reader) (by kernel_rfl) (by kernel_rfl)
noncomputable def x74:Cl 74:=clN eU eS [] 80 Tryd.f74 (by kernel_rfl) (by kernel_rfl)
noncomputable def x52:Cl 52:=clM eU eS [⟨_,x21⟩,⟨_,x33⟩,⟨_,x59⟩,⟨_,x72⟩,⟨_,x74⟩,⟨_,x71⟩] 80 Tryd.f52 [(.sl .s)] [] shR (.st .Reader) (by kernel_rfl) (by kernel_rfl)
noncomputable def x53:Cl 53:=clM eU eS [⟨_,x21⟩,⟨_,x33⟩,⟨_,x59⟩,⟨_,x72⟩,⟨_,x74⟩,⟨_,x71⟩] 80 Tryd.f53 [(.sl .s)] [] shR (.st .Reader) (by kernel_rfl) (by kernel_rfl)
noncomputable def x75:Cl 75:=clN eU eS [] 80 Tryd.f75 (by kernel_rfl) (by kernel_rfl)
noncomputable def x54:Cl 54:=clM eU eS [⟨_,x75⟩,⟨_,x33⟩,⟨_,x59⟩,⟨_,x74⟩,⟨_,x71⟩] 80 Tryd.f54 [(.sl .s)] [] shR (.st .Reader) (by kernel_rfl) (by kernel_rfl)
noncomputable def x98:Cl 98:=⟨fnB [.s,.s] [.s,.bo] (fun _=>true) (fun x=>Lt.gCutP x.1 x.2),_,fn0_ck,c_gCutP⟩
noncomputable def x99:Cl 99:=⟨fnB [.s,.b8] [.i .i64] (fun _=>true) (fun x=>Lt.gIndex x.1 x.2),_,fn0_ck,c_gIndex⟩
noncomputable def x100:Cl 100:=clL eU eP [] 80 Tryd.f100 [(.i .i64)] [(.i .i64)] (by kernel_rfl) (by kernel_rfl)
noncomputable def x97:Cl 97:=clL eU eP [⟨_,x98⟩,⟨_,x99⟩,⟨_,x100⟩] 80 Tryd.f97 [.s] [(.i .i64),.bo] (by kernel_rfl) (by kernel_rfl)
noncomputable def x96:Cl 96:=clP eU eP [⟨_,x97⟩,⟨_,x78⟩] 80 Tryd.f96 [.s] [(.st .Arg),.bo] (by kernel_rfl) (by kernel_rfl)
noncomputable def x89:Cl 89:=clP eU eP [⟨_,x79⟩,⟨_,x78⟩,⟨_,x96⟩] 80 Tryd.f89 [.s] [(.st .Arg),.bo] (by kernel_rfl) (by kernel_rfl)
noncomputable def x76:Cl 76:=clP eU eS [⟨_,x89⟩,⟨_,x33⟩] 80 Tryd.f76 [.s,.bo] [(.st .Arg)] (by kernel_rfl) (by kernel_rfl)
noncomputable def x63:Cl 63:=clN eU eS [⟨_,x71⟩] 80 Tryd.f63 (by kernel_rfl) (by kernel_rfl)
noncomputable def x64:Cl 64:=clN eU eS [⟨_,x74⟩] 80 Tryd.f64 (by kernel_rfl) (by kernel_rfl)
noncomputable def x55:Cl 55:=clM eU eS [⟨_,x21⟩,⟨_,x33⟩,⟨_,x59⟩,⟨_,x76⟩,⟨_,x71⟩,⟨_,x63⟩,⟨_,x64⟩] 80 Tryd.f55 [(.sl .s)] [] shR (.st .Reader) (by kernel_rfl) (by kernel_rfl)
noncomputable def x77:Cl 77:=clN eU eS [⟨_,x64⟩] 80 Tryd.f77 (by kernel_rfl) (by kernel_rfl)
noncomputable def x56:Cl 56:=clM eU eS [⟨_,x21⟩,⟨_,x33⟩,⟨_,x59⟩,⟨_,x73⟩,⟨_,x76⟩,⟨_,x71⟩,⟨_,x77⟩] 80 Tryd.f56 [(.sl .s)] [] shR (.st .Reader) (by kernel_rfl) (by kernel_rfl)
noncomputable def x62:Cl 62:=clP eU eS [⟨_,x76⟩] 80 Tryd.f62 [(.sl .s),.bo] [(.sl (.st .Arg))] (by kernel_rfl) (by kernel_rfl)
noncomputable def x57:Cl 57:=clM eU eS [⟨_,x21⟩,⟨_,x33⟩,⟨_,x59⟩,⟨_,x62⟩,⟨_,x77⟩,⟨_,x71⟩] 80 Tryd.f57 [(.sl .s)] [] shR (.st .Reader) (by kernel_rfl) (by kernel_rfl)
noncomputable def x58:Cl 58:=clM eU eS [⟨_,x21⟩,⟨_,x33⟩,⟨_,x59⟩,⟨_,x76⟩,⟨_,x78⟩,⟨_,x64⟩] 80 Tryd.f58 [(.sl .s)] [] shR (.st .Reader) (by kernel_rfl) (by kernel_rfl)
noncomputable def x80:Cl 80:=clL eU eS [] 80 Tryd.f80 [.s,(.i .i64)] [.s] (by kernel_rfl) (by kernel_rfl)
noncomputable def x61:Cl 61:=clP eU eS [⟨_,x80⟩] 80 Tryd.f61 [(.i .i64)] [(.st .Form),.bo] (by kernel_rfl) (by kernel_rfl)
noncomputable def x60:Cl 60:=clL eU eS [⟨_,x61⟩] 80 Tryd.f60 [.s] [(.i .i64),.bo] (by kernel_rfl) (by kernel_rfl)
noncomputable def x32:Cl 32:=clM eU eS [⟨_,x21⟩,⟨_,x59⟩,⟨_,x60⟩,⟨_,x33⟩,⟨_,x61⟩,⟨_,x62⟩,⟨_,x63⟩,⟨_,x64⟩] 80 Tryd.f32 [(.sl .s)] [] shR (.st .Reader) (by kernel_rfl) (by kernel_rfl)
noncomputable def x31:Cl 31:=⟨swB rTab 32,_,swB_ck,c_yReaders⟩
noncomputable def x20:Cl 20:=clM eU eS [⟨_,x31⟩,⟨_,x46⟩,⟨_,x47⟩,⟨_,x48⟩,⟨_,x49⟩,⟨_,x50⟩,⟨_,x51⟩,⟨_,x52⟩,⟨_,x53⟩,⟨_,x54⟩,⟨_,x55⟩,⟨_,x56⟩,⟨_,x57⟩,⟨_,x58⟩,⟨_,x32⟩] 80 Tryd.f20 [(.sl .s)] [] shR (.st .Reader) (by kernel_rfl) (by kernel_rfl)
noncomputable abbrev lParse:ClS:=[⟨_,x18⟩,⟨_,x20⟩,⟨_,x21⟩]
def lt (s:String):List UInt8:=s.toUTF8.data.toList
abbrev txt17:List UInt8:=[102,117,110,99,32,102,32,105,110,116,10,98,108,111,99,107,32,97,10,98,114,97,110,99,104,32,120,32,98,32,99,10,98,108,111,99,107,32,98,10,106,117,109,112,32,99,10,98,108,111,99,107,32,99,10,114,101,116,32,49,10]
abbrev fun17:Lt.Func:=⟨[102],[105,110,116],[],[],[⟨[97],[],[],⟨2,⟨1,[120],0⟩,[[98],[99]],0⟩⟩,⟨[98],[],[],⟨1,⟨0,[],0⟩,[[99]],0⟩⟩,⟨[99],[],[],⟨3,⟨2,[],1⟩,[],0⟩⟩]⟩
abbrev prog17:Lt.Program:=⟨false,[],[],[],[fun17]⟩
theorem t17:bodyDB 80 (clE eU eS lParse) Tryd.f9 (kLs 4 (Tryd.f9.body.getD .skip)) (kRs (4+1) (Tryd.f9.body.getD .skip)) [.s] [.st .Program,.i .i64,.i .i64] txt17 (fun y=>decide (y=(prog17,0,0)))=true:=by kernel_rfl
end Go.Am
end

section
namespace Go.Am
def lkV:List (Nat×Value)->Nat->Option Value
 | [],_=>none
 | (k,v)::r,i=>match Nat.beq k i with
  | true=>some v
  | false=>lkV r i
structure KT (nt:Nat) (l:List (Nat×Value)) (a:Act):Prop where
 nt:a.tmps.size=nt
 df:a.defers=[]
 t:∀ i v,lkV l i=some v->a.tmps.getD i undef=v
theorem KT.put {nt:Nat} {l:List (Nat×Value)} {a:Act} (h:KT nt l a) {d:Nat} (hd:d<nt) (v:Value):KT nt ((d,v)::l) (a.put (some d) v):=by
 refine ⟨by simp only [Act.put,Array.size_setIfInBounds]; exact h.nt,h.df,fun i x hx=>?_⟩
 rw [put_getD a d i v (by rw [h.nt]; exact hd)]
 unfold lkV at hx
 by_cases e:d=i
 ·subst e
  rw [Nat.beq_refl] at hx
  rw [if_pos rfl]
  exact Option.some.inj hx
 ·have:Nat.beq d i=false:=by
   cases hb:Nat.beq d i
   ·rfl
   ·exact absurd (Nat.eq_of_beq_eq_true hb) e
  rw [this] at hx
  rw [if_neg e]
  exact h.t i x hx
theorem KT.none {nt:Nat} {l:List (Nat×Value)} {a:Act} (h:KT nt l a) (v:Value):KT nt l (a.put none v):=h
theorem KT.ev {nt:Nat} {l:List (Nat×Value)} {a:Act} (h:KT nt l a) {i:Nat} {v:Value} (hi:lkV l i=some v):a.eval (.tmp i)=v:=h.t i v hi
theorem KT.sub {nt:Nat} {l l':List (Nat×Value)} {a:Act} (h:KT nt l a) (hs:∀ x∈l',lkV l x.1=some x.2):KT nt l' a:=by
 refine ⟨h.nt,h.df,fun i v hi=>h.t i v ?_⟩
 have:∃ x∈l',x.1=i/\x.2=v:=by
  clear hs h
  induction l' with
  | nil=>cases hi
  | cons y r ih=>
   unfold lkV at hi
   cases hb:Nat.beq y.1 i with
   | true=>rw [hb] at hi; exact ⟨y,by simp,Nat.eq_of_beq_eq_true hb,Option.some.inj hi⟩
   | false=>
    rw [hb] at hi
    obtain ⟨x,h1,h2⟩:=ih hi
    exact ⟨x,List.mem_cons_of_mem _ h1,h2⟩
 obtain ⟨x,h1,rfl,rfl⟩:=this
 exact hs x h1
def subV (l:List (Nat×Value)):List (Nat×Value)->Prop
 | []=>True
 | x::r=>lkV l x.1=some x.2/\subV l r
theorem KT.sub2 {nt:Nat} {l l':List (Nat×Value)} {a:Act} (h:KT nt l a) (hs:subV l l'):KT nt l' a:=by
 refine h.sub ?_
 clear h
 induction l' with
 | nil=>intro x hx; cases hx
 | cons y r ih=>
  intro x hx
  rcases List.mem_cons.1 hx with rfl | hx
  ·exact hs.1
  ·exact ih hs.2 x hx
section
variable {P:Program} {all:Array Oper} {rest:List Oper} {Q:Exit->Act->World->Prop} {o:Oper} {l:List (Nat×Value)} {a:Act} {w:World} {nt d:Nat} {v:Value}
theorem wpV (hg:o.guard=none) (ho:o.dst=some d) (hd:d<nt) (hk:KT nt l a) (hrun:(execOp a.eval o).run P w=.ok (.value v) w) (h:∀ a',KT nt ((d,v)::l) a'->wpList P all Q rest a' w) :
  wpList P all Q (o::rest) a w:=
 wpList_plain hg fun K hK=>by
  unfold Oper.wp
  rw [hrun]
  exact hK _ _ (by rw [ho]; exact h _ (hk.put hd v))
theorem vMove {x:Operand} (hop:o.op=.move x) (hx:a.eval x=v):(execOp a.eval o).run P w=.ok (.value v) w:=by simp [execOp,hop,hx]
theorem vAssign {x:Operand} (hop:o.op=.assign x) (hx:a.eval x=v):(execOp a.eval o).run P w=.ok (.value v) w:=by simp [execOp,hop,hx]
def fOff (P:Program) (t:TypeId) (i:Nat):Option Nat:=match (ty P t).k with
 | .st fs=>match fs[i]? with
  | some (off,size,_)=>match Nat.beq size 0 with
   | true=>none
   | false=>some off
  | none=>none
 | _=>none
theorem vFA {t:TypeId} {x:Operand} {i k b off:Nat} (hop:o.op=.fieldAddr t x i) (hx:a.eval x=.pointer (some ⟨b,off,none⟩)) (hf:fOff P t i=some k) :
  (execOp a.eval o).run P w=.ok (.value (.pointer (some ⟨b,off+k,none⟩))) w:=by
 unfold fOff at hf
 split at hf
 ·rename_i fs hk
  obtain ⟨_,d,_,hd,he,_⟩:=ty_und hk (by simp)
  obtain ⟨fs',rfl,rfl⟩:=tk_st he
  split at hf
  ·rename_i off' size ag h1
   split at hf
   ·cases hf
   ·rename_i h0
    obtain rfl:=Option.some.inj hf
    simp only [List.getElem?_map,Option.map_eq_some_iff,Prod.mk.injEq] at h1
    obtain ⟨f,hf1,rfl,rfl,rfl⟩:=h1
    have hf2:fs'[i]? = some f:=by simpa using hf1
    have h0:¬ P.cellsOf f.type=0:=fun e=>by rw [e] at h0; cases h0
    obtain ⟨it,hit⟩:∃ i,P.info? f.type=some i:=by
     cases hi:P.info? f.type with
     | none=>simp [Program.cellsOf,hi] at h0
     | some i=>exact ⟨i,rfl⟩
    simp only [execOp,hop,hx]
    simp only [Instr.fieldAt,Sem.run_bind,run_underlying hd,Result.andThen_ok,hf2,Instr.sureAddr,Sem.run_pure,fieldPlace,runs_sizeOf hit]
    rw [if_neg h0]
    simp only [Sem.run_pure,Result.andThen_ok,addr_add]
  ·cases hf
 ·cases hf
def eSz (P:Program) (t:TypeId):Option Nat:=match (ty P t).k with
 | .sl e=>match (ty P e).ok with
  | true=>some (ty P e).size
  | false=>none
 | _=>none
theorem vIA {t:TypeId} {x i:Operand} {e b off n c:Nat} {κ:IntKind} {j:Int} (hop:o.op=.indexAddr t x i) (hx:a.eval x=.slice (some ⟨b,off,none⟩) n c) (hi:a.eval i=.int κ j) (h0:0<=j/\j<n) (he:eSz P t=some e) :
  (execOp a.eval o).run P w=.ok (.value (.pointer (some ⟨b,off+j.toNat*e,none⟩))) w:=by
 unfold eSz at he
 split at he
 ·rename_i u hk
  split at he
  ·rename_i hok
   obtain rfl:=Option.some.inj he
   obtain ⟨_,d,_,hd,h2,_⟩:=ty_und hk (by simp)
   obtain rfl:=tk_sl h2
   obtain ⟨it,_,hit,_⟩:=ty_ok hok
   have hel:P.elem t=u:=by simp [Program.elem,hd]
   simp only [execOp,hop,hx,hi]
   rw [Sem.run_bind,run_indexAt_slice w t _ _ _ _ _ (by rw [hel]; exact hd),if_pos h0,hel,runs_sizeOf hit,Result.andThen_ok,addr_add,ty_size hok]
   rfl
  ·cases he
 ·cases he
theorem vLoad {t:TypeId} {x:Operand} {b off:Nat} (hop:o.op=.load t x) (hx:a.eval x=.pointer (some ⟨b,off,none⟩)) (ht:(ty P t).ok=true/\(ty P t).agg=false) (hc:w.cell? ⟨b,off,none⟩=some v) :
  (execOp a.eval o).run P w=.ok (.value v) w:=by
 obtain ⟨_,d,_,hd,h1,_⟩:=ty_ok ht.1
 have hr:=runs_loadVar_one (P:=P) hd (by rw [<- h1]; exact ht.2) hc
 simp only [execOp,hop,hx]
 first
  | (rw [Sem.run_bind,hr]; rfl)
  | (simp only [Instr.loadAt,Sem.run_bind,Instr.sureAddr,Sem.run_pure,Result.andThen_ok]; rw [hr]; rfl)
theorem vLen {c:Call} {t:TypeId} {x:Operand} {b:Option Addr} {n cc:Nat} (hop:o.op=.call c) (h1:c.callee=.builtin .len) (h2:c.args=#[x]) (h3:c.argTypes=#[t]) (ht:∃ e,(ty P t).k=.sl e) (hx:a.eval x=.slice b n cc) :
  (execOp a.eval o).run P w=.ok (.value (.int .i64 n)) w:=by
 obtain ⟨callee,args,argTypes⟩:=c
 dsimp only at h1 h2 h3
 subst h1; subst h2; subst h3
 obtain ⟨e,hk⟩:=ht
 obtain ⟨_,ud,_,u2,u3,_⟩:=ty_und hk (by simp)
 obtain rfl:=tk_sl u3
 simp [execOp,hop,resolve,invoke,builtin,Builtin.len_,run_underlying u2,hx,goInt]
theorem vLss {t:TypeId} {x y:Operand} {z:TypeId} {m n:Int} (hop:o.op=.binOp .lss t x y z) (hx:a.eval x=.int .i64 m) (hy:a.eval y=.int .i64 n) (hm:(Lit.int .i64 m).wf=true) (hn:(Lit.int .i64 n).wf=true) :
  (execOp a.eval o).run P w=.ok (.value (.bool (decide (m<n)))) w:=by
 obtain ⟨u,d,e1,e2,e3⟩:=binK_ok (P:=P) (w:=w) (H:=fun _ _=>none) (γ:=fun _=>.blk 0) (m:=[]) (op:=.lss) (t:=t) (xo:=x) (yo:=y) (x:=sc (.int .i64 m)) (y:=sc (.int .i64 n)) (k:=fun d=>d=sc (.bool (decide (m<n)))) ⟨rfl,rfl⟩
  (AR_mk_int hm) (AR_mk_int hn)
 subst e3
 simp only [execOp,hop,hx,hy]
 rw [Sem.run_bind,e1]
 obtain ⟨_,k,hk⟩:=e2
 have:u=.bool (decide (m<n)):=by cases k <;> exact hk
 rw [this]
 rfl
theorem vAdd {t:TypeId} {x y:Operand} {z:TypeId} {m n r:Int} (hop:o.op=.binOp .add t x y z) (hx:a.eval x=.int .i64 m) (hy:a.eval y=.int .i64 n) (hm:(Lit.int .i64 m).wf=true) (hn:(Lit.int .i64 n).wf=true) (hr:IntKind.i64.wrap (m+n)=r) :
  (execOp a.eval o).run P w=.ok (.value (.int .i64 r)) w:=by
 obtain ⟨u,d,e1,e2,e3⟩:=binK_ok (P:=P) (w:=w) (H:=fun _ _=>none) (γ:=fun _=>.blk 0) (m:=[]) (op:=.add) (t:=t) (xo:=x) (yo:=y) (x:=sc (.int .i64 m)) (y:=sc (.int .i64 n)) (k:=fun d=>d=sc (.int .i64 (IntKind.i64.wrap (m+n)))) ⟨rfl,rfl⟩
  (AR_mk_int hm) (AR_mk_int hn)
 subst e3
 simp only [execOp,hop,hx,hy]
 rw [Sem.run_bind,e1]
 obtain ⟨_,k,hk⟩:=e2
 have:u=.int .i64 (IntKind.i64.wrap (m+n)):=by cases k <;> exact hk.1
 rw [this,hr]
 rfl
theorem wpVst {t:TypeId} {x y:Operand} {b off:Nat} {z:Value} (hg:o.guard=none) (ho:o.dst=none) (hop:o.op=.store t x y) (hx:a.eval x=.pointer (some ⟨b,off,none⟩)) (hy:a.eval y=v) (ht:(ty P t).ok=true/\(ty P t).size=1) (hv:oneC v=true)
  (hc:w.cell? ⟨b,off,none⟩=some z) (hf:w.frozen? ⟨b,off,none⟩=false) (h:wpList P all Q rest a (w.setCell ⟨b,off,none⟩ v)):wpList P all Q (o::rest) a w:=
 wpList_plain hg fun K hK=>by
  obtain ⟨it,_,hit,_⟩:=ty_ok ht.1
  have hsz:P.cellsOf t=1:=by rw [<- ty_size ht.1,ht.2]
  have hcells:v.cells=#[v]:=by cases v <;> first | rfl | (simp [oneC] at hv)
  have hr:(execOp a.eval o).run P w=.ok .skip (w.setCell ⟨b,off,none⟩ v):=by
   simp only [execOp,hop,hx,hy]
   simp only [Instr.storeAt,Instr.sureAddr,Sem.run_bind,Sem.run_pure,Result.andThen_ok,storeVar,runs_sizeOf hit]
   rw [if_neg (by rw [hcells,hsz]; simp),hcells]
   simp only [storeCells,Sem.run_bind,addr_add]
   rw [Nat.add_zero,run_store1 hv hc hf]
   rfl
  unfold Oper.wp
  rw [hr]
  exact hK _ _ (by rw [ho]; exact h)
theorem wp_for {c:Code} {I:Nat->Act->World->Prop} {N i0:Nat} (h0:I i0 a w) (hle:i0<=N)
  (round:∀ i a w,i<=N->I i a w->c.wp P (fun e a' w'=>match e with | .normal=>i<N/\I (i+1) a' w' | e=>Q e a' w') a w):(Code.loop c).wp P Q a w:=by
 let p:Act->World->Nat->Prop:=fun a w n=>∃ i,i<=N/\N-i=n/\I i a w
 have hmin:∀ a w,(∃ n,p a w n)->∃ n,p a w n/\∀ m,m<n->¬ p a w m:=fun a w h=>least h
 let μ:Act->World->Nat:=fun a w=>by
  classical
  exact if h:∃ n,p a w n then Classical.choose (hmin a w h) else 0
 have hμ:∀ a w (h:∃ n,p a w n),p a w (μ a w)/\∀ m,m<μ a w->¬ p a w m:=by
  intro a w h
  have:μ a w=Classical.choose (hmin a w h):=by simp only [μ]; rw [dif_pos h]
  rw [this]
  exact Classical.choose_spec (hmin a w h)
 refine wp_loop (fun a w=>∃ n,p a w n) μ ⟨_,i0,hle,rfl,h0⟩ (fun a w hI=>?_)
 obtain ⟨⟨i,hi,hin,h2⟩,_⟩:=hμ a w hI
 refine Code.wp_mono (fun e a' w' hl=>?_) (round i a w hi h2)
 cases e with
 | normal=>
  obtain ⟨hlt,k2⟩:=hl
  have hI':∃ n,p a' w' n:=⟨_,i+1,hlt,rfl,k2⟩
  refine ⟨hI',?_⟩
  rcases Nat.lt_or_ge (μ a' w') (μ a w) with h | h
  ·exact h
  ·exact absurd ⟨i+1,hlt,rfl,k2⟩ ((hμ a' w' hI').2 (N - (i+1)) (by omega))
 | _=>exact hl
theorem wp_reg {R:Code} {id:Nat} {l:List Oper} (h:R=.region id l.toArray false) (hw:wpList P l.toArray Q l a w):R.wp P Q a w:=by
 rw [h]; exact wp_region_lit hw
theorem wp_sq {R x y:Code} (h:R=.seq x y) (hw:x.wp P (fun e a w=>match e with | .normal=>y.wp P Q a w | e=>Q e a w) a w):R.wp P Q a w:=by
 rw [h]
 refine wp_seq (Code.wp_mono (fun e a w hl=>?_) hw)
 cases e <;> exact hl
theorem wp_bk {R c:Code} {id:Nat} (h:R=.block id c) (hw:c.wp P (fun e a w=>match e with | .exit i=>if i=id then Q .normal a w else Q (.exit i) a w | e=>Q e a w) a w):R.wp P Q a w:=by
 rw [h]
 refine wp_block (Code.wp_mono (fun e a w hl=>?_) hw)
 cases e with
 | exit i=>simp only [Exit.inBlock]; split <;> simp_all
 | _=>exact hl
end
def kpL:Code->Code
 | .seq x _=>x
 | .cond _ x _=>x
 | _=>.skip
def kpR:Code->Code
 | .seq _ x=>x
 | .cond _ _ x=>x
 | _=>.skip
def kpB:Code->Code
 | .block _ x=>x
 | .loop x=>x
 | _=>.skip
def kpO:Code->List Oper
 | .region _ l _=>l.toList
 | _=>[]
def opN (R:Code) (i:Nat):Oper:=(kpO R).getD i ⟨none,.move (.tmp 0),0, "",#[],none⟩
structure Wd (H:FH) (G:Nat->Prop) (w2 w:World):Prop where
 size:w.heap.size=w2.heap.size
 os:w.os=w2.os
 tape:w.tape=w2.tape
 output:w.output=w2.output
 old:∀ b,¬ G b->w.heap[b]? = w2.heap[b]?
 cell:∀ b o y,H b o=some y->(∀ l,y≠.string l)->w.cell? ⟨b,o,none⟩=some y
 str:∀ b o l,H b o=some (.string l)->∃ l',w.cell? ⟨b,o,none⟩=some (.string l')
 thaw:∀ b,G b->Thawed w b
theorem frozen_thawed {w:World} {b o:Nat} (h:Thawed w b):w.frozen? ⟨b,o,none⟩=false:=by
 obtain ⟨cs,ty,h⟩:=h
 simp [World.frozen?,h]
theorem cell_setCell {w:World} {b o b' o':Nat} {v z:Value} (hz:w.cell? ⟨b,o,none⟩=some z):(w.setCell ⟨b,o,none⟩ v).cell? ⟨b',o',none⟩=if b'=b/\o'=o then some v else w.cell? ⟨b',o',none⟩:=by
 by_cases hb:b'=b
 ·subst hb
  simp only [World.cell?,Option.isSome_none,Bool.false_eq_true,if_false] at hz ⊢
  cases hh:w.heap[b']? with
  | none=>rw [hh] at hz; cases hz
  | some ob=>
   rw [hh] at hz
   cases ob with
   | cells cs ty fz=>
    rw [heap_setCell hh]
    dsimp only at hz ⊢
    rw [Array.getElem?_setIfInBounds]
    by_cases ho:o=o'
    ·subst ho
     rw [if_pos rfl,if_pos (Array.getElem?_eq_some_iff.1 hz).1,if_pos ⟨trivial,rfl⟩]
    ·rw [if_neg ho,if_neg (fun e=>ho e.2.symm)]
   | _=>cases hz
 ·rw [if_neg (fun e=>hb e.1)]
  exact cell?_of_heap (heap_setCell_ne hb)
theorem Wd.store {H:FH} {G:Nat->Prop} {w2 w:World} (h:Wd H G w2 w) {b o:Nat} {l l':ByteArray} (hH:H b o=some (.string l)) (hG:G b):Wd H G w2 (w.setCell ⟨b,o,none⟩ (.string l')):=by
 obtain ⟨z,hz⟩:=h.str b o l hH
 refine ⟨by rw [World.size_setCell]; exact h.size,h.os,h.tape,h.output,fun c hc=>?_,fun c q y hy hn=>?_,fun c q y hy=>?_,fun c hc=>(h.thaw c hc).setCell⟩
 ·rw [heap_setCell_ne (fun e=>hc (by rw [e]; exact hG))]; exact h.old c hc
 ·rw [cell_setCell hz]
  split
  ·rename_i e
   rw [e.1,e.2,hH] at hy
   exact absurd (Option.some.inj hy).symm (hn l)
  ·exact h.cell c q y hy hn
 ·rw [cell_setCell hz]
  split
  ·exact ⟨_,rfl⟩
  ·exact h.str c q y hy
theorem wf_nat {n:Nat} (h:n<=BIG):(Lit.int .i64 (n:Int)).wf=true:=wf_len h
theorem wrap_suc {n:Nat} (h:n<BIG):IntKind.i64.wrap ((n:Int)+1)=((n+1:Nat):Int):=by
 have h3:BIG=4611686018427387904:=rfl
 rw [h3] at h
 rw [IntKind.wrap_i64]; omega
end Go.Am
end
