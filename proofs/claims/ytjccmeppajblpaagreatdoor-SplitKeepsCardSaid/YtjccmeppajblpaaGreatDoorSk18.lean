/-
  Part 18: AmRd · AmCl17 · AmCl18 · AmKG · AmPk2.
-/
import Derived.Test.YtjccmeppajblpaaGreatDoorSk17
import Derived.MapFrom
set_option linter.unusedSimpArgs false
set_option linter.unusedVariables false
set_option linter.unusedSectionVars false
set_option linter.unnecessarySimpa false
section
namespace Go.Am
open Go Go.RowKit Go.Proofs Go.MapKept
def pickF (w:List UInt8) (df:Nat):List (List UInt8×Nat)->Nat
 | []=>df
 | (w0,f)::r=>if decide (w=w0)=true then f else pickF w df r
theorem swP_pick (w:List UInt8) (K:Nat->Prop) (df:Nat):∀ tab,swP w K df tab=K (pickF w df tab)
 | []=>rfl
 | (w0,f)::r=>by
  rw [swP,pickF,swP_pick w K df r]
  split <;> rfl
section
variable {P:Program}
theorem upon_ins {o:Oper} {a:Act} {next:Act->World->Prop} {Q:Exit->Act->World->Prop} {mt kt et:TypeId} {r:Nat} {es:Array MapEntry} {clock:Nat} {k:ByteArray} {v:Value} {w:World}
  (hm:P.underlying mt=some (.map kt et)) (hd:P.underlying kt=some .string) (hb:w.heap[r]? = some (.map es clock)) (hf:Instr.findNow .string (.string k) es.toList 0=some none)
  (h:∀ w2,w2.heap[r]? = some (.map (es.push { key:=.string k,val:=v,born:=clock }) (clock+1))->Below r w w2->next (a.put o.dst undef) w2) :
  o.upon P a next Q (((Instr.mapUpdate mt (.map (some r)) (.string k) v).run P w).andThen fun _ w'=>.ok Next.skip w'):=by
 have hrun:(Instr.mapUpdate mt (.map (some r)) (.string k) v).run P w=.ok () { w with heap:=w.heap.setIfInBounds r (.map (es.push { key:=.string k,val:=v,born:=clock }) (clock+1)) }:=by
  simp [Instr.mapUpdate,run_underlying hm,MapKept.run_getObj_map hb,run_checkKey hd (k:=.string k) trivial,run_findKey hd hf,run_setObj_map _ hb,Result.andThen]
 rw [hrun]
 exact h _ (heap_set hb).1 ⟨rfl,rfl,rfl,by simp,fun j hj=>(heap_set hb).2 j (by omega)⟩
theorem find_tab (s:ByteArray):∀ (es:List MapEntry) (tab:List (List UInt8×Nat)) (i:Nat),es.map (fun e=>(e.key,e.val))=tab.map (fun x=>(Value.string ⟨x.1.toArray⟩,Value.func (.func x.2) #[] #[])) ->
  (∃ x∈tab,(∃ j,Instr.findNow .string (.string s) es i=some (some (j,.func (.func x.2) #[] #[])))/\∀ df,pickF s.data.toList df tab=x.2)\/(Instr.findNow .string (.string s) es i=some none/\∀ df,pickF s.data.toList df tab=df)
 | [],[],i,_=>.inr ⟨rfl,fun _=>rfl⟩
 | [],_::_,i,h=>by simp at h
 | _::_,[],i,h=>by simp at h
 | e::es,(k,f)::tab,i,h=>by
  obtain ⟨ek,ev,eb⟩:=e
  simp only [List.map_cons,List.cons.injEq,Prod.mk.injEq] at h
  obtain ⟨⟨rfl,rfl⟩,h⟩:=h
  unfold Instr.findNow
  simp only [Instr.sameNow]
  by_cases hc:s=⟨k.toArray⟩
  ·have e1:(s==⟨k.toArray⟩)=true:=(bytes_beq _ _).2 hc
   rw [e1]
   refine .inl ⟨(k,f),by simp,⟨i,rfl⟩,fun df=>?_⟩
   have:s.data.toList=k:=by rw [hc]
   rw [pickF,if_pos (by simp [this])]
  ·have e1:(s==⟨k.toArray⟩)=false:=by
    rw [Bool.eq_false_iff]; exact fun e=>hc ((bytes_beq _ _).1 e)
   rw [e1]
   have n1:¬ s.data.toList=k:=by
    rintro rfl
    exact hc (by obtain ⟨x⟩:=s; simp)
   rcases find_tab s es tab (i+1) h with ⟨x,hx,hj,hp⟩ | ⟨h1,h2⟩
   ·exact .inl ⟨x,by simp [hx],hj,fun df=>by rw [pickF,if_neg (by simpa using n1)]; exact hp df⟩
   ·exact .inr ⟨h1,fun df=>by rw [pickF,if_neg (by simpa using n1)]; exact h2 df⟩
theorem run_look {mt kt et:TypeId} {r:Nat} {es:Array MapEntry} {clock:Nat} {s:ByteArray} {w:World} (hm:P.underlying mt=some (.map kt et)) (hd:P.underlying kt=some .string) (hz:(zeroValue et).run P w=.ok .nilFunc w)
  (hb:w.heap[r]? = some (.map es clock)) {x:Option (Nat×Value)} (hf:Instr.findNow .string (.string s) es.toList 0=some x) :
  (Instr.lookup mt (.map (some r)) (.string s) false).run P w=.ok (match x with | some (_,v)=>v | none=>.nilFunc) w:=by
 cases x with
 | none=>simp [Instr.lookup,run_underlying hm,MapKept.run_getObj_map hb,run_checkKey hd (k:=.string s) trivial,run_findKey hd hf,hz,Result.andThen]
 | some y=>obtain ⟨j,v⟩:=y; simp [Instr.lookup,run_underlying hm,MapKept.run_getObj_map hb,run_checkKey hd (k:=.string s) trivial,run_findKey hd hf,Result.andThen]
end
theorem eq_func {P:Program} {t:TypeId} {ps rs:Array TypeId} {va:Bool} {f:Fn} {a b:Array Value} (h:P.underlying t=some (.func ps rs va)) (w:World):(Op.equal t (.func f a b) .nilFunc).run P w=.ok false w:=by
 unfold Op.equal Op.maxDepth
 rw [show (10000:Nat)=9999+1 from rfl]
 unfold Op.equalIn
 simp only [Sem.run_bind,run_underlying h,Result.andThen]
 rfl
theorem eq_nilFunc {P:Program} {t:TypeId} {ps rs:Array TypeId} {va:Bool} (h:P.underlying t=some (.func ps rs va)) (w:World):(Op.equal t .nilFunc .nilFunc).run P w=.ok true w:=by
 unfold Op.equal Op.maxDepth
 rw [show (10000:Nat)=9999+1 from rfl]
 unfold Op.equalIn
 simp only [Sem.run_bind,run_underlying h,Result.andThen]
 rfl
theorem neq_func {P:Program} {t:TypeId} {ps rs:Array TypeId} {va:Bool} {f:Fn} {a b:Array Value} (h:P.underlying t=some (.func ps rs va)) (w:World):(binOp .neq t (.func f a b) .nilFunc).run P w=.ok (.bool true) w:=by
 show (do pure (.bool (!(<- Op.equal t (.func f a b) .nilFunc))):Sem Value).run P w=_
 simp only [Sem.run_bind,eq_func h,Result.andThen]
 rfl
theorem neq_nilFunc {P:Program} {t:TypeId} {ps rs:Array TypeId} {va:Bool} (h:P.underlying t=some (.func ps rs va)) (w:World):(binOp .neq t .nilFunc .nilFunc).run P w=.ok (.bool false) w:=by
 show (do pure (.bool (!(<- Op.equal t .nilFunc .nilFunc))):Sem Value).run P w=_
 simp only [Sem.run_bind,eq_nilFunc h,Result.andThen]
 rfl
theorem abs_es {es0:Array MapEntry} {c0:Nat} {f:Option Obj} (hb:f=some (.map es0 c0)) {L:List (Value×Value)} (he:es0.toList.map (fun e=>(e.key,e.val))=L):∃ es c,f=some (.map es c)/\es.toList.map (fun e=>(e.key,e.val))=L:=⟨es0,c0,hb,he⟩
def rTab:List (List UInt8×Nat):=[([115,115,97],75),([99,108,97,115,115],76),([102,105,101,108,100],77),([103,108,111,98,97,108],78),([101,120,116,101,114,110],79),([102,117,110,99],80),([112,97,114,97,109],81),([118,97,114],82),([98,108,111,99,107],83),([112,104,105],84),([97,116],85),([111,98,106],86),([106,117,109,112],87),([98,114,97,110,99,104],87),([114,101,116],87),([116,114,97,112],87)]
set_option maxRecDepth 100000 in
theorem readers_walk (s:ByteArray) (w:World) :
  Calls Tryz.prog 61 #[.string s] w fun e w'=>e=.returned (.func (.func (pickF s.data.toList 62 rTab)) #[] #[])/\Below w.heap.size w w':=by
 have hmm:=@run_makeMap Tryz.prog
 have hm:=Tryz.underlying157
 have hd:=Tryz.underlying9
 have hz:∀ w,(zeroValue 143).run Tryz.prog w=.ok .nilFunc w:=Tryz.zeroValue143
 have hb:(w.alloc (.map #[] 0)).heap[w.heap.size]? = some (.map #[] 0):=(heap_alloc w _).1
 have hB:Below w.heap.size w (w.alloc (.map #[] 0)):=(Below.refl _ w).alloc (Nat.le_refl _) _
 go_enter Tryz.func61,Tryz.ntmps61
 go_wp2
 iterate 16
  refine upon_ins hm hd hb (by kernel_rfl) (fun w2 hb2 hB2=>?_)
  replace hB:=hB.trans hB2
  replace hb:=hb2
  clear hB2 hb2
  go_wp2
 obtain ⟨es,c,hb,he⟩:=abs_es hb (L:=rTab.map (fun x=>(Value.string ⟨x.1.toArray⟩,Value.func (.func x.2) #[] #[]))) (by kernel_rfl)
 rcases find_tab s es.toList rTab 0 he with ⟨x,hx,⟨j,hj⟩,hp⟩ | ⟨h1,hp⟩
 ·rw [run_look hm hd (hz _) hb hj]
  simp only [Result.andThen]
  rw [Oper.upon_value]
  go_wp2
  rw [neq_func Tryz.underlying143]
  simp only [Result.andThen]
  rw [Oper.upon_value]
  go_wp2
  go_ret
  exact ⟨by rw [hp]; rfl,hB⟩
 ·rw [run_look hm hd (hz _) hb h1]
  simp only [Result.andThen]
  rw [Oper.upon_value]
  go_wp2
  rw [neq_nilFunc Tryz.underlying143]
  simp only [Result.andThen]
  rw [Oper.upon_value]
  go_wp2
  go_ret
  exact ⟨by rw [hp]; rfl,hB⟩
theorem canA_s {v:At} {x:List UInt8} (h:canAs [.s] [v]=some x):v.noRf=true/\v.toV.isFz=true/\v.toV.map T.canon=.one (.c (.d (.str x))):=by
 obtain ⟨h1,h2,h3⟩:=canAs_ok h
 refine ⟨by simpa using h1,by simpa using h2,?_⟩
 have:[v.toV.map T.canon]=[AV.one (.c (.d (.str x)))]:=h3
 simpa using this
def C_yReaders:CKt:=swT rTab 62
theorem c_yReaders:Cont Tryz.prog 61 C_yReaders:=by
 refine ⟨run_fn2 (fn:=Tryz.f61) (by kernel_rfl) (by kernel_rfl) (by kernel_rfl),fun pk s ops k k' hk hc=>?_,fun g pk s a w H γ F1 ops k hX hops hc=>?_⟩
 ·unfold C_yReaders swT at hc ⊢
  dsimp only at hc ⊢
  split at hc
  ·rw [swP_pick] at hc ⊢
   exact hk _ _ (Ext_frzAts _ _) hc
  ·exact hc.elim
 ·unfold C_yReaders swT at hc
  dsimp only at hc
  obtain ⟨H1,F2,h1⟩:=RXt_frzAts (ops.map (evA s)) s H F1 hX
  generalize frzAts s (ops.map (evA s))=s1 at hc h1
  split at hc
  ·rename_i x hx
   rw [swP_pick] at hc
   match ops,hx with
   | [],hx=>simp [canAs] at hx
   | [o],hx=>
    obtain ⟨_,hz,hcn⟩:=canA_s hx
    have hop:okOp o=true:=by simpa using hops
    have hv:=ev_ok h1 hop
    rw [evA_toV hop] at hv
    have hv2:=AR_map TR_canon (AR_fz (w':=w) (γ':=γ) (m':=[]) (fun _ _ _ h=>h) hz hv)
    rw [hcn] at hv2
    obtain ⟨e1,_⟩:=AR_text hv2
    show Calls _ _ #[a.eval o] w _
    rw [e1]
    refine (readers_walk ⟨x.toArray⟩ w).mono ?_
    rintro e w' ⟨rfl,hb⟩
    rw [bs_list]
    have hsame:∀ b,tot F2 s1.toS.m b≠0->w'.heap[b]? = w.heap[b]? := fun b hb'=>hb.block b (h1.mem.lt b hb')
    have hKp:=Keeps_grow (w':=w') h1.mem hsame
    have hmem:Mem w' H1 γ s1.toS.m F2:=by
     refine ⟨fun b o y hy=>?_,fun x hx=>RootR_keeps hKp (fun _ _ _ h=>h) rfl (fun b hb'=>hsame b (by have:=tot_ge (F:=F2) hx b; omega)) (h1.mem.roots x hx),h1.mem.keys,h1.mem.le1,fun b hb'=>by have:=h1.mem.lt b hb'; have:=hb.size; omega,h1.mem.nofz⟩
     have hlt:b<w.heap.size:=World.block_lt_of_cell? _ _ (h1.mem.agree b o y hy)
     rw [hb.cell hlt]
     exact h1.mem.agree b o y hy
    have hFr:Fr w H1 (tot F2 s1.toS.m) w' H1 (tot F2 s1.toS.m):=
     ⟨hb.size,hb.os,hb.tape,hb.output,fun b hb' _=>hb.block b hb',fun _ _ _ h=>h,fun b o h2 h3=>absurd h3 h2,fun b hb=>.inl hb,fun b h0=>h0.of_block (hb.block b h0.lt),nz_refl.2⟩
    exact .inl ⟨_,s1,sct (.v (.func (.func (pickF x 62 rTab)) #[] #[])),H1,γ,F2,rfl,hc,⟨fun _=>rfl,0,rfl,rfl⟩,RX_step h1 hmem hFr (fun i=>AR_keeps hKp (fun _ _ _ h=>h) (h1.t i)) (fun _=>rfl)⟩
   | _::_::_,hx=>simp [canAs] at hx
  ·exact hc.elim
end Go.Am
end

section
namespace Go.Am
open Go Go.Proofs
set_option maxRecDepth 100000
def eU:Ut:=[(113,(.st .Var)),(43,(.st .Block)),(25,(.st .Func)),(62,(.st .Class)),(64,(.st .Extern)),(46,(.st .Phi)),(72,(.st .Instr)),(9,.s),(48,(.st .In)),(55,(.st .Pair)),(5,.b8),(38,(.st .Arg)),(124,(.st .Frame)),(128,(.st .Virt)),(80,(.st .way)),(4,.bo),(104,(.st .Line)),(126,(.st .Bind)),(22,(.sl (.st .Var))),(133,(.sl (.i .i64))),(3,(.i .i64))]
def eS:List (TypeId×List Sh):=[(25,[.fr,.fr,.ow [.fr,.fr],.ow [.fr,.fr],.ow [.fr,.ow [.fr,.fr],.ow [.fr,.fr,.fr,.fr,.ow [.fr,.fr,.fr,.fr],.ow [.fr,.fr]],.fr,.fr,.fr,.fr,.fr,.fr]]),(32,[.fr,.ow [.fr,.ow [.fr,.fr]],.ow [.fr,.fr],.ow [.fr,.fr],.ow [.fr,.fr,.ow [.fr,.fr],.ow [.fr,.fr],.ow [.fr,.ow [.fr,.fr],.ow [.fr,.fr,.fr,.fr,.ow [.fr,.fr,.fr,.fr],.ow [.fr,.fr]],.fr,.fr,.fr,.fr,.fr,.fr]]]),(43,[.fr,.ow [.fr,.fr],.ow [.fr,.fr,.fr,.fr,.ow [.fr,.fr,.fr,.fr],.ow [.fr,.fr]],.fr,.fr,.fr,.fr,.fr,.fr]),(62,[.fr,.ow [.fr,.fr]]),(72,[.fr,.fr,.fr,.fr,.ow [.fr,.fr,.fr,.fr],.ow [.fr,.fr]]),(98,[.fr,.ow [.fr,.ow [.fr,.fr]],.ow [.fr,.fr],.ow [.fr,.fr],.ow [.fr,.fr,.ow [.fr,.fr],.ow [.fr,.fr],.ow [.fr,.ow [.fr,.fr],.ow [.fr,.fr,.fr,.fr,.ow [.fr,.fr,.fr,.fr],.ow [.fr,.fr]],.fr,.fr,.fr,.fr,.fr,.fr]],.fr,.fr,.fr,.fr]),(99,[.fr,.ow [.fr,.ow [.fr,.fr]],.ow [.fr,.fr],.ow [.fr,.fr],.ow [.fr,.fr,.ow [.fr,.fr],.ow [.fr,.fr],.ow [.fr,.ow [.fr,.fr],.ow [.fr,.fr,.fr,.fr,.ow [.fr,.fr,.fr,.fr],.ow [.fr,.fr]],.fr,.fr,.fr,.fr,.fr,.fr]],.fr,.fr,.fr,.fr])]
abbrev eP:List (TypeId×List Sh):=[(133,[.ow [.fr]])]
theorem numPut_pre (x:Int) (h:(decide (-9223372036854775808<=x)&&decide (x<=9223372036854775807))=true):Lt.preNum x:=by
 simp only [Bool.and_eq_true,decide_eq_true_eq] at h
 unfold Lt.preNum Lt.inR
 omega
abbrev shR:List Sh:=[.fr,.ow [.fr,.ow [.fr,.fr]],.ow [.fr,.fr],.ow [.fr,.fr],.ow [.fr,.fr,.ow [.fr,.fr],.ow [.fr,.fr],.ow [.fr,.ow [.fr,.fr],.ow [.fr,.fr,.fr,.fr,.ow [.fr,.fr,.fr,.fr],.ow [.fr,.fr]],.fr,.fr,.fr,.fr,.fr,.fr]],.fr,.fr,.fr,.fr]
noncomputable def x58:Cl 58:=⟨fnB [.s,.s] [.sl .s] (fun x=>decide (x.1.length < 4294967281)&&decide (1<=x.2.length)) (fun x=>Lt.gSplit x.1 x.2),_,fnB_ck (fun x h=>by simp only [Bool.and_eq_true,decide_eq_true_eq] at h; exact h),c_gSplit⟩
noncomputable def x59:Cl 59:=⟨fnB [.s,.s] [.s,.s,.bo] (fun x=>decide (x.1.length < 4294967281)) (fun x=>Lt.gCut x.1 x.2),_,fnB_ck (fun x h=>of_decide_eq_true h),c_gCut⟩
noncomputable def x74:Cl 74:=clL eU eP [] 80 Tryz.f74 [.b8] [.bo] (by kernel_rfl) (by kernel_rfl)
noncomputable def x60:Cl 60:=clP eU eP [⟨_,x74⟩] 80 Tryz.f60 [.s] [(.sl .s),.bo] (by kernel_rfl) (by kernel_rfl)
noncomputable def x36:Cl 36:=clP eU eP [⟨_,x58⟩,⟨_,x59⟩,⟨_,x60⟩] 80 Tryz.f36 [.s] [(.sl (.st .Line)),(.i .i64),(.i .i64)] (by kernel_rfl) (by kernel_rfl)
noncomputable def x63:Cl 63:=clN eU eS [] 80 Tryz.f63 (by kernel_rfl) (by kernel_rfl)
noncomputable def x75:Cl 75:=clM eU eS [⟨_,x63⟩] 80 Tryz.f75 [(.sl .s)] [] shR (.st .Reader) (by kernel_rfl) (by kernel_rfl)
noncomputable def x64:Cl 64:=clL eU eS [] 80 Tryz.f64 [(.sl (.i .i64)),(.i .i64)] [.bo] (by kernel_rfl) (by kernel_rfl)
noncomputable def x39:Cl 39:=clN eU eS [⟨_,x64⟩,⟨_,x63⟩] 80 Tryz.f39 (by kernel_rfl) (by kernel_rfl)
noncomputable def x120:Cl 120:=clL eU eP [] 80 Tryz.f120 [.b8] [.bo] (by kernel_rfl) (by kernel_rfl)
noncomputable def x121:Cl 121:=clL eU eP [] 80 Tryz.f121 [.s] [.bo] (by kernel_rfl) (by kernel_rfl)
noncomputable def x122:Cl 122:=clL eU eP [] 80 Tryz.f122 [.b8] [.bo] (by kernel_rfl) (by kernel_rfl)
noncomputable def x110:Cl 110:=clL eU eP [⟨_,x120⟩,⟨_,x121⟩,⟨_,x122⟩] 80 Tryz.f110 [.s] [.bo] (by kernel_rfl) (by kernel_rfl)
noncomputable def x88:Cl 88:=clL eU eS [⟨_,x110⟩,⟨_,x63⟩] 80 Tryz.f88 [.s] [.s] (by kernel_rfl) (by kernel_rfl)
noncomputable def x102:Cl 102:=clN eU eS [] 80 Tryz.f102 (by kernel_rfl) (by kernel_rfl)
noncomputable def x76:Cl 76:=clM eU eS [⟨_,x39⟩,⟨_,x63⟩,⟨_,x88⟩,⟨_,x102⟩] 80 Tryz.f76 [(.sl .s)] [] shR (.st .Reader) (by kernel_rfl) (by kernel_rfl)
noncomputable def x103:Cl 103:=clL eU eS [⟨_,x110⟩,⟨_,x63⟩] 80 Tryz.f103 [.s] [.s] (by kernel_rfl) (by kernel_rfl)
noncomputable def x77:Cl 77:=clM eU eS [⟨_,x39⟩,⟨_,x63⟩,⟨_,x88⟩,⟨_,x103⟩,⟨_,x102⟩] 80 Tryz.f77 [(.sl .s)] [] shR (.st .Reader) (by kernel_rfl) (by kernel_rfl)
noncomputable def x78:Cl 78:=clM eU eS [⟨_,x39⟩,⟨_,x63⟩,⟨_,x88⟩,⟨_,x103⟩,⟨_,x102⟩] 80 Tryz.f78 [(.sl .s)] [] shR (.st .Reader) (by kernel_rfl) (by kernel_rfl)
noncomputable def x56:Cl 56:=clF [.i .i64] [.s] Lt.numPut (fun x=>decide (-9223372036854775808<=x)&&decide (x<=9223372036854775807)) (fun x h=>numPut_pre x h) c_numPut
noncomputable def x109:Cl 109:=clL eU eP [⟨_,x56⟩] 80 Tryz.f109 [.s] [(.i .i64),.bo] (by kernel_rfl) (by kernel_rfl)
noncomputable def x104:Cl 104:=clL eU eS [⟨_,x109⟩,⟨_,x63⟩] 80 Tryz.f104 [.s,(.i .i64),(.i .i64)] [(.i .i64)] (by kernel_rfl) (by kernel_rfl)
noncomputable def x79:Cl 79:=clM eU eS [⟨_,x39⟩,⟨_,x63⟩,⟨_,x88⟩,⟨_,x104⟩,⟨_,x102⟩] 80 Tryz.f79 [(.sl .s)] [] shR (.st .Reader) (by kernel_rfl) (by kernel_rfl)
noncomputable def x80:Cl 80:=clM eU eS [⟨_,x39⟩,⟨_,x63⟩,⟨_,x88⟩,⟨_,x103⟩,⟨_,x102⟩] 80 Tryz.f80 [(.sl .s)] [] shR (.st .Reader) (by kernel_rfl) (by kernel_rfl)
noncomputable def x105:Cl 105:=clN eU eS [] 80 Tryz.f105 (by kernel_rfl) (by kernel_rfl)
noncomputable def x81:Cl 81:=clM eU eS [⟨_,x39⟩,⟨_,x63⟩,⟨_,x88⟩,⟨_,x103⟩,⟨_,x105⟩,⟨_,x102⟩] 80 Tryz.f81 [(.sl .s)] [] shR (.st .Reader) (by kernel_rfl) (by kernel_rfl)
noncomputable def x82:Cl 82:=clM eU eS [⟨_,x39⟩,⟨_,x63⟩,⟨_,x88⟩,⟨_,x103⟩,⟨_,x105⟩,⟨_,x102⟩] 80 Tryz.f82 [(.sl .s)] [] shR (.st .Reader) (by kernel_rfl) (by kernel_rfl)
noncomputable def x106:Cl 106:=clN eU eS [] 80 Tryz.f106 (by kernel_rfl) (by kernel_rfl)
noncomputable def x83:Cl 83:=clM eU eS [⟨_,x106⟩,⟨_,x63⟩,⟨_,x88⟩,⟨_,x105⟩,⟨_,x102⟩] 80 Tryz.f83 [(.sl .s)] [] shR (.st .Reader) (by kernel_rfl) (by kernel_rfl)
noncomputable def x128:Cl 128:=⟨fnB [.s,.s] [.s,.bo] (fun _=>true) (fun x=>Lt.gCutP x.1 x.2),_,fn0_ck,c_gCutP⟩
noncomputable def x129:Cl 129:=⟨fnB [.s,.b8] [.i .i64] (fun _=>true) (fun x=>Lt.gIndex x.1 x.2),_,fn0_ck,c_gIndex⟩
noncomputable def x130:Cl 130:=clL eU eP [] 80 Tryz.f130 [(.i .i64)] [(.i .i64)] (by kernel_rfl) (by kernel_rfl)
noncomputable def x127:Cl 127:=clL eU eP [⟨_,x128⟩,⟨_,x129⟩,⟨_,x130⟩] 80 Tryz.f127 [.s] [(.i .i64),.bo] (by kernel_rfl) (by kernel_rfl)
noncomputable def x126:Cl 126:=clP eU eP [⟨_,x127⟩,⟨_,x109⟩] 80 Tryz.f126 [.s] [(.st .Arg),.bo] (by kernel_rfl) (by kernel_rfl)
noncomputable def x119:Cl 119:=clP eU eP [⟨_,x110⟩,⟨_,x109⟩,⟨_,x126⟩] 80 Tryz.f119 [.s] [(.st .Arg),.bo] (by kernel_rfl) (by kernel_rfl)
noncomputable def x107:Cl 107:=clP eU eS [⟨_,x119⟩,⟨_,x63⟩] 80 Tryz.f107 [.s,.bo] [(.st .Arg)] (by kernel_rfl) (by kernel_rfl)
noncomputable def x92:Cl 92:=clN eU eS [⟨_,x102⟩] 80 Tryz.f92 (by kernel_rfl) (by kernel_rfl)
noncomputable def x93:Cl 93:=clN eU eS [⟨_,x105⟩] 80 Tryz.f93 (by kernel_rfl) (by kernel_rfl)
noncomputable def x84:Cl 84:=clM eU eS [⟨_,x39⟩,⟨_,x63⟩,⟨_,x88⟩,⟨_,x107⟩,⟨_,x102⟩,⟨_,x92⟩,⟨_,x93⟩] 80 Tryz.f84 [(.sl .s)] [] shR (.st .Reader) (by kernel_rfl) (by kernel_rfl)
noncomputable def x108:Cl 108:=clN eU eS [⟨_,x93⟩] 80 Tryz.f108 (by kernel_rfl) (by kernel_rfl)
noncomputable def x85:Cl 85:=clM eU eS [⟨_,x39⟩,⟨_,x63⟩,⟨_,x88⟩,⟨_,x104⟩,⟨_,x107⟩,⟨_,x102⟩,⟨_,x108⟩] 80 Tryz.f85 [(.sl .s)] [] shR (.st .Reader) (by kernel_rfl) (by kernel_rfl)
noncomputable def x91:Cl 91:=clP eU eS [⟨_,x107⟩] 80 Tryz.f91 [(.sl .s),.bo] [(.sl (.st .Arg))] (by kernel_rfl) (by kernel_rfl)
noncomputable def x86:Cl 86:=clM eU eS [⟨_,x39⟩,⟨_,x63⟩,⟨_,x88⟩,⟨_,x91⟩,⟨_,x108⟩,⟨_,x102⟩] 80 Tryz.f86 [(.sl .s)] [] shR (.st .Reader) (by kernel_rfl) (by kernel_rfl)
noncomputable def x87:Cl 87:=clM eU eS [⟨_,x39⟩,⟨_,x63⟩,⟨_,x88⟩,⟨_,x107⟩,⟨_,x109⟩,⟨_,x93⟩] 80 Tryz.f87 [(.sl .s)] [] shR (.st .Reader) (by kernel_rfl) (by kernel_rfl)
noncomputable def x111:Cl 111:=clL eU eS [] 80 Tryz.f111 [.s,(.i .i64)] [.s] (by kernel_rfl) (by kernel_rfl)
noncomputable def x90:Cl 90:=clP eU eS [⟨_,x111⟩] 80 Tryz.f90 [(.i .i64)] [(.st .Form),.bo] (by kernel_rfl) (by kernel_rfl)
noncomputable def x89:Cl 89:=clL eU eS [⟨_,x90⟩] 80 Tryz.f89 [.s] [(.i .i64),.bo] (by kernel_rfl) (by kernel_rfl)
noncomputable def x62:Cl 62:=clM eU eS [⟨_,x39⟩,⟨_,x88⟩,⟨_,x89⟩,⟨_,x63⟩,⟨_,x90⟩,⟨_,x91⟩,⟨_,x92⟩,⟨_,x93⟩] 80 Tryz.f62 [(.sl .s)] [] shR (.st .Reader) (by kernel_rfl) (by kernel_rfl)
noncomputable def x61:Cl 61:=⟨swB rTab 62,_,swB_ck,c_yReaders⟩
noncomputable def x38:Cl 38:=clM eU eS [⟨_,x61⟩,⟨_,x75⟩,⟨_,x76⟩,⟨_,x77⟩,⟨_,x78⟩,⟨_,x79⟩,⟨_,x80⟩,⟨_,x81⟩,⟨_,x82⟩,⟨_,x83⟩,⟨_,x84⟩,⟨_,x85⟩,⟨_,x86⟩,⟨_,x87⟩,⟨_,x62⟩] 80 Tryz.f38 [(.sl .s)] [] shR (.st .Reader) (by kernel_rfl) (by kernel_rfl)
noncomputable abbrev lParse:ClS:=[⟨_,x36⟩,⟨_,x38⟩,⟨_,x39⟩]
def lt (s:String):List UInt8:=s.toUTF8.data.toList
abbrev txt17:List UInt8:=[102,117,110,99,32,102,32,105,110,116,10,98,108,111,99,107,32,97,10,98,114,97,110,99,104,32,120,32,98,32,99,10,98,108,111,99,107,32,98,10,106,117,109,112,32,99,10,98,108,111,99,107,32,99,10,114,101,116,32,49,10]
abbrev fun17:Lt.Func:=⟨[102],[105,110,116],[],[],[⟨[97],[],[],⟨2,⟨1,[120],0⟩,[[98],[99]],0⟩⟩,⟨[98],[],[],⟨1,⟨0,[],0⟩,[[99]],0⟩⟩,⟨[99],[],[],⟨3,⟨2,[],1⟩,[],0⟩⟩]⟩
abbrev prog17:Lt.Program:=⟨false,[],[],[],[fun17]⟩
theorem t17:bodyDB 80 (clE eU eS lParse) Tryz.f13 (kLs 4 (Tryz.f13.body.getD .skip)) (kRs (4+1) (Tryz.f13.body.getD .skip)) [.s] [.st .Program,.i .i64,.i .i64] txt17 (fun y=>decide (y=(prog17,0,0)))=true:=by kernel_rfl
end Go.Am
end

section
namespace Go.Am
open Go Go.Proofs
set_option maxRecDepth 100000
abbrev eA:List (TypeId×List Sh):=[(43,shBlk)]
abbrev xs17:List (Fl [.s]×Fl [.st .Program,.i .i64,.i .i64]):=[(txt17,(prog17,0,0))]
theorem c_parse17:Cont Tryz.prog 13 (pureT [.s] [.st .Program,.i .i64,.i .i64] (fun x=>∃ y,(x,y)∈xs17) (pairF xs17 (prog17,0,0))):=
 Cont_deferB (n:=80) eU eS lParse 4 Tryz.f13 (ps:=[.s]) (rs:=[.st .Program,.i .i64,.i .i64]) xs17 Tryz.func13 (by kernel_rfl) (by kernel_rfl) (by kernel_rfl) (by kernel_rfl) (by kernel_rfl) (by kernel_rfl) (by kernel_rfl) (by kernel_rfl) (by kernel_rfl) (by kernel_rfl) (by kernel_rfl) (by kernel_rfl) (prog17,0,0) (fun x hx=>by
  obtain rfl:=List.mem_singleton.1 hx
  exact t17)
noncomputable def x13:Cl 13:=⟨fnB [.s] [.st .Program,.i .i64,.i .i64] (fun x=>decide (x=txt17)) (pairF xs17 (prog17,0,0)),_,fnB_ck (pre:=fun x=>∃ y,(x,y)∈xs17) (fun x h=>⟨(prog17,0,0),List.mem_singleton.2 (by rw [of_decide_eq_true h])⟩),c_parse17⟩
noncomputable def x51:Cl 51:=clL eU eP [] 80 Tryz.f51 [(.st .Func),.s] [(.i .i64),.bo] (by kernel_rfl) (by kernel_rfl)
noncomputable def x50:Cl 50:=clP eU eP [⟨_,x51⟩] 80 Tryz.f50 [(.st .Func)] [(.sl (.sl (.i .i64)))] (by kernel_rfl) (by kernel_rfl)
noncomputable def x97:Cl 97:=clL eU eP [] 80 Tryz.f97 [(.sl (.i .i64)),(.i .i64)] [(.i .i64)] (by kernel_rfl) (by kernel_rfl)
noncomputable def x69:Cl 69:=clL eU eP [⟨_,x97⟩] 80 Tryz.f69 [(.sl (.i .i64)),(.i .i64)] [.bo] (by kernel_rfl) (by kernel_rfl)
noncomputable def x49:Cl 49:=clP eU eP [⟨_,x69⟩] 80 Tryz.f49 [(.sl (.sl (.i .i64)))] [(.sl (.sl (.i .i64)))] (by kernel_rfl) (by kernel_rfl)
noncomputable def x25:Cl 25:=clP eU eP [⟨_,x50⟩,⟨_,x49⟩,⟨_,x51⟩] 80 Tryz.f25 [(.st .Func)] [(.sl (.st .way))] (by kernel_rfl) (by kernel_rfl)
noncomputable def x9:Cl 9:=clP eU eP [⟨_,x25⟩] 80 Tryz.f9 [(.st .Func)] [(.sl (.st .Pair))] (by kernel_rfl) (by kernel_rfl)
noncomputable def x24:Cl 24:=clN eU eP [] 80 Tryz.f24 (by kernel_rfl) (by kernel_rfl)
def preCp (l:List Lt.Block):Bool:=Nat.ble l.length 1000000&&l.all fun b=>Nat.ble b.End.To.length 1000000&&(Nat.ble b.Phis.length 1000000&&b.Phis.all fun p=>Nat.ble p.Ins.length 1000000)
theorem preCp_ok {l:List Lt.Block} (h:preCp l=true):(∀ r∈l.map (encU (.st .Block)),okBlkR r)/\okRows 9 (l.map (encU (.st .Block)))/\(l.map (encU (.st .Block))).length<=1000000:=by
 unfold preCp at h
 simp only [Bool.and_eq_true] at h
 refine ⟨fun r hr=>?_,fun r hr=>?_,by rw [List.length_map]; exact Nat.le_of_ble_eq_true h.1⟩
 ·obtain ⟨b,hb,rfl⟩:=List.mem_map.1 hr
  have h2:=List.all_eq_true.1 h.2 b hb
  simp only [Bool.and_eq_true] at h2
  refine ⟨⟨b.End.To.map (encU .s),rfl,fun y hy=>?_,by rw [List.length_map]; exact Nat.le_of_ble_eq_true h2.1⟩,b.Phis.map (encU (.st .Phi)),rfl,fun y hy=>?_,by rw [List.length_map]; exact Nat.le_of_ble_eq_true h2.2.1,fun p hp=>?_⟩
  ·obtain ⟨z,_,rfl⟩:=List.mem_map.1 hy
   exact ⟨rfl,fun x hx=>by obtain rfl:=List.mem_singleton.1 hx; rfl⟩
  ·obtain ⟨z,_,rfl⟩:=List.mem_map.1 hy
   exact ⟨rfl,List.all_eq_true.1 rfl⟩
  ·obtain ⟨z,hz,rfl⟩:=List.mem_map.1 hp
   have h3:=List.all_eq_true.1 h2.2.2 z hz
   refine ⟨z.Ins.map (encU (.st .In)),rfl,fun y hy=>?_,by rw [List.length_map]; exact Nat.le_of_ble_eq_true h3⟩
   obtain ⟨q,_,rfl⟩:=List.mem_map.1 hy
   exact ⟨rfl,List.all_eq_true.1 rfl⟩
 ·obtain ⟨b,hb,rfl⟩:=List.mem_map.1 hr
  exact ⟨rfl,List.all_eq_true.1 rfl⟩
noncomputable def x26:Cl 26:=⟨newB shBlk (.st .Block) (.gh 800000) preCp,newT shBlk (.st .Block) (.gh 800000) (fun l=>preCp l=true),newB_ck (fun _ h=>h),Cont_new rfl Tryz.func26 (by kernel_rfl) (by kernel_rfl) (fun l v w H hl hv hag=>copied_calls hag hv (preCp_ok hl).1 (preCp_ok hl).2.1 (preCp_ok hl).2.2)⟩
noncomputable def x27:Cl 27:=clN eU eP [⟨_,x56⟩] 80 Tryz.f27 (by kernel_rfl) (by kernel_rfl)
noncomputable def x28:Cl 28:=clN eU eP [] 80 Tryz.f28 (by kernel_rfl) (by kernel_rfl)
noncomputable def x8:Cl 8:=clP eU eA [⟨_,x24⟩,⟨_,x25⟩,⟨_,x26⟩,⟨_,x27⟩,⟨_,x28⟩] 80 Tryz.f8 [(.st .Func)] [(.st .Func)] (by kernel_rfl) (by kernel_rfl)
noncomputable def x14:Cl 14:=clL eU eP [⟨_,x24⟩,⟨_,x27⟩] 80 Tryz.f14 [(.st .Func),.s] [.s] (by kernel_rfl) (by kernel_rfl)
noncomputable abbrev lAw:ClS:=[⟨_,x13⟩,⟨_,x9⟩,⟨_,x8⟩,⟨_,x14⟩]
theorem t_aw:bodyB 80 (clE eU eA lAw) Tryz.f5 [] [.bo] () (fun z=>decide (z=true))=true:=by kernel_rfl
theorem c_awake:Cont Tryz.prog 5 (pureT0 [] [.bo] (fun _=>true)):=Cl_const eU eA lAw 80 Tryz.f5 [.bo] true Tryz.func5 (by kernel_rfl) t_aw
end Go.Am
end

section
namespace Go.Am
open Go Go.Proofs
set_option linter.unusedVariables false
set_option maxRecDepth 100000
abbrev eM:List (TypeId×List Sh):=[(43,[.fr,.ow [.fr,.ow [.fr,.fr,.fr,.fr]],.fr,.fr,.fr,.fr,.fr,.ow [.fr],.fr]),(1000025,[.fr,.fr,.fr,.fr,.ow [.fr,.ow [.fr,.ow [.fr,.fr,.fr,.fr]],.fr,.fr,.fr,.fr,.fr,.ow [.fr],.fr]])]
def C_awake17:CKt:=pureT0 [] [.bo] (fun x=>Lt.awake17 )
theorem c_awake17:Cont Tryz.prog 5 C_awake17:=c_awake
def C_copied:CKt:=newT [.fr,.ow [.fr,.ow [.fr,.fr,.fr,.fr]],.fr,.fr,.fr,.fr,.fr,.ow [.fr],.fr] (.st .Block) (.gh 800000) (fun x=>Lt.preCopied x)
theorem c_copied:Cont Tryz.prog 26 C_copied:=Cont_new rfl Tryz.func26 (by kernel_rfl) (by kernel_rfl) (fun l v w H hl hv hag=>copied_calls hag hv (preCopied_ok hl).1 (preCopied_ok hl).2.1 (preCopied_ok hl).2.2)
theorem En.ok0 {P:Program} {u:Ut} {sh:List (TypeId×List Sh)} {pk:PKt}:En.ok ⟨P,u,[],sh,pk⟩:=fun _ h=>by cases h
theorem En.okc {P:Program} {u:Ut} {sh:List (TypeId×List Sh)} {pk:PKt} {f:Nat} {C:CKt} {cs:CTt} (h:Cont P f C) (hs:En.ok ⟨P,u,cs,sh,pk⟩):En.ok ⟨P,u,(f,C)::cs,sh,pk⟩:=by
 intro x hx
 rcases List.mem_cons.1 hx with rfl | hx
 ·exact h
 ·exact hs x hx
theorem mixed:Tryz.prog.follows .mixedOrders=true:=by kernel_rfl
def okF (n:Nat) (fn:Func):Bool:=fn.name != "runtime.NumGoroutine" && (fn.body.isSome&&(Nat.ble n fn.ntmps&&chkC fn.ntmps (fn.body.getD .skip)))
theorem okF_1 {n:Nat} {fn:Func} (h:okF n fn=true):(fn.name == "runtime.NumGoroutine")=false/\fn.body.isSome=true/\Nat.ble n fn.ntmps=true/\chkC fn.ntmps (fn.body.getD .skip)=true:=by
 unfold okF at h
 simp only [Bool.and_eq_true,bne,Bool.not_eq_true'] at h
 exact h
theorem k0 (e:En) (he:e.ok) (hm:e.P.follows .mixedOrders=true) {f:Nat} {fn:Func} (an:An) {ps rs:List U} {F:Fl ps->Fl rs} (hf:e.P.funcs[f]? = some fn) (hb:okF ps.length fn=true) (law:∀ x,∀ KK:Fl rs->Prop,KK (F x)->bodyT e fn an ps rs x KK):Cont e.P f (pureT0 ps rs F):=
 Cont_pure0 he hm hf (okF_1 hb).1 (okF_1 hb).2.1 (okF_1 hb).2.2.1 (okF_1 hb).2.2.2 law
theorem k1 (e:En) (he:e.ok) (hm:e.P.follows .mixedOrders=true) {f:Nat} {fn:Func} (an:An) {ps rs:List U} {pre:Fl ps->Prop} {F:Fl ps->Fl rs} (hf:e.P.funcs[f]? = some fn) (hb:okF ps.length fn=true) (law:∀ x,pre x->∀ KK:Fl rs->Prop,KK (F x)->bodyT e fn an ps rs x KK):Cont e.P f (pureT ps rs pre F):=
 Cont_pure he hm hf (okF_1 hb).1 (okF_1 hb).2.1 (okF_1 hb).2.2.1 (okF_1 hb).2.2.2 law
theorem k2 (e:En) (he:e.ok) (hm:e.P.follows .mixedOrders=true) {f:Nat} {fn:Func} (an:An) {sh:List Sh} {u:U} {ps rs:List U} {pre:El u->Fl ps->Prop} {Fn:El u->Fl ps->Fl rs×El u} (hf:e.P.funcs[f]? = some fn) (hb:okF (ps.length+1) fn=true) (law:∀ x y,pre x y->∀ KK:Fl rs×El u->Prop,KK (Fn x y)->bodyPT e fn an sh u ps rs x y KK):Cont e.P f (ptrT sh u ps rs pre Fn):=
 Cont_ptr he hm hf (okF_1 hb).1 (okF_1 hb).2.1 (okF_1 hb).2.2.1 (okF_1 hb).2.2.2 law
theorem k3 (e:En) (he:e.ok) (hm:e.P.follows .mixedOrders=true) {f:Nat} {fn:Func} (an:An) {u:U} {ps:List U} {pre:List (El u)->Fl ps->Prop} {Fn:List (El u)->Fl ps->List (El u)} (hf:e.P.funcs[f]? = some fn) (hb:okF (ps.length+1) fn=true) (law:∀ x y,pre x y->∀ KK:List (El u)->Prop,KK (Fn x y)->bodyOT e fn an u ps x y KK):Cont e.P f (ownT u ps pre Fn):=
 Cont_own he hm hf (okF_1 hb).1 (okF_1 hb).2.1 (okF_1 hb).2.2.1 (okF_1 hb).2.2.2 law
theorem k6 (e:En) (he:e.ok) (hm:e.P.follows .mixedOrders=true) {f:Nat} {fn:Func} (an:An) {ps rs:List U} {pre:Fl ps->Prop} {F:Fl ps->Fl rs} (hf:e.P.funcs[f]? = some fn) (hb:okF ps.length fn=true) (law:∀ x,pre x->∀ KK:Fl rs->Prop,KK (F x)->bodyT e fn an ps rs x KK):Cont e.P f (lendT ps rs pre F):=
 Cont_lend he hm hf (okF_1 hb).1 (okF_1 hb).2.1 (okF_1 hb).2.2.1 (okF_1 hb).2.2.2 law
theorem k7 (e:En) (he:e.ok) (hm:e.P.follows .mixedOrders=true) {f:Nat} {fn:Func} (an:An) {ps:List U} {n:Sn} {sh:List Sh} {i:Nat} {pre:Fl ps->Prop} {F:Fl ps->StTy n} (hf:e.P.funcs[f]? = some fn) (hb:okF ps.length fn=true) (law:∀ x,pre x->∀ KK:StTy n->Prop,KK (F x)->bodyNT e fn an ps n sh x KK):Cont e.P f (newST ps n sh i pre F):=
 Cont_newS he hm hf (okF_1 hb).1 (okF_1 hb).2.1 (okF_1 hb).2.2.1 (okF_1 hb).2.2.2 law
theorem k8 (e:En) (he:e.ok) (hm:e.P.follows .mixedOrders=true) {f:Nat} {fn:Func} (an:An) {ps rs:List U} {pre:Fl ps->Prop} {post:Fl ps->Fl rs->Prop} (hf:e.P.funcs[f]? = some fn) (hb:okF ps.length fn=true) (law:∀ x,pre x->∀ KK:Fl rs->Prop,(∀ y,post x y->KK y)->bodyT e fn an ps rs x KK):Cont e.P f (pureR ps rs pre post):=
 Cont_rel he hm hf (okF_1 hb).1 (okF_1 hb).2.1 (okF_1 hb).2.2.1 (okF_1 hb).2.2.2 law
abbrev sh3:List Sh:=[.fr,.fr,.fr,.fr,.ow [.fr,.fr,.fr,.fr],.ow [.fr,.fr]]
abbrev sh1:List Sh:=[.fr,.fr,.ow [.fr,.fr],.ow [.fr,.fr],.ow [.fr,.ow [.fr,.fr],.ow sh3,.fr,.fr,.fr,.fr,.fr,.fr]]
abbrev sh2:List Sh:=[.fr,.ow [.fr,.ow [.fr,.fr]],.ow [.fr,.fr],.ow [.fr,.fr],.ow sh1,.fr,.fr,.fr,.fr]
abbrev sh0:List Sh:=[.fr,.fr,.fr,.fr,.ow [.fr,.ow [.fr,.ow [.fr,.fr,.fr,.fr]],.fr,.fr,.fr,.fr,.fr,.ow [.fr],.fr]]
def C_countVars:CKt:=pureT0 [(.sl (.st .Var)),(.i .i64)] [(.i .i64)] (fun x=>Lt.countVars x.1 x.2)
def an_countVars:An:=.s .l (.s (.s .l (.c (.s .l .l) .l)) (.s .l (.s (.s .l (.b (.lp ⟨[0,1],[],[],[.sl 5 (.i .i64),.sl 6 (.i .i64)]⟩ (.s (.j ⟨[0,1,5,6],[],[],[.sl 23 .bo]⟩ .l (.c .l .l)) (.j ⟨[0,1,6],[],[],[.sl 5 (.i .i64)]⟩ (.b (.s .l (.s .l (.c .l .l)))) .l))))) (.s .l .l))))
theorem walk_countVars (a0_l:List Lt.Var) (a1_most:Int) (KK:Int->Prop):F_countVars a0_l a1_most KK=bodyT ⟨Tryz.prog,eU,[],[],noP⟩ Tryz.f40 an_countVars [(.sl (.st .Var)),(.i .i64)] [(.i .i64)] (a0_l,a1_most) KK:=by kernel_rfl
theorem c_countVars:Cont Tryz.prog 40 C_countVars:=k0 ⟨Tryz.prog,eU,[],[],noP⟩ En.ok0 mixed (fn:=Tryz.f40) an_countVars (by kernel_rfl) (by kernel_rfl) (fun (a0_l,a1_most) KK h=>Eq.mp (walk_countVars a0_l a1_most KK) (law_countVars a0_l a1_most KK h))
def C_countArgs:CKt:=pureT0 [(.sl (.st .Arg)),(.i .i64)] [(.i .i64)] (fun x=>Lt.countArgs x.1 x.2)
def an_countArgs:An:=.s .l (.s (.s .l (.c (.s .l .l) .l)) (.s .l (.s (.s .l (.b (.lp ⟨[0,1],[],[],[.sl 5 (.i .i64),.sl 6 (.i .i64)]⟩ (.s (.j ⟨[0,1,5,6],[],[],[.sl 23 .bo]⟩ .l (.c .l .l)) (.s (.b .l) .l))))) (.s .l .l))))
theorem walk_countArgs (a0_l:List Lt.Arg) (a1_most:Int) (KK:Int->Prop):F_countArgs a0_l a1_most KK=bodyT ⟨Tryz.prog,eU,[],[],noP⟩ Tryz.f95 an_countArgs [(.sl (.st .Arg)),(.i .i64)] [(.i .i64)] (a0_l,a1_most) KK:=by kernel_rfl
theorem c_countArgs:Cont Tryz.prog 95 C_countArgs:=k0 ⟨Tryz.prog,eU,[],[],noP⟩ En.ok0 mixed (fn:=Tryz.f95) an_countArgs (by kernel_rfl) (by kernel_rfl) (fun (a0_l,a1_most) KK h=>Eq.mp (walk_countArgs a0_l a1_most KK) (law_countArgs a0_l a1_most KK h))
def C_countInstr:CKt:=pureT [(.st .Instr),(.i .i64)] [(.i .i64)] (fun x=>Lt.preCI x.1 x.2) (fun x=>Lt.countInstr x.1 x.2)
def an_countInstr:An:=.s .l (.s (.j ⟨[1,2],[.loc 2],[],[.sl 20 .bo]⟩ .l (.c (.s .l .l) .l)) (.s .l (.j ⟨[1,2],[.loc 2],[],[.sl 5 (.i .i64)]⟩ (.s .l (.c .l .l)) (.j ⟨[1,2],[.loc 2],[],[.sl 5 (.i .i64)]⟩ (.s .l (.c .l .l)) (.s (.s .l (.b (.lp ⟨[1,2],[.loc 2],[],[.sl 5 (.i .i64),.sl 6 (.i .i64)]⟩ (.s (.j ⟨[1,2,5,6],[.loc 2],[],[.sl 61 .bo]⟩ .l (.c .l .l)) (.s (.b (.s .l (.j ⟨[1,2,6],[.loc 2],[],[.sl 5 (.i .i64)]⟩ (.s .l (.c .l .l)) (.s .l (.b (.lp ⟨[1,2,6],[.loc 2],[],[.sl 5 (.i .i64),.sl 7 (.i .i64)]⟩ (.s (.j ⟨[1,2,5,6,7],[.loc 2],[],[.sl 98 .bo]⟩ .l (.c .l .l)) (.j ⟨[1,2,6,7],[.loc 2],[],[.sl 5 (.i .i64)]⟩ (.b (.s .l (.s .l (.c .l .l)))) .l)))))))) .l))))) (.s (.s .l (.b (.lp ⟨[1,2],[.loc 2],[],[.sl 5 (.i .i64),.sl 8 (.i .i64)]⟩ (.s (.j ⟨[1,2,5,8],[.loc 2],[],[.sl 141 .bo]⟩ .l (.c .l .l)) (.j ⟨[1,2,8],[.loc 2],[],[.sl 5 (.i .i64)]⟩ (.b (.s .l (.s .l (.c .l .l)))) .l))))) (.s .l .l)))))))
abbrev t_countInstr:CTt:=[(95,C_countArgs)]
theorem walk_countInstr (a0_x:Lt.Instr) (a1_most:Int) (KK:Int->Prop):F_countInstr a0_x a1_most KK=bodyT ⟨Tryz.prog,eU,t_countInstr,[],noP⟩ Tryz.f65 an_countInstr [(.st .Instr),(.i .i64)] [(.i .i64)] (a0_x,a1_most) KK:=by kernel_rfl
theorem c_countInstr:Cont Tryz.prog 65 C_countInstr:=k1 ⟨Tryz.prog,eU,t_countInstr,[],noP⟩ (En.okc c_countArgs En.ok0) mixed (fn:=Tryz.f65) an_countInstr (by kernel_rfl) (by kernel_rfl) (fun (a0_x,a1_most) hp KK h=>Eq.mp (walk_countInstr a0_x a1_most KK) (law_countInstr a0_x a1_most hp KK h))
def C_countBlock:CKt:=pureT [(.st .Block),(.i .i64)] [(.i .i64)] (fun x=>Lt.preCB x.1 x.2) (fun x=>Lt.countBlock x.1 x.2)
def an_countBlock:An:=.s .l (.s (.j ⟨[1,2],[.loc 2],[],[.sl 29 .bo]⟩ .l (.c (.s .l .l) .l)) (.s .l (.j ⟨[1,2],[.loc 2],[],[.sl 5 (.i .i64)]⟩ (.s .l (.c .l .l)) (.s (.s .l (.b (.lp ⟨[1,2],[.loc 2],[],[.sl 5 (.i .i64),.sl 6 (.i .i64)]⟩ (.s (.j ⟨[1,2,5,6],[.loc 2],[],[.sl 56 .bo]⟩ .l (.c .l .l)) (.s (.b .l) .l))))) (.s (.s .l (.b (.lp ⟨[1,2],[.loc 2],[],[.sl 5 (.i .i64),.sl 7 (.i .i64)]⟩ (.s (.j ⟨[1,2,5,7],[.loc 2],[],[.sl 78 .bo]⟩ .l (.c .l .l)) (.s (.b (.s .l (.s .l (.b (.lp ⟨[1,2,7],[.loc 2],[],[.sl 5 (.i .i64),.sl 8 (.i .i64)]⟩ (.s (.j ⟨[1,2,5,7,8],[.loc 2],[],[.sl 104 .bo]⟩ .l (.c .l .l)) (.j ⟨[1,2,7,8],[.loc 2],[],[.sl 5 (.i .i64)]⟩ (.b (.s .l (.s .l (.c .l .l)))) .l))))))) .l))))) (.s (.s .l (.b (.lp ⟨[1,2],[.loc 2],[],[.sl 5 (.i .i64),.sl 9 (.i .i64)]⟩ (.s (.j ⟨[1,2,5,9],[.loc 2],[],[.sl 147 .bo]⟩ .l (.c .l .l)) (.s (.b .l) .l))))) (.s .l .l)))))))
abbrev t_countBlock:CTt:=[(65,C_countInstr)]
theorem walk_countBlock (a0_b:Lt.Block) (a1_most:Int) (KK:Int->Prop):F_countBlock a0_b a1_most KK=bodyT ⟨Tryz.prog,eU,t_countBlock,[],noP⟩ Tryz.f41 an_countBlock [(.st .Block),(.i .i64)] [(.i .i64)] (a0_b,a1_most) KK:=by kernel_rfl
theorem c_countBlock:Cont Tryz.prog 41 C_countBlock:=k1 ⟨Tryz.prog,eU,t_countBlock,[],noP⟩ (En.okc c_countInstr En.ok0) mixed (fn:=Tryz.f41) an_countBlock (by kernel_rfl) (by kernel_rfl) (fun (a0_b,a1_most) hp KK h=>Eq.mp (walk_countBlock a0_b a1_most KK) (law_countBlock a0_b a1_most hp KK h))
def C_FewFunc:CKt:=pureT [(.st .Func),(.i .i64)] [(.i .i64)] (fun x=>Lt.preFF x.1 x.2) (fun x=>Lt.FewFunc x.1 x.2)
def an_FewFunc:An:=.s .l (.s (.s .l (.c (.s .l .l) .l)) (.s .l (.j ⟨[1,2],[.loc 2],[],[.sl 5 (.i .i64)]⟩ (.s .l (.c .l .l)) (.j ⟨[1,2],[.loc 2],[],[.sl 5 (.i .i64)]⟩ (.s .l (.c .l .l)) (.j ⟨[1,2],[.loc 2],[],[.sl 5 (.i .i64)]⟩ (.s .l (.c .l .l)) (.s (.s .l (.b (.lp ⟨[1,2],[.loc 2],[],[.sl 5 (.i .i64),.sl 6 (.i .i64)]⟩ (.s (.j ⟨[1,2,5,6],[.loc 2],[],[.sl 53 .bo]⟩ .l (.c .l .l)) (.s (.b .l) .l))))) (.s .l .l)))))))
abbrev t_FewFunc:CTt:=[(40,C_countVars),(41,C_countBlock)]
theorem walk_FewFunc (a0_f:Lt.Func) (a1_most:Int) (KK:Int->Prop):F_FewFunc a0_f a1_most KK=bodyT ⟨Tryz.prog,eU,t_FewFunc,[],noP⟩ Tryz.f15 an_FewFunc [(.st .Func),(.i .i64)] [(.i .i64)] (a0_f,a1_most) KK:=by kernel_rfl
theorem c_FewFunc:Cont Tryz.prog 15 C_FewFunc:=k1 ⟨Tryz.prog,eU,t_FewFunc,[],noP⟩ (En.okc c_countVars (En.okc c_countBlock En.ok0)) mixed (fn:=Tryz.f15) an_FewFunc (by kernel_rfl) (by kernel_rfl) (fun (a0_f,a1_most) hp KK h=>Eq.mp (walk_FewFunc a0_f a1_most KK) (law_FewFunc a0_f a1_most hp KK h))
def C_few8:CKt:=pureT0 [(.st .Func)] [.bo] (fun x=>Lt.few8 x)
def an_few8:An:=.s .l (.s (.s .l (.c (.s .l .l) .l)) (.s (.s .l (.b (.lp ⟨[1],[.loc 1],[],[.sl 3 (.i .i64)]⟩ (.s (.s .l (.c .l .l)) (.s (.b (.s (.j ⟨[1,3],[.loc 1],[],[.sl 34 .bo]⟩ .l (.c (.s .l .l) .l)) (.s .l (.b (.lp ⟨[1,3],[.loc 1],[],[.sl 4 (.i .i64)]⟩ (.s (.s .l (.c .l .l)) (.s (.b (.s .l (.c (.s .l .l) .l))) .l))))))) .l))))) (.s .l .l)))
theorem walk_few8 (a0_f:Lt.Func) (KK:Bool->Prop):F_few8 a0_f KK=bodyT ⟨Tryz.prog,eU,[],[],noP⟩ Tryz.f16 an_few8 [(.st .Func)] [.bo] a0_f KK:=by kernel_rfl
theorem c_few8:Cont Tryz.prog 16 C_few8:=k0 ⟨Tryz.prog,eU,[],[],noP⟩ En.ok0 mixed (fn:=Tryz.f16) an_few8 (by kernel_rfl) (by kernel_rfl) (fun a0_f KK h=>Eq.mp (walk_few8 a0_f KK) (law_few8 a0_f KK h))
def C_place8:CKt:=pureT0 [(.st .Func),.s] [(.i .i64),.bo] (fun x=>Lt.place8 x.1 x.2)
def an_place8:An:=.s .l (.s (.s .l (.b (.lp ⟨[1,2],[.loc 2],[],[.sl 6 (.i .i64)]⟩ (.s (.s .l (.c .l .l)) (.s (.b (.s .l (.c (.s .l .l) .l))) .l))))) (.s .l .l))
theorem walk_place8 (a0_f:Lt.Func) (a1_name:List UInt8) (KK:(Int×Bool)->Prop):F_place8 a0_f a1_name KK=bodyT ⟨Tryz.prog,eU,[],[],noP⟩ Tryz.f42 an_place8 [(.st .Func),.s] [(.i .i64),.bo] (a0_f,a1_name) KK:=by kernel_rfl
theorem c_place8:Cont Tryz.prog 42 C_place8:=k0 ⟨Tryz.prog,eU,[],[],noP⟩ En.ok0 mixed (fn:=Tryz.f42) an_place8 (by kernel_rfl) (by kernel_rfl) (fun (a0_f,a1_name) KK h=>Eq.mp (walk_place8 a0_f a1_name KK) (law_place8 a0_f a1_name KK h))
def C_leads8:CKt:=pureT [(.st .Func),(.i .i64),(.i .i64)] [.bo] (fun x=>Lt.preLeads8 x.1 x.2.1 x.2.2) (fun x=>Lt.leads8 x.1 x.2.1 x.2.2)
def an_leads8:An:=.s .l (.s (.s .l (.b (.lp ⟨[1,2,3],[.loc 3],[],[.sl 7 (.i .i64)]⟩ (.s (.s .l (.c .l .l)) (.s (.b (.s .l (.j ⟨[1,2,3,7],[.loc 3],[],[.sl 42 .bo]⟩ .l (.c (.s .l .l) .l)))) .l))))) (.s .l .l))
abbrev t_leads8:CTt:=[(42,C_place8)]
theorem walk_leads8 (a0_f:Lt.Func) (a1_from:Int) (a2_to:Int) (KK:Bool->Prop):F_leads8 a0_f a1_from a2_to KK=bodyT ⟨Tryz.prog,eU,t_leads8,[],noP⟩ Tryz.f66 an_leads8 [(.st .Func),(.i .i64),(.i .i64)] [.bo] (a0_f,a1_from,a2_to) KK:=by kernel_rfl
theorem c_leads8:Cont Tryz.prog 66 C_leads8:=k1 ⟨Tryz.prog,eU,t_leads8,[],noP⟩ (En.okc c_place8 En.ok0) mixed (fn:=Tryz.f66) an_leads8 (by kernel_rfl) (by kernel_rfl) (fun (a0_f,a1_from,a2_to) hp KK h=>Eq.mp (walk_leads8 a0_f a1_from a2_to KK) (law_leads8 a0_f a1_from a2_to hp KK h))
def C_come8:CKt:=pureR [(.st .Func)] [(.sl .bo)] (fun x=>Lt.preR8 x) (fun x y=>Lt.postCome8 x y)
def an_come8:An:=.s .l (.s .l (.s .l (.s (.b (.lp ⟨[1],[.loc 1],[],[.ow 3 [.fr] .bo,.sl 4 .bo]⟩ (.s (.s .l (.c .l .l)) (.b (.s .l (.s .l (.s .l (.b (.lp ⟨[1],[.loc 1],[],[.ow 3 [.fr] .bo,.sl 4 .bo,.sl 5 (.i .i64)]⟩ (.s (.s .l (.c .l .l)) (.s (.b (.s .l (.b (.lp ⟨[1,5],[.loc 1],[],[.ow 3 [.fr] .bo,.sl 4 .bo,.sl 6 (.i .i64)]⟩ (.s (.j ⟨[1,3,4,5,6],[.gh 900003,.loc 1],[],[.sl 32 .bo]⟩ .l (.c .l .l)) (.j ⟨[1,5,6],[.loc 1],[],[.ow 3 [.fr] .bo,.sl 4 .bo]⟩ (.b (.j ⟨[1,3,4,5,6],[.gh 900003,.loc 1],[],[.sl 45 .bo]⟩ .l (.c (.s .l .l) .l))) .l)))))) .l))))))))))) (.s .l .l))))
abbrev t_come8:CTt:=[(66,C_leads8)]
theorem walk_come8 (a0_f:Lt.Func) (KK:(List Bool)->Prop):F_come8 a0_f KK=bodyT ⟨Tryz.prog,eU,t_come8,[],noP⟩ Tryz.f43 an_come8 [(.st .Func)] [(.sl .bo)] a0_f KK:=by kernel_rfl
theorem c_come8:Cont Tryz.prog 43 C_come8:=k8 ⟨Tryz.prog,eU,t_come8,[],noP⟩ (En.okc c_leads8 En.ok0) mixed (fn:=Tryz.f43) an_come8 (by kernel_rfl) (by kernel_rfl) (fun a0_f hp KK h=>Eq.mp (walk_come8 a0_f KK) (law_come8 a0_f hp KK h))
def C_right8:CKt:=pureR [(.st .Func)] [.bo] (fun x=>Lt.preR8 x) (fun x y=>Lt.postRight8 x y)
def an_right8:An:=.s .l (.s (.s .l (.b (.lp ⟨[1],[.loc 1],[],[.sl 3 (.i .i64)]⟩ (.s (.s .l (.c .l .l)) (.s (.b (.s .l (.s (.s .l (.c (.s .l .l) .l)) (.s .l (.s .l (.b (.lp ⟨[1,3,6],[.loc 1],[],[.sl 7 (.i .i64)]⟩ (.s (.s .l (.c .l .l)) (.s (.b (.s .l (.s (.j ⟨[1,3,6,7],[.loc 1],[],[.sl 61 .bo]⟩ .l (.c (.s .l .l) .l)) (.s .l (.b (.lp ⟨[1,3,6,7],[.loc 1],[],[.sl 10 (.i .i64)]⟩ (.s (.s .l (.c .l .l)) (.s (.b (.s .l (.c (.s .l .l) .l))) .l)))))))) .l))))))))) .l))))) (.s .l (.s (.s .l (.b (.lp ⟨[11],[],[],[.sl 12 (.i .i64)]⟩ (.s (.s .l (.c .l .l)) (.s (.b (.s .l (.c (.s .l .l) .l))) .l))))) (.s .l .l))))
abbrev t_right8:CTt:=[(42,C_place8),(43,C_come8)]
theorem walk_right8 (a0_f:Lt.Func) (KK:Bool->Prop):F_right8 a0_f KK=bodyT ⟨Tryz.prog,eU,t_right8,[],noP⟩ Tryz.f17 an_right8 [(.st .Func)] [.bo] a0_f KK:=by kernel_rfl
theorem c_right8:Cont Tryz.prog 17 C_right8:=k8 ⟨Tryz.prog,eU,t_right8,[],noP⟩ (En.okc c_place8 (En.okc c_come8 En.ok0)) mixed (fn:=Tryz.f17) an_right8 (by kernel_rfl) (by kernel_rfl) (fun a0_f hp KK h=>Eq.mp (walk_right8 a0_f KK) (law_right8 a0_f hp KK h))
def C_few17:CKt:=pureR [(.st .Func)] [.bo] (fun x=>Lt.preFew17 x) (fun x y=>Lt.postFew17 x y)
def an_few17:An:=.s .l (.j ⟨[],[],[],[.sl 2 .bo]⟩ .l .l)
abbrev t_few17:CTt:=[(15,C_FewFunc),(16,C_few8),(17,C_right8)]
theorem walk_few17 (a0_f:Lt.Func) (KK:Bool->Prop):F_few17 a0_f KK=bodyT ⟨Tryz.prog,eU,t_few17,[],noP⟩ Tryz.f6 an_few17 [(.st .Func)] [.bo] a0_f KK:=by kernel_rfl
theorem c_few17:Cont Tryz.prog 6 C_few17:=k8 ⟨Tryz.prog,eU,t_few17,[],noP⟩ (En.okc c_FewFunc (En.okc c_few8 (En.okc c_right8 En.ok0))) mixed (fn:=Tryz.f6) an_few17 (by kernel_rfl) (by kernel_rfl) (fun a0_f hp KK h=>Eq.mp (walk_few17 a0_f KK) (law_few17 a0_f hp KK h))
def C_rPut:CKt:=ownT .b8 [(.sl .s)] (fun x y=>Lt.preRPut x y) (fun x y=>Lt.rPut x y)
def an_rPut:An:=.s .l (.s (.s .l (.b (.lp ⟨[1],[],[],[.ow 0 [.fr] .b8,.sl 5 (.i .i64)]⟩ (.s (.s .l (.c .l .l)) (.s (.b (.j ⟨[1,5],[],[],[.ow 0 [.fr] .b8]⟩ (.s .l (.c .l .l)) .l)) .l))))) (.s .l .l))
theorem walk_rPut (a0_out:List UInt8) (a1_l:List (List UInt8)) (KK:(List UInt8)->Prop):F_rPut a0_out a1_l KK=bodyOT ⟨Tryz.prog,eU,[],[],noP⟩ Tryz.f18 an_rPut .b8 [(.sl .s)] a0_out a1_l KK:=by kernel_rfl
theorem c_rPut:Cont Tryz.prog 18 C_rPut:=k3 ⟨Tryz.prog,eU,[],[],noP⟩ En.ok0 mixed (fn:=Tryz.f18) an_rPut (by kernel_rfl) (by kernel_rfl) (fun a0_out a1_l hp KK h=>Eq.mp (walk_rPut a0_out a1_l KK) (law_rPut a0_out a1_l hp KK h))
def C_rVars:CKt:=ownT .b8 [.s,(.sl (.st .Var))] (fun x y=>Lt.preRVars x y.1 y.2) (fun x y=>Lt.rVars x y.1 y.2)
def an_rVars:An:=.s .l (.s (.s .l (.b (.lp ⟨[1,2],[],[],[.ow 0 [.fr] .b8,.sl 7 (.i .i64)]⟩ (.s (.s .l (.c .l .l)) (.s (.b .l) .l))))) (.s .l .l))
abbrev t_rVars:CTt:=[(18,C_rPut)]
theorem walk_rVars (a0_out:List UInt8) (a1_first:List UInt8) (a2_l:List Lt.Var) (KK:(List UInt8)->Prop):F_rVars a0_out a1_first a2_l KK=bodyOT ⟨Tryz.prog,eU,t_rVars,[],noP⟩ Tryz.f19 an_rVars .b8 [.s,(.sl (.st .Var))] a0_out (a1_first,a2_l) KK:=by kernel_rfl
theorem c_rVars:Cont Tryz.prog 19 C_rVars:=k3 ⟨Tryz.prog,eU,t_rVars,[],noP⟩ (En.okc c_rPut En.ok0) mixed (fn:=Tryz.f19) an_rVars (by kernel_rfl) (by kernel_rfl) (fun a0_out (a1_first,a2_l) hp KK h=>Eq.mp (walk_rVars a0_out a1_first a2_l KK) (law_rVars a0_out a1_first a2_l hp KK h))
def C_rSize:CKt:=pureT0 [(.i .i64)] [(.i .u64)] (fun x=>Lt.rSize x)
def an_rSize:An:=.s .l (.s (.s .l (.c (.s .l .l) .l)) (.s .l .l))
theorem walk_rSize (a0_n:Int) (KK:Int->Prop):F_rSize a0_n KK=bodyT ⟨Tryz.prog,eU,[],[],noP⟩ Tryz.f44 an_rSize [(.i .i64)] [(.i .u64)] a0_n KK:=by kernel_rfl
theorem c_rSize:Cont Tryz.prog 44 C_rSize:=k0 ⟨Tryz.prog,eU,[],[],noP⟩ En.ok0 mixed (fn:=Tryz.f44) an_rSize (by kernel_rfl) (by kernel_rfl) (fun a0_n KK h=>Eq.mp (walk_rSize a0_n KK) (law_rSize a0_n KK h))
def C_rNum:CKt:=pureT [(.i .i64)] [.s] (fun x=>Lt.preNum x) (fun x=>Lt.rNum x)
def an_rNum:An:=.s .l (.s .l (.s .l (.j ⟨[0],[],[],[.ow 3 [.fr] .b8]⟩ (.b (.lp ⟨[0],[],[],[.ow 3 [.fr] .b8,.sl 4 (.i .u64)]⟩ (.b (.s .l (.s .l (.s .l (.c .l .l))))))) (.s (.s .l (.c (.s .l .l) .l)) (.s .l .l)))))
abbrev t_rNum:CTt:=[(44,C_rSize)]
theorem walk_rNum (a0_n:Int) (KK:(List UInt8)->Prop):F_rNum a0_n KK=bodyT ⟨Tryz.prog,eU,t_rNum,[],noP⟩ Tryz.f20 an_rNum [(.i .i64)] [.s] a0_n KK:=by kernel_rfl
theorem c_rNum:Cont Tryz.prog 20 C_rNum:=k1 ⟨Tryz.prog,eU,t_rNum,[],noP⟩ (En.okc c_rSize En.ok0) mixed (fn:=Tryz.f20) an_rNum (by kernel_rfl) (by kernel_rfl) (fun a0_n hp KK h=>Eq.mp (walk_rNum a0_n KK) (law_rNum a0_n hp KK h))
def C_rName:CKt:=pureT0 [.s] [.bo] (fun x=>Lt.rName x)
def an_rName:An:=.s .l (.s (.s .l (.b (.lp ⟨[0],[],[],[.sl 3 (.i .i64)]⟩ (.s (.s .l (.c .l .l)) (.s (.b (.s .l (.j ⟨[0,3,4],[],[],[.sl 5 .bo]⟩ .l (.j ⟨[0,3],[],[],[.sl 46 .bo]⟩ .l (.c (.s .l .l) .l))))) .l))))) (.j ⟨[],[],[],[.sl 2 .bo]⟩ .l .l))
theorem walk_rName (a0_s:List UInt8) (KK:Bool->Prop):F_rName a0_s KK=bodyT ⟨Tryz.prog,eU,[],[],noP⟩ Tryz.f67 an_rName [.s] [.bo] a0_s KK:=by kernel_rfl
theorem c_rName:Cont Tryz.prog 67 C_rName:=k0 ⟨Tryz.prog,eU,[],[],noP⟩ En.ok0 mixed (fn:=Tryz.f67) an_rName (by kernel_rfl) (by kernel_rfl) (fun a0_s KK h=>Eq.mp (walk_rName a0_s KK) (law_rName a0_s KK h))
def C_rIsNan:CKt:=pureT0 [(.i .i64)] [.bo] (fun x=>Lt.rIsNan x)
def an_rIsNan:An:=.s .l (.s .l (.s .l .l))
theorem walk_rIsNan (a0_n:Int) (KK:Bool->Prop):F_rIsNan a0_n KK=bodyT ⟨Tryz.prog,eU,[],[],noP⟩ Tryz.f96 an_rIsNan [(.i .i64)] [.bo] a0_n KK:=by kernel_rfl
theorem c_rIsNan:Cont Tryz.prog 96 C_rIsNan:=k0 ⟨Tryz.prog,eU,[],[],noP⟩ En.ok0 mixed (fn:=Tryz.f96) an_rIsNan (by kernel_rfl) (by kernel_rfl) (fun a0_n KK h=>Eq.mp (walk_rIsNan a0_n KK) (law_rIsNan a0_n KK h))
def C_rPlain:CKt:=pureT0 [(.i .i64)] [(.i .i64)] (fun x=>Lt.rPlain x)
def an_rPlain:An:=.s .l (.s (.s .l (.c (.s .l .l) .l)) (.s .l .l))
abbrev t_rPlain:CTt:=[(96,C_rIsNan)]
theorem walk_rPlain (a0_n:Int) (KK:Int->Prop):F_rPlain a0_n KK=bodyT ⟨Tryz.prog,eU,t_rPlain,[],noP⟩ Tryz.f68 an_rPlain [(.i .i64)] [(.i .i64)] a0_n KK:=by kernel_rfl
theorem c_rPlain:Cont Tryz.prog 68 C_rPlain:=k0 ⟨Tryz.prog,eU,t_rPlain,[],noP⟩ (En.okc c_rIsNan En.ok0) mixed (fn:=Tryz.f68) an_rPlain (by kernel_rfl) (by kernel_rfl) (fun a0_n KK h=>Eq.mp (walk_rPlain a0_n KK) (law_rPlain a0_n KK h))
def C_rRight:CKt:=pureT0 [(.st .Arg)] [.bo] (fun x=>Lt.rRight x)
def an_rRight:An:=.s .l (.s (.s .l (.c (.s .l .l) .l)) (.s (.j ⟨[1],[.loc 1],[],[.sl 26 .bo]⟩ .l (.c (.s .l .l) .l)) (.j ⟨[],[],[],[.sl 2 .bo]⟩ .l .l)))
abbrev t_rRight:CTt:=[(67,C_rName),(68,C_rPlain)]
theorem walk_rRight (a0_a:Lt.Arg) (KK:Bool->Prop):F_rRight a0_a KK=bodyT ⟨Tryz.prog,eU,t_rRight,[],noP⟩ Tryz.f45 an_rRight [(.st .Arg)] [.bo] a0_a KK:=by kernel_rfl
theorem c_rRight:Cont Tryz.prog 45 C_rRight:=k0 ⟨Tryz.prog,eU,t_rRight,[],noP⟩ (En.okc c_rName (En.okc c_rPlain En.ok0)) mixed (fn:=Tryz.f45) an_rRight (by kernel_rfl) (by kernel_rfl) (fun a0_a KK h=>Eq.mp (walk_rRight a0_a KK) (law_rRight a0_a KK h))
def C_rFlo:CKt:=pureT0 [(.i .i64)] [.s] (fun x=>Lt.rFlo x)
def an_rFlo:An:=.s .l (.s .l (.s .l (.s (.s .l (.b (.lp ⟨[],[],[],[.sl 3 (.i .u64),.ow 4 [.fr] .b8,.sl 5 (.i .i64)]⟩ (.s (.s .l (.c .l .l)) (.s (.b (.s .l (.j ⟨[3,4,5],[.gh 900004],[],[.sl 6 .b8]⟩ (.s .l (.c .l .l)) (.s .l .l)))) .l))))) (.s .l .l))))
abbrev t_rFlo:CTt:=[(68,C_rPlain)]
theorem walk_rFlo (a0_n:Int) (KK:(List UInt8)->Prop):F_rFlo a0_n KK=bodyT ⟨Tryz.prog,eU,t_rFlo,[],noP⟩ Tryz.f46 an_rFlo [(.i .i64)] [.s] a0_n KK:=by kernel_rfl
theorem c_rFlo:Cont Tryz.prog 46 C_rFlo:=k0 ⟨Tryz.prog,eU,t_rFlo,[],noP⟩ (En.okc c_rPlain En.ok0) mixed (fn:=Tryz.f46) an_rFlo (by kernel_rfl) (by kernel_rfl) (fun a0_n KK h=>Eq.mp (walk_rFlo a0_n KK) (law_rFlo a0_n KK h))
def C_rWord:CKt:=pureT [(.st .Arg)] [.s] (fun x=>Lt.prePut x) (fun x=>Lt.rWord x)
def an_rWord:An:=.s .l (.s (.s .l (.c (.s .l .l) .l)) (.s (.s .l (.c (.s .l .l) .l)) (.s (.s .l (.c (.s .l .l) .l)) (.s (.s .l (.c (.s .l .l) .l)) (.s (.s .l (.c (.s .l .l) .l)) (.s .l .l))))))
abbrev t_rWord:CTt:=[(20,C_rNum),(45,C_rRight),(46,C_rFlo)]
theorem walk_rWord (a0_a:Lt.Arg) (KK:(List UInt8)->Prop):F_rWord a0_a KK=bodyT ⟨Tryz.prog,eU,t_rWord,[],noP⟩ Tryz.f21 an_rWord [(.st .Arg)] [.s] a0_a KK:=by kernel_rfl
theorem c_rWord:Cont Tryz.prog 21 C_rWord:=k1 ⟨Tryz.prog,eU,t_rWord,[],noP⟩ (En.okc c_rNum (En.okc c_rRight (En.okc c_rFlo En.ok0))) mixed (fn:=Tryz.f21) an_rWord (by kernel_rfl) (by kernel_rfl) (fun a0_a hp KK h=>Eq.mp (walk_rWord a0_a KK) (law_rWord a0_a hp KK h))
def C_rOf:CKt:=pureT0 [(.i .i64)] [(.st .RForm),.bo] (fun x=>Lt.rOf x)
def an_rOf:An:=.s .l (.s (.j ⟨[0,2],[.loc 2],[],[.sl 10 .bo]⟩ .l (.c (.s .l .l) .l)) (.j ⟨[0,2],[.loc 2],[(4,.loc 4,0)],[.rt (.loc 4) [.fr,.fr,.fr,.fr,.fr] (.st .RForm)]⟩ .l (.j ⟨[2,4],[.loc 2],[],[.rt (.loc 4) [.fr,.fr,.fr,.fr,.fr] (.st .RForm)]⟩ (.s .l (.b (.j ⟨[2,4,48],[.loc 2,.loc 4],[],[.sl 51 .bo]⟩ (.s .l (.c .l (.s .l (.c .l (.s .l (.c .l (.s .l (.c .l (.s .l (.c .l .l)))))))))) (.c (.s .l .l) (.j ⟨[2,4,48],[.loc 2,.loc 4],[],[.sl 60 .bo]⟩ (.s .l (.c .l (.s .l (.c .l .l)))) (.c .l (.j ⟨[2,4],[.loc 2,.loc 4],[],[.sl 65 .bo]⟩ (.s .l (.c .l .l)) (.c .l (.s .l .l))))))))) (.s .l .l))))
theorem walk_rOf (a0_op:Int) (KK:(Lt.RForm×Bool)->Prop):F_rOf a0_op KK=bodyT ⟨Tryz.prog,eU,[],[],noP⟩ Tryz.f47 an_rOf [(.i .i64)] [(.st .RForm),.bo] a0_op KK:=by kernel_rfl
theorem c_rOf:Cont Tryz.prog 47 C_rOf:=k0 ⟨Tryz.prog,eU,[],[],noP⟩ En.ok0 mixed (fn:=Tryz.f47) an_rOf (by kernel_rfl) (by kernel_rfl) (fun a0_op KK h=>Eq.mp (walk_rOf a0_op KK) (law_rOf a0_op KK h))
def C_rArgs:CKt:=ownT .s [(.sl (.st .Arg))] (fun x y=>Lt.preRArgs x y) (fun x y=>Lt.rArgs x y)
def an_rArgs:An:=.s .l (.s (.s .l (.b (.lp ⟨[1],[],[],[.ow 0 [.fr] .s,.sl 5 (.i .i64)]⟩ (.s (.s .l (.c .l .l)) (.s (.b .l) .l))))) (.s .l .l))
abbrev t_rArgs:CTt:=[(21,C_rWord)]
theorem walk_rArgs (a0_l:List (List UInt8)) (a1_a:List Lt.Arg) (KK:(List (List UInt8))->Prop):F_rArgs a0_l a1_a KK=bodyOT ⟨Tryz.prog,eU,t_rArgs,[],noP⟩ Tryz.f48 an_rArgs .s [(.sl (.st .Arg))] a0_l a1_a KK:=by kernel_rfl
theorem c_rArgs:Cont Tryz.prog 48 C_rArgs:=k3 ⟨Tryz.prog,eU,t_rArgs,[],noP⟩ (En.okc c_rWord En.ok0) mixed (fn:=Tryz.f48) an_rArgs (by kernel_rfl) (by kernel_rfl) (fun a0_l a1_a hp KK h=>Eq.mp (walk_rArgs a0_l a1_a KK) (law_rArgs a0_l a1_a hp KK h))
def C_rCode:CKt:=ownT .b8 [(.st .Instr)] (fun x y=>Lt.preRCode x y) (fun x y=>Lt.rCode x y)
def an_rCode:An:=.s .l (.s .l (.s .l (.j ⟨[0,3,5],[.loc 3,.loc 5,.out 0],[],[.ow 7 [.fr] .s]⟩ (.s .l (.c .l .l)) (.s .l (.j ⟨[0,3],[.loc 3,.out 0],[],[.ow 7 [.fr] .s]⟩ (.j ⟨[0,3,5,7],[.gh 29,.loc 3,.loc 5,.out 0],[],[.sl 43 .bo]⟩ .l (.c (.s .l (.s .l .l)) (.j ⟨[0,3],[.loc 3,.out 0],[],[.ow 7 [.fr] .s]⟩ (.s .l (.c .l .l)) .l))) (.s .l (.s (.s .l (.b (.lp ⟨[3],[.loc 3],[],[.ow 0 [.fr] .b8,.sl 8 (.i .i64)]⟩ (.s (.s .l (.c .l .l)) (.s (.b (.j ⟨[0,3,8],[.gh 900000,.loc 3],[],[.ow 9 [.fr] .s]⟩ .l (.s (.s .l (.b (.lp ⟨[0,3,8],[.gh 900000,.loc 3],[],[.ow 9 [.fr] .s,.sl 10 (.i .i64)]⟩ (.s (.s .l (.c .l .l)) (.j ⟨[0,3,8,10],[.gh 900000,.loc 3],[],[.ow 9 [.fr] .s]⟩ (.b .l) .l))))) .l))) .l))))) (.s (.s .l (.b (.lp ⟨[3],[.loc 3],[],[.ow 0 [.fr] .b8,.sl 11 (.i .i64)]⟩ (.s (.s .l (.c .l .l)) (.j ⟨[3,11],[.loc 3],[],[.ow 0 [.fr] .b8]⟩ (.b .l) .l))))) (.s .l .l)))))))))
abbrev t_rCode:CTt:=[(18,C_rPut),(20,C_rNum),(21,C_rWord),(47,C_rOf),(48,C_rArgs)]
theorem walk_rCode (a0_out:List UInt8) (a1_x:Lt.Instr) (KK:(List UInt8)->Prop):F_rCode a0_out a1_x KK=bodyOT ⟨Tryz.prog,eU,t_rCode,[],noP⟩ Tryz.f22 an_rCode .b8 [(.st .Instr)] a0_out a1_x KK:=by kernel_rfl
theorem c_rCode:Cont Tryz.prog 22 C_rCode:=k3 ⟨Tryz.prog,eU,t_rCode,[],noP⟩ (En.okc c_rPut (En.okc c_rNum (En.okc c_rWord (En.okc c_rOf (En.okc c_rArgs En.ok0))))) mixed (fn:=Tryz.f22) an_rCode (by kernel_rfl) (by kernel_rfl) (fun a0_out a1_x hp KK h=>Eq.mp (walk_rCode a0_out a1_x KK) (law_rCode a0_out a1_x hp KK h))
def C_rEnds:CKt:=ownT .b8 [(.st .Term)] (fun x y=>Lt.preREnds x y) (fun x y=>Lt.rEnds x y)
def an_rEnds:An:=.s .l (.s .l (.s (.j ⟨[0,3,5],[.gh 7,.loc 3,.out 0],[],[.sl 15 .bo]⟩ .l (.c (.s .l .l) .l)) (.s .l (.j ⟨[0,3],[.loc 3,.out 0],[],[.ow 6 [.fr] .s]⟩ (.j ⟨[0,3,6],[.gh 22,.loc 3,.out 0],[],[.sl 30 .bo]⟩ .l (.c .l .l)) (.s .l (.j ⟨[0],[.out 0],[],[.ow 6 [.fr] .s]⟩ (.s .l (.c .l .l)) (.s .l .l)))))))
abbrev t_rEnds:CTt:=[(18,C_rPut),(20,C_rNum),(21,C_rWord)]
theorem walk_rEnds (a0_out:List UInt8) (a1_t:Lt.Term) (KK:(List UInt8)->Prop):F_rEnds a0_out a1_t KK=bodyOT ⟨Tryz.prog,eU,t_rEnds,[],noP⟩ Tryz.f23 an_rEnds .b8 [(.st .Term)] a0_out a1_t KK:=by kernel_rfl
theorem c_rEnds:Cont Tryz.prog 23 C_rEnds:=k3 ⟨Tryz.prog,eU,t_rEnds,[],noP⟩ (En.okc c_rPut (En.okc c_rNum (En.okc c_rWord En.ok0))) mixed (fn:=Tryz.f23) an_rEnds (by kernel_rfl) (by kernel_rfl) (fun a0_out a1_t hp KK h=>Eq.mp (walk_rEnds a0_out a1_t KK) (law_rEnds a0_out a1_t hp KK h))
def C_rLines:CKt:=pureT [(.st .Program)] [.s] (fun x=>Lt.preRLines x) (fun x=>Lt.rLines x)
def an_rLines:An:=.s .l (.s .l (.j ⟨[1],[.loc 1],[],[.ow 3 [.fr] .b8]⟩ (.s .l (.c .l .l)) (.s (.s .l (.b (.lp ⟨[1],[.loc 1],[],[.ow 3 [.fr] .b8,.sl 4 (.i .i64)]⟩ (.s (.s .l (.c .l .l)) (.j ⟨[1,4],[.loc 1],[],[.ow 3 [.fr] .b8]⟩ (.b .l) .l))))) (.s .l (.s (.s .l (.b (.lp ⟨[1],[.loc 1],[],[.ow 3 [.fr] .b8,.sl 5 (.i .i64)]⟩ (.s (.s .l (.c .l .l)) (.j ⟨[1,5],[.loc 1],[],[.ow 3 [.fr] .b8]⟩ (.b .l) .l))))) (.s (.s .l (.b (.lp ⟨[1],[.loc 1],[],[.ow 3 [.fr] .b8,.sl 6 (.i .i64)]⟩ (.s (.s .l (.c .l .l)) (.s (.b (.s .l (.j ⟨[1,6,7],[.loc 1,.loc 7],[],[.ow 3 [.fr] .b8]⟩ .l (.s .l (.b (.lp ⟨[1,6,7],[.loc 1,.loc 7],[],[.ow 3 [.fr] .b8,.sl 8 (.i .i64)]⟩ (.s (.s .l (.c .l .l)) (.s (.b (.s .l (.s .l (.s (.s .l (.b (.lp ⟨[1,6,7,8,9],[.loc 1,.loc 7,.loc 9],[],[.ow 3 [.fr] .b8,.sl 10 (.i .i64)]⟩ (.s (.s .l (.c .l .l)) (.s (.b (.s .l (.s (.s .l (.b (.lp ⟨[1,3,6,7,8,9,10],[.gh 900003,.loc 1,.loc 7,.loc 9],[],[.ow 11 [.fr] .s,.sl 12 (.i .i64)]⟩ (.s (.s .l (.c .l .l)) (.j ⟨[1,3,6,7,8,9,10,12],[.gh 900003,.loc 1,.loc 7,.loc 9],[],[.ow 11 [.fr] .s]⟩ (.b .l) .l))))) .l))) .l))))) (.s (.s .l (.b (.lp ⟨[1,6,7,8,9],[.loc 1,.loc 7,.loc 9],[],[.ow 3 [.fr] .b8,.sl 13 (.i .i64)]⟩ (.s (.s .l (.c .l .l)) (.s (.b .l) .l))))) .l))))) .l)))))))) .l))))) (.s .l .l)))))))
abbrev t_rLines:CTt:=[(18,C_rPut),(19,C_rVars),(20,C_rNum),(21,C_rWord),(22,C_rCode),(23,C_rEnds)]
theorem walk_rLines (a0_p:Lt.Program) (KK:(List UInt8)->Prop):F_rLines a0_p KK=bodyT ⟨Tryz.prog,eU,t_rLines,[],noP⟩ Tryz.f7 an_rLines [(.st .Program)] [.s] a0_p KK:=by kernel_rfl
theorem c_rLines:Cont Tryz.prog 7 C_rLines:=k1 ⟨Tryz.prog,eU,t_rLines,[],noP⟩ (En.okc c_rPut (En.okc c_rVars (En.okc c_rNum (En.okc c_rWord (En.okc c_rCode (En.okc c_rEnds En.ok0)))))) mixed (fn:=Tryz.f7) an_rLines (by kernel_rfl) (by kernel_rfl) (fun a0_p hp KK h=>Eq.mp (walk_rLines a0_p KK) (law_rLines a0_p hp KK h))
def C_ixInt:CKt:=pureT0 [(.sl (.i .i64)),(.i .i64)] [(.i .i64)] (fun x=>Lt.ixInt x.1 x.2)
def an_ixInt:An:=.s .l (.s (.s .l (.b (.lp ⟨[0,1,7],[],[],[.sl 8 (.i .i64)]⟩ (.s .l (.s (.c .l .l) (.s (.b (.s .l (.s .l (.c (.s .l .l) .l)))) .l)))))) (.s .l .l))
theorem walk_ixInt (a0_s:List Int) (a1_v:Int) (KK:Int->Prop):F_ixInt a0_s a1_v KK=bodyT ⟨Tryz.prog,eU,[],[],noP⟩ Tryz.f97 an_ixInt [(.sl (.i .i64)),(.i .i64)] [(.i .i64)] (a0_s,a1_v) KK:=by kernel_rfl
theorem c_ixInt:Cont Tryz.prog 97 C_ixInt:=k0 ⟨Tryz.prog,eU,[],[],noP⟩ En.ok0 mixed (fn:=Tryz.f97) an_ixInt (by kernel_rfl) (by kernel_rfl) (fun (a0_s,a1_v) KK h=>Eq.mp (walk_ixInt a0_s a1_v KK) (law_ixInt a0_s a1_v KK h))
def C_hasInt:CKt:=lendT [(.sl (.i .i64)),(.i .i64)] [.bo] (fun x=>True) (fun x=>Lt.hasInt x.1 x.2)
def an_hasInt:An:=.s .l (.s .l .l)
abbrev t_hasInt:CTt:=[(97,C_ixInt)]
theorem walk_hasInt (a0_s:List Int) (a1_v:Int) (KK:Bool->Prop):F_hasInt a0_s a1_v KK=bodyT ⟨Tryz.prog,eU,t_hasInt,[],noP⟩ Tryz.f69 an_hasInt [(.sl (.i .i64)),(.i .i64)] [.bo] (a0_s,a1_v) KK:=by kernel_rfl
theorem c_hasInt:Cont Tryz.prog 69 C_hasInt:=k6 ⟨Tryz.prog,eU,t_hasInt,[],noP⟩ (En.okc c_ixInt En.ok0) mixed (fn:=Tryz.f69) an_hasInt (by kernel_rfl) (by kernel_rfl) (fun (a0_s,a1_v) hp KK h=>Eq.mp (walk_hasInt a0_s a1_v KK) (law_hasInt a0_s a1_v KK h))
def C_flPreds:CKt:=pureT [(.sl (.sl (.i .i64)))] [(.sl (.sl (.i .i64)))] (fun x=>Lt.prePreds x) (fun x=>Lt.flPreds x)
def an_flPreds:An:=.s .l (.s .l (.s (.s .l (.b (.lp ⟨[0,11,12],[],[],[.ow 3 [.ow [.fr]] (.sl (.i .i64)),.sl 13 (.i .i64)]⟩ (.s .l (.s (.c .l .l) (.s (.b (.s .l (.s .l (.b (.lp ⟨[0,4,11,12,13,18,19],[],[],[.ow 3 [.ow [.fr]] (.sl (.i .i64)),.sl 20 (.i .i64)]⟩ (.s .l (.s (.c .l .l) (.j ⟨[0,4,11,12,13,18,19,20],[],[],[.ow 3 [.ow [.fr]] (.sl (.i .i64))]⟩ (.b (.s .l (.j ⟨[0,3,4,7,11,12,13,18,19,20],[.gh 900003],[],[.sl 40 .bo]⟩ .l (.c .l .l)))) .l)))))))) .l)))))) (.s .l .l)))
abbrev t_flPreds:CTt:=[(69,C_hasInt)]
theorem walk_flPreds (a0_g:List (List Int)) (KK:(List (List Int))->Prop):F_flPreds a0_g KK=bodyT ⟨Tryz.prog,eU,t_flPreds,eP,noP⟩ Tryz.f49 an_flPreds [(.sl (.sl (.i .i64)))] [(.sl (.sl (.i .i64)))] a0_g KK:=by kernel_rfl
theorem c_flPreds:Cont Tryz.prog 49 C_flPreds:=k1 ⟨Tryz.prog,eU,t_flPreds,eP,noP⟩ (En.okc c_hasInt En.ok0) mixed (fn:=Tryz.f49) an_flPreds (by kernel_rfl) (by kernel_rfl) (fun a0_g hp KK h=>Eq.mp (walk_flPreds a0_g KK) (law_flPreds a0_g hp KK h))
def C_spPlace:CKt:=pureT0 [(.st .Func),.s] [(.i .i64),.bo] (fun x=>Lt.spPlace x.1 x.2)
def an_spPlace:An:=.s .l (.s (.s .l (.b (.lp ⟨[1,9,10],[],[],[.sl 11 (.i .i64)]⟩ (.s .l (.s (.c .l .l) (.s (.b (.s .l (.s .l (.c (.s .l .l) .l)))) .l)))))) (.s .l .l))
theorem walk_spPlace (a0_f:Lt.Func) (a1_name:List UInt8) (KK:(Int×Bool)->Prop):F_spPlace a0_f a1_name KK=bodyT ⟨Tryz.prog,eU,[],[],noP⟩ Tryz.f51 an_spPlace [(.st .Func),.s] [(.i .i64),.bo] (a0_f,a1_name) KK:=by kernel_rfl
theorem c_spPlace:Cont Tryz.prog 51 C_spPlace:=k0 ⟨Tryz.prog,eU,[],[],noP⟩ En.ok0 mixed (fn:=Tryz.f51) an_spPlace (by kernel_rfl) (by kernel_rfl) (fun (a0_f,a1_name) KK h=>Eq.mp (walk_spPlace a0_f a1_name KK) (law_spPlace a0_f a1_name KK h))
def C_flOf:CKt:=pureT [(.st .Func)] [(.sl (.sl (.i .i64)))] (fun x=>Lt.preOf x) (fun x=>Lt.flOf x)
def an_flOf:An:=.s .l (.s .l (.s (.s .l (.b (.lp ⟨[1,15,16],[.loc 1],[],[.ow 3 [.ow [.fr]] (.sl (.i .i64)),.sl 17 (.i .i64)]⟩ (.s .l (.s (.c .l .l) (.s (.b (.s .l (.s .l (.b (.lp ⟨[1,4,15,16,17,24,25],[.loc 1],[],[.ow 3 [.ow [.fr]] (.sl (.i .i64)),.sl 26 (.i .i64)]⟩ (.s .l (.s (.c .l .l) (.j ⟨[1,4,15,16,17,24,25,26],[.loc 1],[],[.ow 3 [.ow [.fr]] (.sl (.i .i64))]⟩ (.b (.s .l (.s .l (.s .l (.c .l .l))))) .l)))))))) .l)))))) (.s .l .l)))
abbrev t_flOf:CTt:=[(51,C_spPlace)]
theorem walk_flOf (a0_f:Lt.Func) (KK:(List (List Int))->Prop):F_flOf a0_f KK=bodyT ⟨Tryz.prog,eU,t_flOf,eP,noP⟩ Tryz.f50 an_flOf [(.st .Func)] [(.sl (.sl (.i .i64)))] a0_f KK:=by kernel_rfl
theorem c_flOf:Cont Tryz.prog 50 C_flOf:=k1 ⟨Tryz.prog,eU,t_flOf,eP,noP⟩ (En.okc c_spPlace En.ok0) mixed (fn:=Tryz.f50) an_flOf (by kernel_rfl) (by kernel_rfl) (fun a0_f hp KK h=>Eq.mp (walk_flOf a0_f KK) (law_flOf a0_f hp KK h))
def C_spWays:CKt:=pureT [(.st .Func)] [(.sl (.st .way))] (fun x=>Lt.preWays x) (fun x=>Lt.spWays x)
def an_spWays:An:=.s .l (.s .l (.s .l (.s (.s .l (.b (.lp ⟨[1,3,15,16],[.loc 1],[],[.ow 4 [.fr,.fr,.fr] (.st .way),.sl 17 (.i .i64)]⟩ (.s .l (.s (.c .l .l) (.j ⟨[1,3,15,16,17],[.loc 1],[],[.ow 4 [.fr,.fr,.fr] (.st .way)]⟩ (.b (.s .l (.s (.s .l (.c .l .l)) (.s .l (.b (.lp ⟨[1,3,5,15,16,17,29,30],[.loc 1],[],[.ow 4 [.fr,.fr,.fr] (.st .way),.sl 31 (.i .i64)]⟩ (.s .l (.s (.c .l .l) (.j ⟨[1,3,5,15,16,17,29,30,31],[.loc 1],[],[.ow 4 [.fr,.fr,.fr] (.st .way)]⟩ (.b (.s .l (.s .l (.j ⟨[1,3,4,5,7,9,15,16,17,29,30,31],[.gh 900004,.loc 1],[],[.sl 50 .bo]⟩ .l (.c .l .l))))) .l))))))))) .l)))))) (.s .l .l))))
abbrev t_spWays:CTt:=[(49,C_flPreds),(50,C_flOf),(51,C_spPlace)]
theorem walk_spWays (a0_f:Lt.Func) (KK:(List Lt.way)->Prop):F_spWays a0_f KK=bodyT ⟨Tryz.prog,eU,t_spWays,[],noP⟩ Tryz.f25 an_spWays [(.st .Func)] [(.sl (.st .way))] a0_f KK:=by kernel_rfl
theorem c_spWays:Cont Tryz.prog 25 C_spWays:=k1 ⟨Tryz.prog,eU,t_spWays,[],noP⟩ (En.okc c_flPreds (En.okc c_flOf (En.okc c_spPlace En.ok0))) mixed (fn:=Tryz.f25) an_spWays (by kernel_rfl) (by kernel_rfl) (fun a0_f hp KK h=>Eq.mp (walk_spWays a0_f KK) (law_spWays a0_f hp KK h))
def C_spAll:CKt:=newST [(.st .Func)] .Func sh0 800100 (fun x=>Lt.preAll x) (fun x=>Lt.spAll x)
def an_taken_spAll:An:=.s .l (.s .l (.s (.s .l (.b (.lp ⟨[1,3,12,13,100000,100001,100002,100010],[.loc 1,.loc 1001,.loc 1002],[],[.sl 14 (.i .i64),.mp (.gh 10) .s .bo]⟩ (.s .l (.s (.c .l .l) (.s (.b (.s .l .l)) .l)))))) (.s (.s .l (.b (.lp ⟨[3,26,27,100000,100001,100002,100010],[.gh 26,.loc 1001,.loc 1002],[],[.sl 28 (.i .i64),.mp (.gh 10) .s .bo]⟩ (.s .l (.s (.c .l .l) (.s (.b (.s .l (.s .l (.b (.lp ⟨[3,26,27,28,32,33,100000,100001,100002,100010],[.gh 26,.loc 1001,.loc 1002],[],[.sl 34 (.i .i64),.mp (.gh 10) .s .bo]⟩ (.s .l (.s (.c .l .l) (.s (.b (.s .l .l)) .l)))))))) .l)))))) (.s .l .l))))
def C_taken_spAll:CKt:=apT (inlT ⟨Tryz.prog,eU,[],eM,noP⟩ Tryz.f24 an_taken_spAll)
def an_fresh_spAll:An:=.s .l (.s .l (.b (.lp ⟨[0,1,100001,100002,100003,100006,100018,100019,100020,100021,100022,100023,100024],[.gh 1010,.loc 2001,.loc 2002,.loc 2006],[],[.sl 5 (.i .i64)]⟩ (.s (.b (.s .l (.s .l (.c (.s .l .l) .l)))) .l))))
def C_fresh_spAll:CKt:=apT (inlT ⟨Tryz.prog,eU,[(56,C_numPut)],eM,noP⟩ Tryz.f27 an_fresh_spAll)
def an_turn_spAll:An:=.s .l (.b (.lp ⟨[0,1,2,9,100001,100002,100003,100006,100007,100008,100009,100018,100019,100020,100021,100022,100023,100024,100025,100026,100027,100028,100029,100030,100031,100032,100033,100034,100035,100036,100037,100038,100039,100040,100041,100042,100043,100044,100045,100046,100047,100048,100049,100050],[.gh 1010,.loc 2002,.loc 2006],[],[.sl 10 (.i .i64),.rt (.loc 2001) sh0 (.st .Func)]⟩ (.s .l (.s (.c .l .l) (.s (.b (.s .l (.s .l (.b (.lp ⟨[0,1,2,6,9,10,18,100001,100002,100003,100006,100007,100008,100009,100018,100019,100020,100021,100022,100023,100024,100025,100026,100027,100028,100029,100030,100031,100032,100033,100034,100035,100036,100037,100038,100039,100040,100041,100042,100043,100044,100045,100046,100047,100048,100049,100050],[.gh 1010,.loc 2002,.loc 2006],[],[.sl 19 (.i .i64),.rt (.loc 2001) sh0 (.st .Func)]⟩ (.s .l (.s (.c .l .l) (.j ⟨[0,1,2,6,9,10,18,19,100001,100002,100003,100006,100007,100008,100009,100018,100019,100020,100021,100022,100023,100024,100025,100026,100027,100028,100029,100030,100031,100032,100033,100034,100035,100036,100037,100038,100039,100040,100041,100042,100043,100044,100045,100046,100047,100048,100049,100050],[.gh 1010,.loc 2002,.loc 2006],[],[.rt (.loc 2001) sh0 (.st .Func)]⟩ (.b (.s .l (.s .l (.c .l .l)))) .l)))))))) .l)))))
def C_turn_spAll:CKt:=apT (inlT ⟨Tryz.prog,eU,[],eM,noP⟩ Tryz.f28 an_turn_spAll)
def an_spAll:An:=.s .l (.s .l (.s .l (.s .l (.s (.s .l (.b (.lp ⟨[1,2,3,18,19],[.loc 2],[],[.sl 20 (.i .i64),.mp (.gh 1010) .s .bo,.rt (.loc 1) sh0 (.st .Func)]⟩ (.s .l (.s (.c .l .l) (.s (.b (.s .l (.s .l (.s .l (.s .l (.s .l (.s .l .l))))))) .l)))))) (.s .l .l)))))
abbrev t_spAll:CTt:=[(24,C_taken_spAll),(25,C_spWays),(26,C_copied),(27,C_fresh_spAll),(28,C_turn_spAll)]
theorem walk_spAll (a0_f:Lt.Func) (KK:Lt.Func->Prop):F_spAll a0_f KK=bodyNT ⟨Tryz.prog,eU,t_spAll,eM,noP⟩ Tryz.f8 an_spAll [(.st .Func)] .Func sh0 a0_f KK:=by kernel_rfl
theorem c_spAll:Cont Tryz.prog 8 C_spAll:=k7 ⟨Tryz.prog,eU,t_spAll,eM,noP⟩ (En.okc (Cont_ap (Cont_inl En.ok0 mixed (fn:=Tryz.f24) (by kernel_rfl) (by kernel_rfl) (by kernel_rfl) (by kernel_rfl) (by kernel_rfl))) (En.okc c_spWays (En.okc c_copied (En.okc (Cont_ap (Cont_inl (En.okc c_numPut En.ok0) mixed (fn:=Tryz.f27) (by kernel_rfl) (by kernel_rfl) (by kernel_rfl) (by kernel_rfl) (by kernel_rfl))) (En.okc (Cont_ap (Cont_inl En.ok0 mixed (fn:=Tryz.f28) (by kernel_rfl) (by kernel_rfl) (by kernel_rfl) (by kernel_rfl) (by kernel_rfl))) En.ok0))))) mixed (fn:=Tryz.f8) an_spAll (by kernel_rfl) (by kernel_rfl) (fun a0_f hp KK h=>Eq.mp (walk_spAll a0_f KK) (law_spAll a0_f hp KK h))
def an_SplitKeeps:An:=.s .l (.s (.j ⟨[1],[.loc 1],[],[.sl 16 .bo]⟩ .l (.c (.s .l .l) .l)) (.s .l (.s .l (.s .l (.s (.s .l (.b (.lp ⟨[3,4,5],[.loc 3],[],[.sl 6 (.i .i64),.rt (.loc 5) sh0 (.st .Func)]⟩ (.s (.s .l (.c .l .l)) (.s (.b (.s (.s .l (.b (.lp ⟨[3,4,5,6],[.loc 3],[],[.sl 7 (.i .i64),.rt (.loc 5) sh0 (.st .Func)]⟩ (.s (.s .l (.c .l .l)) (.s (.b (.s (.s .l (.b (.lp ⟨[3,4,5,6,7],[.loc 3],[],[.sl 8 (.i .i64),.rt (.loc 5) sh0 (.st .Func)]⟩ (.s (.s .l (.c .l .l)) (.s (.b .l) .l))))) .l)) .l))))) (.s (.s .l (.b (.lp ⟨[3,4,5,6],[.loc 3],[],[.sl 9 (.i .i64),.rt (.loc 5) sh0 (.st .Func)]⟩ (.s (.s .l (.c .l .l)) (.s (.b .l) .l))))) .l))) .l))))) (.s .l .l))))))
abbrev t_SplitKeeps:CTt:=[(5,C_awake17),(6,C_few17),(7,C_rLines),(8,C_spAll)]
theorem walk_SplitKeeps (a0_f:Lt.Func) (KK:Bool->Prop):F_SplitKeeps a0_f KK=bodyT ⟨Tryz.prog,eU,t_SplitKeeps,eA,noP⟩ Tryz.f3 an_SplitKeeps [(.st .Func)] [.bo] a0_f KK:=by kernel_rfl
theorem en_SplitKeeps:En.ok ⟨Tryz.prog,eU,t_SplitKeeps,eA,noP⟩:=(En.okc c_awake17 (En.okc c_few17 (En.okc c_rLines (En.okc c_spAll En.ok0))))
end Go.Am
end

section
namespace Go.Am
open Go
set_option linter.unusedVariables false
set_option linter.unusedSimpArgs false
def Bd (d:Nat):Int:=562949953421312+3001*((min d 10:Nat):Int)
theorem bd_ge (d:Nat):562949953421312<=Bd d/\Bd d<=562949953621322:=by unfold Bd; omega
def Pc (d:Nat) (b:Int) (w:Nat) (r:Int):Prop:=(3000<r/\r<=Bd d)\/(r=b+(w:Int)/\r<=3000)
def short (s:List UInt8):Prop:=s.length<=140737488355328
theorem cnt_P {α:Type} {d:Nat} (go:List α->Int->Int) (s:Int->α->Int) (w:α->Nat) (h0:∀ b,go [] b=b) (h1:∀ x r b,go (x::r) b=if b<=3000 then go r (s b x) else b) (ok:α->Prop)
  (hs:∀ b x,ok x->0<=b->b<=3000->Pc d b (w x) (s b x)):∀ (l:List α) (b:Int),(∀ x∈l,ok x)->0<=b->b<=Bd d->Pc d b (l.map w).sum (go l b)
 | [],b,_,h2,h3=>by
  rw [h0]; unfold Pc
  simp only [List.map_nil,List.sum_nil]
  omega
 | x::r,b,hok,h2,h3=>by
  rw [h1]
  by_cases hb:b<=3000
  ·rw [if_pos hb]
   have hx:=hs b x (hok x (by simp)) h2 hb
   have hB:=bd_ge d
   have h4:0<=s b x/\s b x<=Bd d:=by unfold Pc at hx; omega
   have ih:=cnt_P go s w h0 h1 ok hs r (s b x) (fun y hy=>hok y (by simp [hy])) h4.1 h4.2
   unfold Pc at hx ih ⊢
   simp only [List.map_cons,List.sum_cons]
   omega
  ·rw [if_neg hb]
   unfold Pc
   omega
theorem plus_eq {n:Int} {k:Nat} (h1:0<=n) (h2:n<=1152921504606846976) (h3:k<=1152921504606846976):Lt.plus n k=n+(k:Int):=by
 unfold Lt.plus
 exact wrap_small (by omega) (by omega)
theorem wrap_eq {n:Int} (h1:0<=n) (h2:n<=4611686018427387904):IntKind.i64.wrap n=n:=wrap_small (by omega) (by omega)
def wVar (v:Lt.Var):Nat:=v.Name.length+v.Type_.length
def wVars (l:List Lt.Var):Nat:=l.length+(l.map wVar).sum
def wArg (a:Lt.Arg):Nat:=a.S.length
def wArgs (l:List Lt.Arg):Nat:=l.length+(l.map wArg).sum
def wBind (b:Lt.Bind):Nat:=1+b.Name.length+b.A.S.length
def wFrame (f:Lt.Frame):Nat:=f.Func.length+f.Block.length+(f.Vars.map wBind).sum
def wObj (o:Lt.Virt):Nat:=o.Class.length+wArgs o.Vals
def wInstr (x:Lt.Instr):Nat:=1+x.Dst.length+x.Frames.length+x.Objs.length+x.Name.length+wArgs x.Args+(x.Frames.map wFrame).sum+(x.Objs.map wObj).sum
def wIn (b:Lt.In):Nat:=1+b.Block.length+b.A.S.length
def wPhi (x:Lt.Phi):Nat:=1+x.Dst.length+(x.Ins.map wIn).sum
def wTo (t:List UInt8):Nat:=1+t.length
def wBlock (b:Lt.Block):Nat:=1+b.Name.length+b.End.A.S.length+(b.End.To.map wTo).sum+(b.Phis.map wPhi).sum+(b.Code.map wInstr).sum
def wFunc (f:Lt.Func):Nat:=1+f.Name.length+f.Result.length+wVars f.Params+wVars f.Vars+(f.Blocks.map wBlock).sum
def sVar (v:Lt.Var):Prop:=short v.Name/\short v.Type_
def sArg (a:Lt.Arg):Prop:=short a.S
def sBind (b:Lt.Bind):Prop:=short b.Name/\sArg b.A
def sFrame (f:Lt.Frame):Prop:=short f.Func/\short f.Block/\∀ b∈f.Vars,sBind b
def sObj (o:Lt.Virt):Prop:=short o.Class/\∀ a∈o.Vals,sArg a
def sInstr (x:Lt.Instr):Prop:=short x.Dst/\short x.Name/\(∀ a∈x.Args,sArg a)/\(∀ f∈x.Frames,sFrame f)/\∀ o∈x.Objs,sObj o
def sIn (b:Lt.In):Prop:=short b.Block/\sArg b.A
def sPhi (x:Lt.Phi):Prop:=short x.Dst/\∀ i∈x.Ins,sIn i
def sBlock (b:Lt.Block):Prop:=short b.Name/\sArg b.End.A/\(∀ t∈b.End.To,short t)/\(∀ x∈b.Phis,sPhi x)/\∀ i∈b.Code,sInstr i
def sFunc (f:Lt.Func):Prop:=short f.Name/\short f.Result/\(∀ v∈f.Params,sVar v)/\(∀ v∈f.Vars,sVar v)/\∀ b∈f.Blocks,sBlock b
theorem upto_P {d:Nat} {b0:Int} {w0:Nat} {n:Int} {k:Nat} {r:Int} (hd:d < 9) (h0:0<=b0) (h:Pc (d+1) b0 w0 n) (hk:Pc d 0 k r):Pc (d+1) b0 (w0+k) (Lt.upto 3000 n r):=by
 unfold Lt.upto
 unfold Pc Bd at h hk ⊢
 split
 ·rw [wrap_eq (by omega) (by omega)]; omega
 ·omega
theorem more_P {d:Nat} {b0:Int} {w0:Nat} {n:Int} {k:Nat} (h0:0<=b0) (h:Pc d b0 w0 n) (hk:k<=140737488355328):Pc d b0 (w0+k) (if n<=3000 then Lt.plus n k else n):=by
 unfold Pc Bd at h ⊢
 split
 ·rw [plus_eq (by omega) (by omega) (by omega)]; omega
 ·omega
theorem len_P {d:Nat} {k:Nat} (hk:k<=140737488355328):Pc d 0 k (k:Int):=by unfold Pc Bd; omega
theorem cVars_P {d:Nat} (l:List Lt.Var) (b:Int) (h:∀ v∈l,sVar v) (h0:0<=b) (h1:b<=Bd d):Pc d b (l.map wVar).sum (Lt.cVars 3000 l b):=by
 refine cnt_P (Lt.cVars 3000) (fun n v=>if Lt.plus n v.Name.length<=3000 then Lt.plus (Lt.plus n v.Name.length) v.Type_.length else Lt.plus n v.Name.length) wVar (fun _=>rfl) (fun _ _ _=>rfl) sVar (fun b x hx h0 h1=>?_) l b h h0 h1
 have hn:Pc d b x.Name.length (Lt.plus b x.Name.length):=by
  have:=hx.1; unfold short at this
  unfold Pc Bd; rw [plus_eq h0 (by omega) (by omega)]; omega
 exact more_P h0 hn hx.2
theorem countVars_P {d:Nat} (l:List Lt.Var) (h:∀ v∈l,sVar v):Pc d 0 (wVars l) (Lt.countVars l 3000):=by
 unfold Lt.countVars wVars
 split
 ·rw [wrap_eq (by omega) (by omega)]; unfold Pc Bd; omega
 ·have:=cVars_P (d:=d) l (l.length:Int) h (by omega) (by have:=bd_ge d; omega)
  unfold Pc at this ⊢; omega
theorem cArgs_P {d:Nat} (l:List Lt.Arg) (b:Int) (h:∀ v∈l,sArg v) (h0:0<=b) (h1:b<=Bd d):Pc d b (l.map wArg).sum (Lt.cArgs 3000 l b):=by
 refine cnt_P (Lt.cArgs 3000) (fun n v=>Lt.plus n v.S.length) wArg (fun _=>rfl) (fun _ _ _=>rfl) sArg (fun b x hx h0 h1=>?_) l b h h0 h1
 unfold sArg short at hx
 unfold Pc Bd wArg; rw [plus_eq h0 (by omega) (by omega)]; omega
theorem countArgs_P {d:Nat} (l:List Lt.Arg) (h:∀ v∈l,sArg v):Pc d 0 (wArgs l) (Lt.countArgs l 3000):=by
 unfold Lt.countArgs wArgs
 split
 ·rw [wrap_eq (by omega) (by omega)]; unfold Pc Bd; omega
 ·have:=cArgs_P (d:=d) l (l.length:Int) h (by omega) (by have:=bd_ge d; omega)
  unfold Pc at this ⊢; omega
theorem one_P {d:Nat} {b:Int} {k:Nat} (h0:0<=b) (h1:b<=3000) (hk:k<=140737488355328):Pc d b (1+k) (Lt.plus (IntKind.i64.wrap (b+1)) k):=by
 rw [wrap_eq (by omega) (by omega),plus_eq (by omega) (by omega) (by omega)]; unfold Pc Bd; omega
theorem cBinds_P {d:Nat} (l:List Lt.Bind) (b:Int) (h:∀ v∈l,sBind v) (h0:0<=b) (h1:b<=Bd d):Pc d b (l.map wBind).sum (Lt.cBinds 3000 l b):=by
 refine cnt_P (Lt.cBinds 3000) (fun n b=>if Lt.plus (IntKind.i64.wrap (n+1)) b.Name.length<=3000 then Lt.plus (Lt.plus (IntKind.i64.wrap (n+1)) b.Name.length) b.A.S.length else Lt.plus (IntKind.i64.wrap (n+1)) b.Name.length) wBind (fun _=>rfl) (fun _ _ _=>rfl) sBind (fun b x hx h0 h1=>?_) l b h h0 h1
 exact more_P h0 (one_P h0 h1 hx.1) hx.2
theorem cIns_P {d:Nat} (l:List Lt.In) (b:Int) (h:∀ v∈l,sIn v) (h0:0<=b) (h1:b<=Bd d):Pc d b (l.map wIn).sum (Lt.cIns 3000 l b):=by
 refine cnt_P (Lt.cIns 3000) (fun n b=>if Lt.plus (IntKind.i64.wrap (n+1)) b.Block.length<=3000 then Lt.plus (Lt.plus (IntKind.i64.wrap (n+1)) b.Block.length) b.A.S.length else Lt.plus (IntKind.i64.wrap (n+1)) b.Block.length) wIn (fun _=>rfl) (fun _ _ _=>rfl) sIn (fun b x hx h0 h1=>?_) l b h h0 h1
 exact more_P h0 (one_P h0 h1 hx.1) hx.2
theorem Pc_then {d:Nat} {b:Int} {w w':Nat} {n r:Int} (h0:0<=b) (h:Pc d b w n) (h':0<=n->n<=Bd d->Pc d n w' r):Pc d b (w+w') r:=by
 have hB:=bd_ge d
 have h2:=h' (by unfold Pc at h; omega) (by unfold Pc at h; omega)
 unfold Pc at h h2 ⊢; omega
theorem plus_P {d:Nat} {b:Int} {k:Nat} (h0:0<=b) (h1:b<=3000) (hk:k<=140737488355328):Pc d b k (Lt.plus b k):=by
 rw [plus_eq (by omega) (by omega) (by omega)]; unfold Pc Bd; omega
theorem cFrames_P {d:Nat} (l:List Lt.Frame) (b:Int) (h:∀ v∈l,sFrame v) (h0:0<=b) (h1:b<=Bd d):Pc d b (l.map wFrame).sum (Lt.cFrames 3000 l b):=by
 refine cnt_P (Lt.cFrames 3000) (fun n f=>Lt.cBinds 3000 f.Vars (if Lt.plus n f.Func.length<=3000 then Lt.plus (Lt.plus n f.Func.length) f.Block.length else Lt.plus n f.Func.length)) wFrame (fun _=>rfl) (fun _ _ _=>rfl) sFrame (fun b x hx h0 h1=>?_) l b h h0 h1
 exact Pc_then h0 (more_P h0 (plus_P h0 h1 hx.1) hx.2.1) (cBinds_P x.Vars _ hx.2.2)
theorem cObjs_P {d:Nat} (hd:d < 9) (l:List Lt.Virt) (b:Int) (h:∀ v∈l,sObj v) (h0:0<=b) (h1:b<=Bd (d+1)):Pc (d+1) b (l.map wObj).sum (Lt.cObjs 3000 l b):=by
 refine cnt_P (Lt.cObjs 3000) (fun n o=>if Lt.plus n o.Class.length<=3000 then IntKind.i64.wrap (Lt.plus n o.Class.length+Lt.countArgs o.Vals 3000) else Lt.plus n o.Class.length) wObj (fun _=>rfl) (fun _ _ _=>rfl) sObj (fun b x hx h0 h1=>?_) l b h h0 h1
 exact upto_P hd h0 (plus_P h0 h1 hx.1) (countArgs_P _ hx.2)
theorem cTo_P {d:Nat} (l:List (List UInt8)) (b:Int) (h:∀ v∈l,short v) (h0:0<=b) (h1:b<=Bd d):Pc d b (l.map wTo).sum (Lt.cTo 3000 l b):=by
 refine cnt_P (Lt.cTo 3000) (fun n t=>Lt.plus (IntKind.i64.wrap (n+1)) t.length) wTo (fun _=>rfl) (fun _ _ _=>rfl) short (fun b x hx h0 h1=>?_) l b h h0 h1
 exact one_P h0 h1 hx
theorem cPhis_P {d:Nat} (l:List Lt.Phi) (b:Int) (h:∀ v∈l,sPhi v) (h0:0<=b) (h1:b<=Bd d):Pc d b (l.map wPhi).sum (Lt.cPhis 3000 l b):=by
 refine cnt_P (Lt.cPhis 3000) (fun n x=>Lt.cIns 3000 x.Ins (Lt.plus (IntKind.i64.wrap (n+1)) x.Dst.length)) wPhi (fun _=>rfl) (fun _ _ _=>rfl) sPhi (fun b x hx h0 h1=>?_) l b h h0 h1
 exact Pc_then h0 (one_P h0 h1 hx.1) (cIns_P x.Ins _ hx.2)
theorem add_P {d:Nat} {b:Int} {w k:Nat} {n r:Int} (hd:d < 9) (h0:0<=b) (hn:n=b+(w:Int)) (h1:n<=3000) (hk:Pc d 0 k r):Pc (d+1) b (w+k) (IntKind.i64.wrap (n+r)):=by
 unfold Pc Bd at hk ⊢
 rw [wrap_eq (by omega) (by omega)]; omega
theorem countInstr_P (x:Lt.Instr) (h:sInstr x):Pc 1 0 (wInstr x) (Lt.countInstr x 3000):=by
 obtain ⟨h1,h2,h3,h4,h5⟩:=h
 unfold short at h1 h2
 unfold Lt.countInstr
 split
 ·rename_i hc
  rw [wrap_eq (by omega) (by omega)]; unfold Pc Bd; omega
 ·rename_i hc
  simp only [Bool.or_eq_true,decide_eq_true_eq,not_or] at hc
  have e:Lt.plus (Lt.plus (Lt.plus 1 x.Dst.length) x.Frames.length) x.Objs.length=1+(x.Dst.length:Int)+x.Frames.length+x.Objs.length:=by
   have e1:=plus_eq (n:=1) (k:=x.Dst.length) (by omega) (by omega) (by omega)
   have e2:=plus_eq (n:=1+(x.Dst.length:Int)) (k:=x.Frames.length) (by omega) (by omega) (by omega)
   have e3:=plus_eq (n:=1+(x.Dst.length:Int)+x.Frames.length) (k:=x.Objs.length) (by omega) (by omega) (by omega)
   rw [e1,e2,e3]
  have p1:Pc 1 0 (1+x.Dst.length+x.Frames.length+x.Objs.length) (Lt.plus (Lt.plus (Lt.plus 1 x.Dst.length) x.Frames.length) x.Objs.length):=by
   rw [e]; unfold Pc Bd; omega
  have p2:=upto_P (by omega) (by omega) p1 (len_P h2)
  have p3:=upto_P (by omega) (by omega) p2 (countArgs_P x.Args h3)
  have p4:=Pc_then (by omega) p3 (cFrames_P x.Frames _ h4)
  exact Pc_then (by omega) p4 (cObjs_P (by omega) x.Objs _ h5)
theorem cCode_P (l:List Lt.Instr) (b:Int) (h:∀ v∈l,sInstr v) (h0:0<=b) (h1:b<=Bd 2):Pc 2 b (l.map wInstr).sum (Lt.cCode 3000 l b):=by
 refine cnt_P (Lt.cCode 3000) (fun n x=>IntKind.i64.wrap (n+Lt.countInstr x 3000)) wInstr (fun _=>rfl) (fun _ _ _=>rfl) sInstr (fun b x hx h0 h1=>?_) l b h h0 h1
 have:=add_P (b:=b) (w:=0) (n:=b) (by omega) h0 (by omega) h1 (countInstr_P x hx)
 rwa [Nat.zero_add] at this
theorem countBlock_P (x:Lt.Block) (h:sBlock x):Pc 2 0 (wBlock x) (Lt.countBlock x 3000):=by
 obtain ⟨h1,h2,h3,h4,h5⟩:=h
 unfold sArg at h2
 unfold short at h1 h2
 unfold Lt.countBlock
 split
 ·rw [wrap_eq (by omega) (by omega)]; unfold Pc Bd; omega
 ·have p1:Pc 2 0 (1+x.Name.length) (Lt.plus 1 x.Name.length):=by
   rw [plus_eq (by omega) (by omega) (by omega)]; unfold Pc Bd; omega
  have p2:=upto_P (by omega) (by omega) p1 (len_P h2)
  have p3:=Pc_then (by omega) p2 (cTo_P x.End.To _ h3)
  have p4:=Pc_then (by omega) p3 (cPhis_P x.Phis _ h4)
  exact Pc_then (by omega) p4 (cCode_P x.Code _ h5)
theorem cBlocks_P (l:List Lt.Block) (b:Int) (h:∀ v∈l,sBlock v) (h0:0<=b) (h1:b<=Bd 3):Pc 3 b (l.map wBlock).sum (Lt.cBlocks 3000 l b):=by
 refine cnt_P (Lt.cBlocks 3000) (fun n x=>IntKind.i64.wrap (n+Lt.countBlock x 3000)) wBlock (fun _=>rfl) (fun _ _ _=>rfl) sBlock (fun b x hx h0 h1=>?_) l b h h0 h1
 have:=add_P (b:=b) (w:=0) (n:=b) (by omega) h0 (by omega) h1 (countBlock_P x hx)
 rwa [Nat.zero_add] at this
theorem FewFunc_P (f:Lt.Func) (h:sFunc f):Pc 3 0 (wFunc f) (Lt.FewFunc f 3000):=by
 obtain ⟨h1,h2,h3,h4,h5⟩:=h
 unfold short at h1 h2
 unfold Lt.FewFunc
 split
 ·rw [wrap_eq (by omega) (by omega)]; unfold Pc Bd; omega
 ·have p1:Pc 3 0 (1+f.Name.length) (Lt.plus 1 f.Name.length):=by
   rw [plus_eq (by omega) (by omega) (by omega)]; unfold Pc Bd; omega
  have p2:=upto_P (by omega) (by omega) p1 (len_P h2)
  have p3:=upto_P (by omega) (by omega) p2 (countVars_P f.Params h3)
  have p4:=upto_P (by omega) (by omega) p3 (countVars_P f.Vars h4)
  exact Pc_then (by omega) p4 (cBlocks_P f.Blocks _ h5)
theorem fm_le {α β:Type} (g:α->List β) (w:α->Nat) (k:Nat):∀ (l:List α),(∀ x∈l,(g x).length<=k*w x)->(l.flatMap g).length<=k*(l.map w).sum
 | [],_=>by simp
 | x::r,h=>by
  have h1:=h x (by simp)
  have h2:=fm_le g w k r (fun y hy=>h y (by simp [hy]))
  simp only [List.flatMap_cons,List.length_append,List.map_cons,List.sum_cons,Nat.mul_add]
  omega
theorem sum1 {α:Type} (w:α->Nat):∀ (l:List α),(l.map fun x=>1+w x).sum=l.length+(l.map w).sum
 | []=>by simp
 | x::r=>by
  have:=sum1 w r
  simp only [List.map_cons,List.sum_cons,List.length_cons,this]
  omega
def lw (ws:List (List UInt8)):Nat:=(ws.map fun w=>w.length+1).sum
theorem lw_append (a b:List (List UInt8)):lw (a++b)=lw a+lw b:=by simp [lw]
theorem lw_cons (a:List UInt8) (b:List (List UInt8)):lw (a::b)=a.length+1+lw b:=by simp [lw]
theorem lw_nil:lw []=0:=rfl
theorem jw_lw:∀ (ws:List (List UInt8)) (b:Bool),(Lt.jw b ws).length<=lw ws
 | [],_=>by simp [Lt.jw]
 | w::r,b=>by
  have:=jw_lw r true
  rw [Lt.jw,lw_cons]
  simp only [List.length_append]
  have:(if b=true then [32] else ([]:List UInt8)).length<=1:=by split <;> simp
  omega
theorem lnT_lw (ws:List (List UInt8)):(Lt.lnT ws).length<=lw ws+1:=by
 have:=jw_lw ws false
 simp only [Lt.lnT,List.length_append,List.length_cons,List.length_nil]
 omega
theorem rNum_len {n:Int} (h:Lt.inR n):(Lt.rNum n).length<=20:=numPut_len h
theorem hexR_len:∀ (k:Nat) (x:Int) (l:List UInt8),(Lt.hexR k x l).length=k+l.length
 | 0,_,_=>by simp [Lt.hexR]
 | k+1,x,l=>by rw [Lt.hexR,hexR_len k]; simp; omega
theorem rWord_len {a:Lt.Arg} (h:a.ok):(Lt.rWord a).length<=a.S.length+25:=by
 have h1:=rNum_len h
 have h2:(Lt.rFlo a.N).length=18:=by simp [Lt.rFlo,hexR_len]
 unfold Lt.rWord
 repeat' split
 all_goals (try simp only [List.length_cons,List.length_nil])
 all_goals omega
theorem gw_len (n:Nat):(gw.getD n default).length<=10:=by
 have h:∀ w∈gw,w.length<=10:=by decide
 rw [List.getD]
 cases hn:gw[n]? with
 | none=>simp; exact Nat.zero_le _
 | some w=>
  simp only [Option.getD_some]
  exact h w (List.mem_of_getElem? hn)
theorem rOf_len (op:Int):(Lt.rOf op).1.Word.length<=10:=by
 unfold Lt.rOf
 split
 ·simp
 ·exact gw_len _
theorem rVarsT_len (first:List UInt8) (hf:first.length<=6) (l:List Lt.Var):(Lt.rVarsT first l).length<=20*wVars l:=by
 have:=fm_le (fun v:Lt.Var=>Lt.lnT [first,v.Name,v.Type_]) (fun v=>1+wVar v) 20 l (fun v _=>by
  have:=lnT_lw [first,v.Name,v.Type_]
  simp only [lw_cons,lw_nil] at this
  unfold wVar
  omega)
 rw [sum1] at this
 exact this
theorem words_len {l:List Lt.Arg} (h:Lt.argsOk l):lw (l.map Lt.rWord)<=30*wArgs l:=by
 induction l with
 | nil=>simp [lw]
 | cons a r ih=>
  have h1:=ih (fun x hx=>h x (List.mem_cons_of_mem _ hx))
  have h2:=rWord_len (h a (by simp))
  simp only [wArgs,List.map_cons,List.sum_cons,List.length_cons,lw_cons,wArg] at h1 ⊢
  omega
theorem bind_len {α:Type} (n:α->List UInt8) (a:α->Lt.Arg) (l:List α) (h:∀ b∈l,(a b).ok):lw (l.flatMap fun b=>[n b,Lt.rWord (a b)])<=30*(l.map fun b=>1+(n b).length+(a b).S.length).sum:=by
 induction l with
 | nil=>simp [lw]
 | cons b r ih=>
  have h1:=ih (fun x hx=>h x (List.mem_cons_of_mem _ hx))
  have h2:=rWord_len (h b (by simp))
  simp only [List.flatMap_cons,lw_append,lw_cons,lw_nil,List.map_cons,List.sum_cons]
  omega
theorem frame_len {f:Lt.Frame} (h:f.ok) (hn:Lt.inR f.At):(Lt.lnT (Lt.rFrameW f)).length<=40*(1+wFrame f):=by
 have h1:=lnT_lw (Lt.rFrameW f)
 have h2:=bind_len (fun b:Lt.Bind=>b.Name) (fun b=>b.A) f.Vars (fun b hb=>h.2 b hb)
 have h3:=rNum_len hn
 simp only [Lt.rFrameW,lw_append,lw_cons,lw_nil,List.length_cons,List.length_nil] at h1
 unfold wFrame
 have:(f.Vars.map wBind).sum=(f.Vars.map fun b=>1+b.Name.length+b.A.S.length).sum:=rfl
 rw [this]
 simp only [Lt.rFrameW]
 omega
theorem virt_len {o:Lt.Virt} (h:o.ok):(Lt.lnT (Lt.rVirtW o)).length<=40*(1+wObj o):=by
 have h1:=lnT_lw (Lt.rVirtW o)
 have h2:=words_len (l:=o.Vals) h
 simp only [Lt.rVirtW,lw_append,lw_cons,lw_nil,List.length_cons,List.length_nil] at h1
 unfold wObj
 simp only [Lt.rVirtW]
 omega
theorem words_take {l:List Lt.Arg}:lw ((l.take 1).map Lt.rWord)+lw ((l.drop 1).map Lt.rWord)=lw (l.map Lt.rWord):=by
 rw [<- lw_append,<- List.map_append,List.take_append_drop]
theorem code_len {x:Lt.Instr} (h:x.ok) (hn:∀ f∈x.Frames,Lt.inR f.At):(Lt.rCodeT x).length<=40*wInstr x:=by
 obtain ⟨okA,okF,okO⟩:=h
 have h1:=lnT_lw (Lt.rWords x)
 have h2:=words_len okA
 have h3:=rOf_len x.Op
 have h4:=fm_le (fun f=>Lt.lnT (Lt.rFrameW f)) (fun f=>1+wFrame f) 40 x.Frames (fun f hf=>frame_len (okF f hf) (hn f hf))
 have h5:=fm_le (fun o=>Lt.lnT (Lt.rVirtW o)) (fun o=>1+wObj o) 40 x.Objs (fun o ho=>virt_len (okO o ho))
 rw [sum1] at h4 h5
 have hh:lw (Lt.rHead x)<=x.Dst.length+20:=by
  simp only [Lt.rHead,lw_append,lw_cons,lw_nil]
  split
  ·simp only [lw_cons,lw_nil,List.length_cons,List.length_nil]; omega
  ·simp only [lw_nil]; omega
 have hw:lw (Lt.rWords x)<=x.Dst.length+x.Name.length+21+lw (x.Args.map Lt.rWord):=by
  unfold Lt.rWords
  split
  ·have:=words_take (l:=x.Args)
   simp only [lw_append,lw_cons,lw_nil]
   omega
  ·simp only [lw_append]
   split
   ·simp only [lw_cons,lw_nil]; omega
   ·simp only [lw_nil]; omega
 simp only [Lt.rCodeT,List.length_append]
 unfold wInstr
 omega
theorem to_len (l:List (List UInt8)):lw l=(l.map wTo).sum:=by
 unfold lw wTo
 congr 1
 exact List.map_congr_left (fun x _=>by omega)
theorem kind_word (n:Nat):(([[],[106,117,109,112],[98,114,97,110,99,104],[114,101,116],[116,114,97,112]]:List (List UInt8)).getD n default).length<=10:=by
 match n with
 | 0=>decide
 | 1=>decide
 | 2=>decide
 | 3=>decide
 | 4=>decide
 | n+5=>simp; exact Nat.zero_le _
theorem end_len {t:Lt.Term} (h:t.ok):(Lt.rEndT t).length<=70+t.A.S.length+(t.To.map wTo).sum:=by
 unfold Lt.rEndT
 split
 ·simp
 ·have h1:=lnT_lw (Lt.rEndW t)
  have h2:=rWord_len h.1
  have h3:=rNum_len h.2
  have h4:=kind_word t.Kind.toNat
  have h5:=to_len t.To
  unfold Lt.rEndW at h1 ⊢
  simp only [lw_append,lw_cons,lw_nil] at h1
  have h6:lw (if t.Kind=2\/t.Kind=3 then [Lt.rWord t.A] else [])<=t.A.S.length+26:=by
   split
   ·simp only [lw_cons,lw_nil]; omega
   ·simp only [lw_nil]; omega
  have h7:lw (if t.Kind=4 then [Lt.rNum t.N] else [])<=21:=by
   split
   ·simp only [lw_cons,lw_nil]; omega
   ·simp only [lw_nil]; omega
  omega
theorem phi_len {x:Lt.Phi} (h:x.ok):(Lt.lnT (Lt.rPhiW x)).length<=40*wPhi x:=by
 have h1:=lnT_lw (Lt.rPhiW x)
 have h2:=bind_len (fun b:Lt.In=>b.Block) (fun b=>b.A) x.Ins (fun b hb=>h.2 b hb)
 simp only [Lt.rPhiW,lw_append,lw_cons,lw_nil,List.length_cons,List.length_nil] at h1
 unfold wPhi
 have:(x.Ins.map wIn).sum=(x.Ins.map fun b=>1+b.Block.length+b.A.S.length).sum:=rfl
 rw [this]
 simp only [Lt.rPhiW]
 omega
theorem block_len {b:Lt.Block} (h:b.ok) (hn:∀ i∈b.Code,∀ f∈i.Frames,Lt.inR f.At):(Lt.rBlockT b).length<=100*wBlock b:=by
 have h1:=lnT_lw [[98,108,111,99,107],b.Name]
 simp only [lw_cons,lw_nil,List.length_cons,List.length_nil] at h1
 have h2:=fm_le (fun x=>Lt.lnT (Lt.rPhiW x)) wPhi 40 b.Phis (fun x hx=>phi_len (h.1 x hx))
 have h3:=fm_le Lt.rCodeT wInstr 40 b.Code (fun x hx=>code_len (h.2.1 x hx) (hn x hx))
 have h4:=end_len h.2.2
 simp only [Lt.rBlockT,List.length_append]
 unfold wBlock
 omega
theorem func_len {f:Lt.Func} (h:f.ok) (hn:∀ b∈f.Blocks,∀ i∈b.Code,∀ r∈i.Frames,Lt.inR r.At):(Lt.rFuncT f).length<=100*wFunc f:=by
 have h1:=lnT_lw [[102,117,110,99],f.Name,f.Result]
 simp only [lw_cons,lw_nil,List.length_cons,List.length_nil] at h1
 have h2:=fm_le Lt.rBlockT wBlock 100 f.Blocks (fun x hx=>block_len (h x hx) (hn x hx))
 have h3:=rVarsT_len [112,97,114,97,109] (by decide) f.Params
 have h4:=rVarsT_len [118,97,114] (by decide) f.Vars
 simp only [Lt.rFuncT,List.length_append]
 unfold wFunc
 omega
end Go.Am
end
