/-
  Part 16: AmRd · AmKP · AmE13.
-/
import Derived.Test.YtlikflolhhlgjaaGreatDoorPa15
import Derived.MapFrom
set_option linter.unusedSimpArgs false
set_option linter.unusedVariables false
set_option linter.unusedSectionVars false
set_option linter.unnecessarySimpa false
section
namespace Go.Am
open Go Go.RowKit Go.Proofs Go.MapKept
def pickF (w:List UInt8) (df:Nat):List (List UInt8×Nat)->Nat
 | []=>df
 | (w0,f)::r=>if decide (w=w0)=true then f else pickF w df r
theorem swP_pick (w:List UInt8) (K:Nat->Prop) (df:Nat):∀ tab,swP w K df tab=K (pickF w df tab)
 | []=>rfl
 | (w0,f)::r=>by
  rw [swP,pickF,swP_pick w K df r]
  split <;> rfl
section
variable {P:Program}
theorem upon_ins {o:Oper} {a:Act} {next:Act->World->Prop} {Q:Exit->Act->World->Prop} {mt kt et:TypeId} {r:Nat} {es:Array MapEntry} {clock:Nat} {k:ByteArray} {v:Value} {w:World}
  (hm:P.underlying mt=some (.map kt et)) (hd:P.underlying kt=some .string) (hb:w.heap[r]? = some (.map es clock)) (hf:Instr.findNow .string (.string k) es.toList 0=some none)
  (h:∀ w2,w2.heap[r]? = some (.map (es.push { key:=.string k,val:=v,born:=clock }) (clock+1))->Below r w w2->next (a.put o.dst undef) w2) :
  o.upon P a next Q (((Instr.mapUpdate mt (.map (some r)) (.string k) v).run P w).andThen fun _ w'=>.ok Next.skip w'):=by
 have hrun:(Instr.mapUpdate mt (.map (some r)) (.string k) v).run P w=.ok () { w with heap:=w.heap.setIfInBounds r (.map (es.push { key:=.string k,val:=v,born:=clock }) (clock+1)) }:=by
  simp [Instr.mapUpdate,run_underlying hm,MapKept.run_getObj_map hb,run_checkKey hd (k:=.string k) trivial,run_findKey hd hf,run_setObj_map _ hb,Result.andThen]
 rw [hrun]
 exact h _ (heap_set hb).1 ⟨rfl,rfl,rfl,by simp,fun j hj=>(heap_set hb).2 j (by omega)⟩
theorem find_tab (s:ByteArray):∀ (es:List MapEntry) (tab:List (List UInt8×Nat)) (i:Nat),es.map (fun e=>(e.key,e.val))=tab.map (fun x=>(Value.string ⟨x.1.toArray⟩,Value.func (.func x.2) #[] #[])) ->
  (∃ x∈tab,(∃ j,Instr.findNow .string (.string s) es i=some (some (j,.func (.func x.2) #[] #[])))/\∀ df,pickF s.data.toList df tab=x.2)\/(Instr.findNow .string (.string s) es i=some none/\∀ df,pickF s.data.toList df tab=df)
 | [],[],i,_=>.inr ⟨rfl,fun _=>rfl⟩
 | [],_::_,i,h=>by simp at h
 | _::_,[],i,h=>by simp at h
 | e::es,(k,f)::tab,i,h=>by
  obtain ⟨ek,ev,eb⟩:=e
  simp only [List.map_cons,List.cons.injEq,Prod.mk.injEq] at h
  obtain ⟨⟨rfl,rfl⟩,h⟩:=h
  unfold Instr.findNow
  simp only [Instr.sameNow]
  by_cases hc:s=⟨k.toArray⟩
  ·have e1:(s==⟨k.toArray⟩)=true:=(bytes_beq _ _).2 hc
   rw [e1]
   refine .inl ⟨(k,f),by simp,⟨i,rfl⟩,fun df=>?_⟩
   have:s.data.toList=k:=by rw [hc]
   rw [pickF,if_pos (by simp [this])]
  ·have e1:(s==⟨k.toArray⟩)=false:=by
    rw [Bool.eq_false_iff]; exact fun e=>hc ((bytes_beq _ _).1 e)
   rw [e1]
   have n1:¬ s.data.toList=k:=by
    rintro rfl
    exact hc (by obtain ⟨x⟩:=s; simp)
   rcases find_tab s es tab (i+1) h with ⟨x,hx,hj,hp⟩ | ⟨h1,h2⟩
   ·exact .inl ⟨x,by simp [hx],hj,fun df=>by rw [pickF,if_neg (by simpa using n1)]; exact hp df⟩
   ·exact .inr ⟨h1,fun df=>by rw [pickF,if_neg (by simpa using n1)]; exact h2 df⟩
theorem run_look {mt kt et:TypeId} {r:Nat} {es:Array MapEntry} {clock:Nat} {s:ByteArray} {w:World} (hm:P.underlying mt=some (.map kt et)) (hd:P.underlying kt=some .string) (hz:(zeroValue et).run P w=.ok .nilFunc w)
  (hb:w.heap[r]? = some (.map es clock)) {x:Option (Nat×Value)} (hf:Instr.findNow .string (.string s) es.toList 0=some x) :
  (Instr.lookup mt (.map (some r)) (.string s) false).run P w=.ok (match x with | some (_,v)=>v | none=>.nilFunc) w:=by
 cases x with
 | none=>simp [Instr.lookup,run_underlying hm,MapKept.run_getObj_map hb,run_checkKey hd (k:=.string s) trivial,run_findKey hd hf,hz,Result.andThen]
 | some y=>obtain ⟨j,v⟩:=y; simp [Instr.lookup,run_underlying hm,MapKept.run_getObj_map hb,run_checkKey hd (k:=.string s) trivial,run_findKey hd hf,Result.andThen]
end
theorem eq_func {P:Program} {t:TypeId} {ps rs:Array TypeId} {va:Bool} {f:Fn} {a b:Array Value} (h:P.underlying t=some (.func ps rs va)) (w:World):(Op.equal t (.func f a b) .nilFunc).run P w=.ok false w:=by
 unfold Op.equal Op.maxDepth
 rw [show (10000:Nat)=9999+1 from rfl]
 unfold Op.equalIn
 simp only [Sem.run_bind,run_underlying h,Result.andThen]
 rfl
theorem eq_nilFunc {P:Program} {t:TypeId} {ps rs:Array TypeId} {va:Bool} (h:P.underlying t=some (.func ps rs va)) (w:World):(Op.equal t .nilFunc .nilFunc).run P w=.ok true w:=by
 unfold Op.equal Op.maxDepth
 rw [show (10000:Nat)=9999+1 from rfl]
 unfold Op.equalIn
 simp only [Sem.run_bind,run_underlying h,Result.andThen]
 rfl
theorem neq_func {P:Program} {t:TypeId} {ps rs:Array TypeId} {va:Bool} {f:Fn} {a b:Array Value} (h:P.underlying t=some (.func ps rs va)) (w:World):(binOp .neq t (.func f a b) .nilFunc).run P w=.ok (.bool true) w:=by
 show (do pure (.bool (!(<- Op.equal t (.func f a b) .nilFunc))):Sem Value).run P w=_
 simp only [Sem.run_bind,eq_func h,Result.andThen]
 rfl
theorem neq_nilFunc {P:Program} {t:TypeId} {ps rs:Array TypeId} {va:Bool} (h:P.underlying t=some (.func ps rs va)) (w:World):(binOp .neq t .nilFunc .nilFunc).run P w=.ok (.bool false) w:=by
 show (do pure (.bool (!(<- Op.equal t .nilFunc .nilFunc))):Sem Value).run P w=_
 simp only [Sem.run_bind,eq_nilFunc h,Result.andThen]
 rfl
theorem abs_es {es0:Array MapEntry} {c0:Nat} {f:Option Obj} (hb:f=some (.map es0 c0)) {L:List (Value×Value)} (he:es0.toList.map (fun e=>(e.key,e.val))=L):∃ es c,f=some (.map es c)/\es.toList.map (fun e=>(e.key,e.val))=L:=⟨es0,c0,hb,he⟩
def rTab:List (List UInt8×Nat):=[([115,115,97],57),([99,108,97,115,115],58),([102,105,101,108,100],59),([103,108,111,98,97,108],60),([101,120,116,101,114,110],61),([102,117,110,99],62),([112,97,114,97,109],63),([118,97,114],64),([98,108,111,99,107],65),([112,104,105],66),([97,116],67),([111,98,106],68),([106,117,109,112],69),([98,114,97,110,99,104],69),([114,101,116],69),([116,114,97,112],69)]
set_option maxRecDepth 100000 in
theorem readers_walk (s:ByteArray) (w:World) :
  Calls Tryz.prog 34 #[.string s] w fun e w'=>e=.returned (.func (.func (pickF s.data.toList 35 rTab)) #[] #[])/\Below w.heap.size w w':=by
 have hmm:=@run_makeMap Tryz.prog
 have hm:=Tryz.underlying136
 have hd:=Tryz.underlying9
 have hz:∀ w,(zeroValue 101).run Tryz.prog w=.ok .nilFunc w:=Tryz.zeroValue101
 have hb:(w.alloc (.map #[] 0)).heap[w.heap.size]? = some (.map #[] 0):=(heap_alloc w _).1
 have hB:Below w.heap.size w (w.alloc (.map #[] 0)):=(Below.refl _ w).alloc (Nat.le_refl _) _
 go_enter Tryz.func34,Tryz.ntmps34
 go_wp2
 iterate 16
  refine upon_ins hm hd hb (by kernel_rfl) (fun w2 hb2 hB2=>?_)
  replace hB:=hB.trans hB2
  replace hb:=hb2
  clear hB2 hb2
  go_wp2
 obtain ⟨es,c,hb,he⟩:=abs_es hb (L:=rTab.map (fun x=>(Value.string ⟨x.1.toArray⟩,Value.func (.func x.2) #[] #[]))) (by kernel_rfl)
 rcases find_tab s es.toList rTab 0 he with ⟨x,hx,⟨j,hj⟩,hp⟩ | ⟨h1,hp⟩
 ·rw [run_look hm hd (hz _) hb hj]
  simp only [Result.andThen]
  rw [Oper.upon_value]
  go_wp2
  rw [neq_func Tryz.underlying101]
  simp only [Result.andThen]
  rw [Oper.upon_value]
  go_wp2
  go_ret
  exact ⟨by rw [hp]; rfl,hB⟩
 ·rw [run_look hm hd (hz _) hb h1]
  simp only [Result.andThen]
  rw [Oper.upon_value]
  go_wp2
  rw [neq_nilFunc Tryz.underlying101]
  simp only [Result.andThen]
  rw [Oper.upon_value]
  go_wp2
  go_ret
  exact ⟨by rw [hp]; rfl,hB⟩
theorem canA_s {v:At} {x:List UInt8} (h:canAs [.s] [v]=some x):v.noRf=true/\v.toV.isFz=true/\v.toV.map T.canon=.one (.c (.d (.str x))):=by
 obtain ⟨h1,h2,h3⟩:=canAs_ok h
 refine ⟨by simpa using h1,by simpa using h2,?_⟩
 have:[v.toV.map T.canon]=[AV.one (.c (.d (.str x)))]:=h3
 simpa using this
def C_yReaders:CKt:=swT rTab 35
theorem c_yReaders:Cont Tryz.prog 34 C_yReaders:=by
 refine ⟨run_fn2 (fn:=Tryz.f34) (by kernel_rfl) (by kernel_rfl) (by kernel_rfl),fun pk s ops k k' hk hc=>?_,fun g pk s a w H γ F1 ops k hX hops hc=>?_⟩
 ·unfold C_yReaders swT at hc ⊢
  dsimp only at hc ⊢
  split at hc
  ·rw [swP_pick] at hc ⊢
   exact hk _ _ (Ext_frzAts _ _) hc
  ·exact hc.elim
 ·unfold C_yReaders swT at hc
  dsimp only at hc
  obtain ⟨H1,F2,h1⟩:=RXt_frzAts (ops.map (evA s)) s H F1 hX
  generalize frzAts s (ops.map (evA s))=s1 at hc h1
  split at hc
  ·rename_i x hx
   rw [swP_pick] at hc
   match ops,hx with
   | [],hx=>simp [canAs] at hx
   | [o],hx=>
    obtain ⟨_,hz,hcn⟩:=canA_s hx
    have hop:okOp o=true:=by simpa using hops
    have hv:=ev_ok h1 hop
    rw [evA_toV hop] at hv
    have hv2:=AR_map TR_canon (AR_fz (w':=w) (γ':=γ) (m':=[]) (fun _ _ _ h=>h) hz hv)
    rw [hcn] at hv2
    obtain ⟨e1,_⟩:=AR_text hv2
    show Calls _ _ #[a.eval o] w _
    rw [e1]
    refine (readers_walk ⟨x.toArray⟩ w).mono ?_
    rintro e w' ⟨rfl,hb⟩
    rw [bs_list]
    have hsame:∀ b,tot F2 s1.toS.m b≠0->w'.heap[b]? = w.heap[b]? := fun b hb'=>hb.block b (h1.mem.lt b hb')
    have hKp:=Keeps_grow (w':=w') h1.mem hsame
    have hmem:Mem w' H1 γ s1.toS.m F2:=by
     refine ⟨fun b o y hy=>?_,fun x hx=>RootR_keeps hKp (fun _ _ _ h=>h) rfl (fun b hb'=>hsame b (by have:=tot_ge (F:=F2) hx b; omega)) (h1.mem.roots x hx),h1.mem.keys,h1.mem.le1,fun b hb'=>by have:=h1.mem.lt b hb'; have:=hb.size; omega,h1.mem.nofz⟩
     have hlt:b<w.heap.size:=World.block_lt_of_cell? _ _ (h1.mem.agree b o y hy)
     rw [hb.cell hlt]
     exact h1.mem.agree b o y hy
    have hFr:Fr w H1 (tot F2 s1.toS.m) w' H1 (tot F2 s1.toS.m):=
     ⟨hb.size,hb.os,hb.tape,hb.output,fun b hb' _=>hb.block b hb',fun _ _ _ h=>h,fun b o h2 h3=>absurd h3 h2,fun b hb=>.inl hb⟩
    exact .inl ⟨_,s1,sct (.v (.func (.func (pickF x 35 rTab)) #[] #[])),H1,γ,F2,rfl,hc,⟨fun _=>rfl,0,rfl,rfl⟩,RX_step h1 hmem hFr (fun i=>AR_keeps hKp (fun _ _ _ h=>h) (h1.t i)) (fun _=>rfl)⟩
   | _::_::_,hx=>simp [canAs] at hx
  ·exact hc.elim
end Go.Am
end

section
namespace Go.Am
open Go Go.Proofs
set_option linter.unusedVariables false
set_option maxRecDepth 100000
theorem En.ok0 {P:Program} {u:Ut} {sh:List (TypeId×List Sh)} {pk:PKt}:En.ok ⟨P,u,[],sh,pk⟩:=fun _ h=>by cases h
theorem En.okc {P:Program} {u:Ut} {sh:List (TypeId×List Sh)} {pk:PKt} {f:Nat} {C:CKt} {cs:CTt} (h:Cont P f C) (hs:En.ok ⟨P,u,cs,sh,pk⟩):En.ok ⟨P,u,(f,C)::cs,sh,pk⟩:=by
 intro x hx
 rcases List.mem_cons.1 hx with rfl | hx
 ·exact h
 ·exact hs x hx
theorem mixed:Tryz.prog.follows .mixedOrders=true:=by kernel_rfl
def okF (n:Nat) (fn:Func):Bool:=fn.name != "runtime.NumGoroutine" && (fn.body.isSome&&(Nat.ble n fn.ntmps&&chkC fn.ntmps (fn.body.getD .skip)))
theorem okF_1 {n:Nat} {fn:Func} (h:okF n fn=true):(fn.name == "runtime.NumGoroutine")=false/\fn.body.isSome=true/\Nat.ble n fn.ntmps=true/\chkC fn.ntmps (fn.body.getD .skip)=true:=by
 unfold okF at h
 simp only [Bool.and_eq_true,bne,Bool.not_eq_true'] at h
 exact h
theorem k0 (e:En) (he:e.ok) (hm:e.P.follows .mixedOrders=true) {f:Nat} {fn:Func} (an:An) {ps rs:List U} {F:Fl ps->Fl rs} (hf:e.P.funcs[f]? = some fn) (hb:okF ps.length fn=true) (law:∀ x,∀ KK:Fl rs->Prop,KK (F x)->bodyT e fn an ps rs x KK):Cont e.P f (pureT0 ps rs F):=
 Cont_pure0 he hm hf (okF_1 hb).1 (okF_1 hb).2.1 (okF_1 hb).2.2.1 (okF_1 hb).2.2.2 law
theorem k1 (e:En) (he:e.ok) (hm:e.P.follows .mixedOrders=true) {f:Nat} {fn:Func} (an:An) {ps rs:List U} {pre:Fl ps->Prop} {F:Fl ps->Fl rs} (hf:e.P.funcs[f]? = some fn) (hb:okF ps.length fn=true) (law:∀ x,pre x->∀ KK:Fl rs->Prop,KK (F x)->bodyT e fn an ps rs x KK):Cont e.P f (pureT ps rs pre F):=
 Cont_pure he hm hf (okF_1 hb).1 (okF_1 hb).2.1 (okF_1 hb).2.2.1 (okF_1 hb).2.2.2 law
theorem k2 (e:En) (he:e.ok) (hm:e.P.follows .mixedOrders=true) {f:Nat} {fn:Func} (an:An) {sh:List Sh} {u:U} {ps rs:List U} {pre:El u->Fl ps->Prop} {Fn:El u->Fl ps->Fl rs×El u} (hf:e.P.funcs[f]? = some fn) (hb:okF (ps.length+1) fn=true) (law:∀ x y,pre x y->∀ KK:Fl rs×El u->Prop,KK (Fn x y)->bodyPT e fn an sh u ps rs x y KK):Cont e.P f (ptrT sh u ps rs pre Fn):=
 Cont_ptr he hm hf (okF_1 hb).1 (okF_1 hb).2.1 (okF_1 hb).2.2.1 (okF_1 hb).2.2.2 law
theorem k3 (e:En) (he:e.ok) (hm:e.P.follows .mixedOrders=true) {f:Nat} {fn:Func} (an:An) {u:U} {ps:List U} {pre:List (El u)->Fl ps->Prop} {Fn:List (El u)->Fl ps->List (El u)} (hf:e.P.funcs[f]? = some fn) (hb:okF (ps.length+1) fn=true) (law:∀ x y,pre x y->∀ KK:List (El u)->Prop,KK (Fn x y)->bodyOT e fn an u ps x y KK):Cont e.P f (ownT u ps pre Fn):=
 Cont_own he hm hf (okF_1 hb).1 (okF_1 hb).2.1 (okF_1 hb).2.2.1 (okF_1 hb).2.2.2 law
theorem k4 (e:En) (he:e.ok) (hm:e.P.follows .mixedOrders=true) {f:Nat} {fn:Func} (an:An) {ps rs:List U} {pre:Fl ps->Prop} {F:Fl ps->Except Value (Fl rs)} (hf:e.P.funcs[f]? = some fn) (hb:okF ps.length fn=true) (law:∀ x,pre x->∀ (KK:Fl rs->Prop) (KP:Value->Prop),exQ (F x) KK KP->bodyXT e fn an ps rs x KK KP):Cont e.P f (pureXT ps rs pre F):=
 Cont_pureX he hm hf (okF_1 hb).1 (okF_1 hb).2.1 (okF_1 hb).2.2.1 (okF_1 hb).2.2.2 law
theorem k5 (e:En) (he:e.ok) (hm:e.P.follows .mixedOrders=true) {f:Nat} {fn:Func} (an:An) {sh:List Sh} {u:U} {ps rs:List U} {pre:El u->Fl ps->Prop} {Fn:El u->Fl ps->Except Value (Fl rs)×El u} (hf:e.P.funcs[f]? = some fn) (hb:okF (ps.length+1) fn=true) (law:∀ x y,pre x y->∀ (KK:Fl rs×El u->Prop) (KP:Value->El u->Prop),exP (Fn x y) (fun z x'=>KK (z,x')) KP->bodyPXT e fn an sh u ps rs x y KK KP):Cont e.P f (ptrXT sh u ps rs pre Fn):=
 Cont_ptrX he hm hf (okF_1 hb).1 (okF_1 hb).2.1 (okF_1 hb).2.2.1 (okF_1 hb).2.2.2 law
def rgI:Code->Nat
 | .region id _ _=>id
 | _=>0
def rgO (c:Code) (i:Nat):Oper:=match c with
 | .region _ l _=>l.getD i default
 | _=>default
def C_yRefuse:CKt:=panT Lt.flt
theorem c_yRefuse:Cont Tryz.prog 76 C_yRefuse:=c_refuse
abbrev sh7:List Sh:=[.fr,.ow [],.ow [],.ow [],.ow []]
abbrev sh6:List Sh:=[.fr,.fr,.fr,.ow [.fr,.fr,.fr,.fr]]
abbrev sh5:List Sh:=[.fr,.fr,.fr,.ow [],.ow [],.ow []]
abbrev sh4:List Sh:=[.fr,.fr,.fr,.fr,.ow [.fr,.fr,.fr,.fr],.ow [.fr,.fr]]
abbrev sh3:List Sh:=[.fr,.ow [.fr,.fr,.fr,.fr]]
abbrev sh0:List Sh:=[.fr,.fr,.ow [.fr,.fr],.ow [.fr,.fr],.ow [.fr,.ow [.fr,.fr],.ow sh4,.fr,.fr,.fr,.fr,.fr,.fr]]
abbrev sh2:List Sh:=[.fr,.ow [.fr,.ow [.fr,.fr]],.ow [.fr,.fr],.ow [.fr,.fr],.ow sh0,.fr,.fr]
abbrev sh1:List Sh:=[.fr,.ow [.fr,.ow [.fr,.fr]],.ow [.fr,.fr],.ow [.fr,.fr],.ow sh0,.fr,.fr,.fr,.fr]
def eU:Ut:=[(80,(.st .Class)),(111,(.st .Var)),(82,(.st .Extern)),(38,(.st .Func)),(47,(.st .Block)),(119,(.st .Phi)),(52,(.st .Instr)),(9,.s),(42,(.st .Arg)),(166,(.st .Frame)),(168,(.st .Virt)),(67,(.st .Line)),(77,(.st .RLine)),(3,(.i .i64)),(5,.b8),(121,(.st .In)),(163,(.st .Bind))]
def eS:List (TypeId×List Sh):=[(27,[.fr,.ow [.fr,.ow [.fr,.fr]],.ow [.fr,.fr],.ow [.fr,.fr],.ow sh0]),(38,sh0),(47,[.fr,.ow [.fr,.fr],.ow sh4,.fr,.fr,.fr,.fr,.fr,.fr]),(52,sh4),(61,sh1),(62,sh1),(74,sh2),(75,sh2),(80,[.fr,.ow [.fr,.fr]])]
def C_blank:CKt:=pureT0 [.b8] [.bo] (fun x=>Lt.blank x)
def an_blank:An:=.s .l (.s .l .l)
theorem walk_blank (a0_c:UInt8) (KK:Bool->Prop):F_blank a0_c KK=bodyT ⟨Tryz.prog,eU,[],[],noP⟩ Tryz.f56 an_blank [.b8] [.bo] a0_c KK:=by kernel_rfl
theorem c_blank:Cont Tryz.prog 56 C_blank:=k0 ⟨Tryz.prog,eU,[],[],noP⟩ En.ok0 mixed (fn:=Tryz.f56) an_blank (by kernel_rfl) (by kernel_rfl) (fun a0_c KK h=>Eq.mp (walk_blank a0_c KK) (law_blank a0_c KK h))
def C_lWords:CKt:=pureT [.s] [(.sl .s),.bo] (fun x=>Lt.preLWords x) (fun x=>Lt.lWords x)
def an_lWords:An:=.s .l (.s .l (.s .l (.s (.s .l (.b (.lp ⟨[0],[],[],[.ow 4 [.fr] .s,.sl 5 (.i .i64),.sl 6 (.i .i64)]⟩ (.s (.s .l (.c .l .l)) (.j ⟨[0,6],[],[],[.ow 4 [.fr] .s,.sl 5 (.i .i64)]⟩ (.b (.b (.j ⟨[0,4,5,6],[.gh 900004],[],[.sl 13 .bo]⟩ .l (.c (.j ⟨[0,6],[],[],[.ow 4 [.fr] .s]⟩ (.s .l (.c .l .l)) .l) (.j ⟨[0,4,5,6],[.gh 900004],[],[.sl 33 .bo]⟩ .l (.c (.s .l .l) (.s .l (.c .l .l)))))))) .l))))) (.s .l .l))))
abbrev t_lWords:CTt:=[(56,C_blank)]
theorem walk_lWords (a0_s:List UInt8) (KK:(List (List UInt8)×Bool)->Prop):F_lWords a0_s KK=bodyT ⟨Tryz.prog,eU,t_lWords,[],noP⟩ Tryz.f33 an_lWords [.s] [(.sl .s),.bo] a0_s KK:=by kernel_rfl
theorem c_lWords:Cont Tryz.prog 33 C_lWords:=k1 ⟨Tryz.prog,eU,t_lWords,[],noP⟩ (En.okc c_blank En.ok0) mixed (fn:=Tryz.f33) an_lWords (by kernel_rfl) (by kernel_rfl) (fun a0_s hp KK h=>Eq.mp (walk_lWords a0_s KK) (law_lWords a0_s hp KK h))
def C_lSplit:CKt:=pureT0 [.s] [(.sl (.st .Line)),(.i .i64),(.i .i64)] (fun x=>Lt.lSplit x)
def an_lSplit:An:=.s .l (.s (.s .l (.c (.s .l .l) .l)) (.s .l (.s (.s .l (.b (.lp ⟨[14,15],[],[],[.ow 5 [.fr,.fr] (.st .Line),.sl 16 (.i .i64)]⟩ (.s .l (.s (.c .l .l) (.j ⟨[14,15,16],[],[],[.ow 5 [.fr,.fr] (.st .Line)]⟩ (.b (.s .l (.s .l (.s .l (.s (.s .l (.c (.s .l .l) .l)) (.s .l (.c .l .l))))))) .l)))))) (.s .l .l))))
abbrev t_lSplit:CTt:=[(31,C_gSplit),(32,C_gCut),(33,C_lWords)]
theorem walk_lSplit (a0_s:List UInt8) (KK:(List Lt.Line×Int×Int)->Prop):F_lSplit a0_s KK=bodyT ⟨Tryz.prog,eU,t_lSplit,[],noP⟩ Tryz.f13 an_lSplit [.s] [(.sl (.st .Line)),(.i .i64),(.i .i64)] a0_s KK:=by kernel_rfl
theorem c_lSplit:Cont Tryz.prog 13 C_lSplit:=k0 ⟨Tryz.prog,eU,t_lSplit,[],noP⟩ (En.okc c_gSplit (En.okc c_gCut (En.okc c_lWords En.ok0))) mixed (fn:=Tryz.f13) an_lSplit (by kernel_rfl) (by kernel_rfl) (fun a0_s KK h=>Eq.mp (walk_lSplit a0_s KK) (law_lSplit a0_s KK h))
def C_yHas:CKt:=pureT0 [(.sl (.i .i64)),(.i .i64)] [.bo] (fun x=>Lt.yHas x.1 x.2)
def an_yHas:An:=.s .l (.s (.s .l (.b (.lp ⟨[1,7,8],[],[],[.sl 9 (.i .i64)]⟩ (.s .l (.s (.c .l .l) (.s (.b (.s .l (.s .l (.c (.s .l .l) .l)))) .l)))))) (.s .l .l))
theorem walk_yHas (a0_l:List Int) (a1_n:Int) (KK:Bool->Prop):F_yHas a0_l a1_n KK=bodyT ⟨Tryz.prog,eU,[],[],noP⟩ Tryz.f37 an_yHas [(.sl (.i .i64)),(.i .i64)] [.bo] (a0_l,a1_n) KK:=by kernel_rfl
theorem c_yHas:Cont Tryz.prog 37 C_yHas:=k0 ⟨Tryz.prog,eU,[],[],noP⟩ En.ok0 mixed (fn:=Tryz.f37) an_yHas (by kernel_rfl) (by kernel_rfl) (fun (a0_l,a1_n) KK h=>Eq.mp (walk_yHas a0_l a1_n KK) (law_yHas a0_l a1_n KK h))
def C_letter:CKt:=pureT0 [.b8] [.bo] (fun x=>Lt.letter x)
def an_letter:An:=.s .l (.j ⟨[],[],[],[.sl 2 .bo]⟩ .l .l)
theorem walk_letter (a0_c:UInt8) (KK:Bool->Prop):F_letter a0_c KK=bodyT ⟨Tryz.prog,eU,[],[],noP⟩ Tryz.f90 an_letter [.b8] [.bo] a0_c KK:=by kernel_rfl
theorem c_letter:Cont Tryz.prog 90 C_letter:=k0 ⟨Tryz.prog,eU,[],[],noP⟩ En.ok0 mixed (fn:=Tryz.f90) an_letter (by kernel_rfl) (by kernel_rfl) (fun a0_c KK h=>Eq.mp (walk_letter a0_c KK) (law_letter a0_c KK h))
def C_kept:CKt:=pureT0 [.s] [.bo] (fun x=>Lt.kept x)
def an_kept:An:=.s .l (.j ⟨[],[],[],[.sl 2 .bo]⟩ .l .l)
theorem walk_kept (a0_s:List UInt8) (KK:Bool->Prop):F_kept a0_s KK=bodyT ⟨Tryz.prog,eU,[],[],noP⟩ Tryz.f91 an_kept [.s] [.bo] a0_s KK:=by kernel_rfl
theorem c_kept:Cont Tryz.prog 91 C_kept:=k0 ⟨Tryz.prog,eU,[],[],noP⟩ En.ok0 mixed (fn:=Tryz.f91) an_kept (by kernel_rfl) (by kernel_rfl) (fun a0_s KK h=>Eq.mp (walk_kept a0_s KK) (law_kept a0_s KK h))
def C_wordDigit:CKt:=pureT0 [.b8] [.bo] (fun x=>Lt.wordDigit x)
def an_wordDigit:An:=.s .l (.s .l .l)
theorem walk_wordDigit (a0_c:UInt8) (KK:Bool->Prop):F_wordDigit a0_c KK=bodyT ⟨Tryz.prog,eU,[],[],noP⟩ Tryz.f92 an_wordDigit [.b8] [.bo] a0_c KK:=by kernel_rfl
theorem c_wordDigit:Cont Tryz.prog 92 C_wordDigit:=k0 ⟨Tryz.prog,eU,[],[],noP⟩ En.ok0 mixed (fn:=Tryz.f92) an_wordDigit (by kernel_rfl) (by kernel_rfl) (fun a0_c KK h=>Eq.mp (walk_wordDigit a0_c KK) (law_wordDigit a0_c KK h))
def C_Name:CKt:=pureT0 [.s] [.bo] (fun x=>Lt.Name x)
def an_Name:An:=.s .l (.s (.j ⟨[0],[],[],[.sl 20 .bo]⟩ .l (.c (.s .l .l) .l)) (.s (.s .l (.b (.lp ⟨[0,22],[],[],[.sl 23 (.i .i64)]⟩ (.s .l (.s (.c .l .l) (.s (.b (.s .l (.j ⟨[0,22,23],[],[],[.sl 37 .bo]⟩ .l (.c (.s .l .l) .l)))) .l)))))) (.s .l .l)))
abbrev t_Name:CTt:=[(90,C_letter),(91,C_kept),(92,C_wordDigit)]
theorem walk_Name (a0_s:List UInt8) (KK:Bool->Prop):F_Name a0_s KK=bodyT ⟨Tryz.prog,eU,t_Name,[],noP⟩ Tryz.f45 an_Name [.s] [.bo] a0_s KK:=by kernel_rfl
theorem c_Name:Cont Tryz.prog 45 C_Name:=k0 ⟨Tryz.prog,eU,t_Name,[],noP⟩ (En.okc c_letter (En.okc c_kept (En.okc c_wordDigit En.ok0))) mixed (fn:=Tryz.f45) an_Name (by kernel_rfl) (by kernel_rfl) (fun a0_s KK h=>Eq.mp (walk_Name a0_s KK) (law_Name a0_s KK h))
def C_yName:CKt:=pureXT [.s] [.s] (fun x=>True) (fun x=>Lt.yName x)
def an_yMust_yName:An:=.s .l (.c .l .l)
def C_yMust_yName:CKt:=inlT ⟨Tryz.prog,eU,[(76,C_yRefuse)],[],noP⟩ Tryz.f36 an_yMust_yName
def an_yName:An:=.s .l (.s .l (.s .l .l))
abbrev t_yName:CTt:=[(36,C_yMust_yName),(45,C_Name)]
theorem walk_yName (a0_w:List UInt8) (KK:(List UInt8)->Prop) (KP:Value->Prop):F_yName a0_w KK KP=bodyXT ⟨Tryz.prog,eU,t_yName,[],noP⟩ Tryz.f70 an_yName [.s] [.s] a0_w KK KP:=by kernel_rfl
theorem c_yName:Cont Tryz.prog 70 C_yName:=k4 ⟨Tryz.prog,eU,t_yName,[],noP⟩ (En.okc (Cont_inl (En.okc c_yRefuse En.ok0) mixed (fn:=Tryz.f36) (by kernel_rfl) (by kernel_rfl) (by kernel_rfl) (by kernel_rfl) (by kernel_rfl)) (En.okc c_Name En.ok0)) mixed (fn:=Tryz.f70) an_yName (by kernel_rfl) (by kernel_rfl) (fun a0_w hp KK KP h=>Eq.mp (walk_yName a0_w KK KP) (law_yName a0_w KK KP h))
def C_nth:CKt:=pureT0 [.s,(.i .i64)] [.s] (fun x=>Lt.nth x.1 x.2)
def an_nth:An:=.s .l (.s .l (.s (.s .l (.b (.lp ⟨[0],[],[],[.sl 1 (.i .i64),.sl 5 (.i .i64),.sl 6 (.i .i64)]⟩ (.s (.s .l (.c .l .l)) (.j ⟨[0,6],[],[],[.sl 1 (.i .i64),.sl 5 (.i .i64)]⟩ (.b (.s (.s .l (.c .l .l)) (.s (.s .l (.s .l (.c (.s .l .l) .l))) .l))) .l))))) (.s .l .l)))
theorem walk_nth (a0_list:List UInt8) (a1_n:Int) (KK:(List UInt8)->Prop):F_nth a0_list a1_n KK=bodyT ⟨Tryz.prog,eU,[],[],noP⟩ Tryz.f111 an_nth [.s,(.i .i64)] [.s] (a0_list,a1_n) KK:=by kernel_rfl
theorem c_nth:Cont Tryz.prog 111 C_nth:=k0 ⟨Tryz.prog,eU,[],[],noP⟩ En.ok0 mixed (fn:=Tryz.f111) an_nth (by kernel_rfl) (by kernel_rfl) (fun (a0_list,a1_n) KK h=>Eq.mp (walk_nth a0_list a1_n KK) (law_nth a0_list a1_n KK h))
def C_Of:CKt:=pureT0 [(.i .i64)] [(.st .Form),.bo] (fun x=>Lt.Of x)
def an_Of:An:=.s .l (.s (.b (.j ⟨[0,2],[.loc 2],[],[.sl 4 .bo]⟩ .l (.c (.s .l .l) (.j ⟨[0,2],[.loc 2],[],[.sl 14 .bo]⟩ .l (.c (.s .l .l) .l))))) (.s (.s .l (.b (.s .l (.c (.s .l .l) (.s .l (.c (.s .l .l) (.s .l (.c (.s .l .l) (.s .l (.c (.s .l .l) (.s .l (.c (.s .l .l) (.s .l (.c (.s .l .l) (.s .l (.c (.s .l .l) (.s .l (.c (.s .l .l) (.s .l (.c (.s .l .l) (.s .l (.c (.s .l .l) .l)))))))))))))))))))))) (.s .l .l)))
abbrev t_Of:CTt:=[(111,C_nth)]
theorem walk_Of (a0_op:Int) (KK:(Lt.Form×Bool)->Prop):F_Of a0_op KK=bodyT ⟨Tryz.prog,eU,t_Of,[],noP⟩ Tryz.f72 an_Of [(.i .i64)] [(.st .Form),.bo] a0_op KK:=by kernel_rfl
theorem c_Of:Cont Tryz.prog 72 C_Of:=k0 ⟨Tryz.prog,eU,t_Of,[],noP⟩ (En.okc c_nth En.ok0) mixed (fn:=Tryz.f72) an_Of (by kernel_rfl) (by kernel_rfl) (fun a0_op KK h=>Eq.mp (walk_Of a0_op KK) (law_Of a0_op KK h))
def C_yOp:CKt:=pureT0 [.s] [(.i .i64),.bo] (fun x=>Lt.yOp x)
def an_yOp:An:=.s .l (.s (.s .l (.b (.lp ⟨[0],[],[],[.sl 4 (.i .i64)]⟩ (.s (.s .l (.c .l .l)) (.s (.b (.s .l (.s .l (.c (.s .l .l) .l)))) .l))))) (.s .l .l))
abbrev t_yOp:CTt:=[(72,C_Of)]
theorem walk_yOp (a0_w:List UInt8) (KK:(Int×Bool)->Prop):F_yOp a0_w KK=bodyT ⟨Tryz.prog,eU,t_yOp,[],noP⟩ Tryz.f71 an_yOp [.s] [(.i .i64),.bo] a0_w KK:=by kernel_rfl
theorem c_yOp:Cont Tryz.prog 71 C_yOp:=k0 ⟨Tryz.prog,eU,t_yOp,[],noP⟩ (En.okc c_Of En.ok0) mixed (fn:=Tryz.f71) an_yOp (by kernel_rfl) (by kernel_rfl) (fun a0_w KK h=>Eq.mp (walk_yOp a0_w KK) (law_yOp a0_w KK h))
def C_numGet:CKt:=pureT0 [.s] [(.i .i64),.bo] (fun x=>Lt.numGet x)
def an_numGet:An:=.s .l (.s (.j ⟨[0],[],[],[.sl 13 .bo]⟩ .l (.c (.s .l .l) .l)) (.s .l (.j ⟨[0],[],[],[.sl 4 (.i .i64)]⟩ (.s .l (.c .l .l)) (.s .l (.s (.s .l (.b (.lp ⟨[0,4],[],[],[.sl 5 (.i .i64),.sl 6 (.i .i64)]⟩ (.s (.s .l (.c .l .l)) (.s (.b (.s (.j ⟨[0,4,5,6],[],[],[.sl 33 .bo]⟩ .l (.c (.s .l .l) .l)) .l)) .l))))) (.j ⟨[0],[],[],[.sl 5 (.i .i64)]⟩ (.s .l (.c .l .l)) (.s (.s .l (.c (.s .l .l) .l)) (.s .l .l))))))))
abbrev t_numGet:CTt:=[(47,C_numPut)]
theorem walk_numGet (a0_s:List UInt8) (KK:(Int×Bool)->Prop):F_numGet a0_s KK=bodyT ⟨Tryz.prog,eU,t_numGet,[],noP⟩ Tryz.f110 an_numGet [.s] [(.i .i64),.bo] a0_s KK:=by kernel_rfl
theorem c_numGet:Cont Tryz.prog 110 C_numGet:=k0 ⟨Tryz.prog,eU,t_numGet,[],noP⟩ (En.okc c_numPut En.ok0) mixed (fn:=Tryz.f110) an_numGet (by kernel_rfl) (by kernel_rfl) (fun a0_s KK h=>Eq.mp (walk_numGet a0_s KK) (law_numGet a0_s KK h))
def C_Plain:CKt:=pureT0 [(.i .i64)] [(.i .i64)] (fun x=>Lt.Plain x)
def an_Plain:An:=.s .l (.s (.j ⟨[0],[],[],[.sl 10 .bo]⟩ .l (.c (.s .l .l) .l)) (.s .l .l))
theorem walk_Plain (a0_n:Int) (KK:Int->Prop):F_Plain a0_n KK=bodyT ⟨Tryz.prog,eU,[],[],noP⟩ Tryz.f122 an_Plain [(.i .i64)] [(.i .i64)] a0_n KK:=by kernel_rfl
theorem c_Plain:Cont Tryz.prog 122 C_Plain:=k0 ⟨Tryz.prog,eU,[],[],noP⟩ En.ok0 mixed (fn:=Tryz.f122) an_Plain (by kernel_rfl) (by kernel_rfl) (fun a0_n KK h=>Eq.mp (walk_Plain a0_n KK) (law_Plain a0_n KK h))
def C_floGet:CKt:=pureT0 [.s] [(.i .i64),.bo] (fun x=>Lt.floGet x)
def an_floGet:An:=.s .l (.s .l (.s (.j ⟨[4],[],[],[.sl 21 .bo]⟩ .l (.c (.s .l .l) .l)) (.s .l (.s (.s .l (.b (.lp ⟨[4,23],[],[],[.sl 6 (.i .u64),.sl 24 (.i .i64)]⟩ (.s .l (.s (.c .l .l) (.s (.b (.s .l (.s .l (.s (.s .l (.c (.s .l .l) .l)) .l)))) .l)))))) (.s .l (.s (.s .l (.c (.s .l .l) .l)) (.s .l .l)))))))
abbrev t_floGet:CTt:=[(122,C_Plain),(146,C_gCutP),(147,C_gIndex)]
theorem walk_floGet (a0_s:List UInt8) (KK:(Int×Bool)->Prop):F_floGet a0_s KK=bodyT ⟨Tryz.prog,eU,t_floGet,[],noP⟩ Tryz.f144 an_floGet [.s] [(.i .i64),.bo] a0_s KK:=by kernel_rfl
theorem c_floGet:Cont Tryz.prog 144 C_floGet:=k0 ⟨Tryz.prog,eU,t_floGet,[],noP⟩ (En.okc c_Plain (En.okc c_gCutP (En.okc c_gIndex En.ok0))) mixed (fn:=Tryz.f144) an_floGet (by kernel_rfl) (by kernel_rfl) (fun a0_s KK h=>Eq.mp (walk_floGet a0_s KK) (law_floGet a0_s KK h))
def C_wordNumber:CKt:=pureT0 [.s] [(.st .Arg),.bo] (fun x=>Lt.wordNumber x)
def an_wordNumber:An:=.s .l (.s (.s .l (.s .l (.c (.s .l .l) .l))) (.s .l (.s (.s .l (.c (.s .l .l) .l)) (.s .l .l))))
abbrev t_wordNumber:CTt:=[(110,C_numGet),(144,C_floGet)]
theorem walk_wordNumber (a0_s:List UInt8) (KK:(Lt.Arg×Bool)->Prop):F_wordNumber a0_s KK=bodyT ⟨Tryz.prog,eU,t_wordNumber,[],noP⟩ Tryz.f141 an_wordNumber [.s] [(.st .Arg),.bo] a0_s KK:=by kernel_rfl
theorem c_wordNumber:Cont Tryz.prog 141 C_wordNumber:=k0 ⟨Tryz.prog,eU,t_wordNumber,[],noP⟩ (En.okc c_numGet (En.okc c_floGet En.ok0)) mixed (fn:=Tryz.f141) an_wordNumber (by kernel_rfl) (by kernel_rfl) (fun a0_s KK h=>Eq.mp (walk_wordNumber a0_s KK) (law_wordNumber a0_s KK h))
def C_wordGet:CKt:=pureT0 [.s] [(.st .Arg),.bo] (fun x=>Lt.wordGet x)
def an_wordGet:An:=.s .l (.s (.b (.s .l (.c (.s .l .l) (.s .l (.c (.s .l .l) (.s .l (.c (.s .l .l) (.s .l (.c (.s .l (.s (.j ⟨[2,4],[.loc 2],[],[.sl 38 .bo]⟩ .l (.c (.s .l .l) .l)) (.s .l .l))) .l))))))))) (.s .l .l))
abbrev t_wordGet:CTt:=[(45,C_Name),(110,C_numGet),(141,C_wordNumber)]
theorem walk_wordGet (a0_s:List UInt8) (KK:(Lt.Arg×Bool)->Prop):F_wordGet a0_s KK=bodyT ⟨Tryz.prog,eU,t_wordGet,[],noP⟩ Tryz.f131 an_wordGet [.s] [(.st .Arg),.bo] a0_s KK:=by kernel_rfl
theorem c_wordGet:Cont Tryz.prog 131 C_wordGet:=k0 ⟨Tryz.prog,eU,t_wordGet,[],noP⟩ (En.okc c_Name (En.okc c_numGet (En.okc c_wordNumber En.ok0))) mixed (fn:=Tryz.f131) an_wordGet (by kernel_rfl) (by kernel_rfl) (fun a0_s KK h=>Eq.mp (walk_wordGet a0_s KK) (law_wordGet a0_s KK h))
def C_yArg:CKt:=pureXT [.s,.bo] [(.st .Arg)] (fun x=>True) (fun x=>Lt.yArg x.1 x.2)
def an_yMust_yArg:An:=.s .l (.c .l .l)
def C_yMust_yArg:CKt:=inlT ⟨Tryz.prog,eU,[(76,C_yRefuse)],[],noP⟩ Tryz.f36 an_yMust_yArg
def an_yArg:An:=.s .l (.s .l (.j ⟨[4,5],[.loc 4,.loc 5],[],[]⟩ .l (.s .l .l)))
abbrev t_yArg:CTt:=[(36,C_yMust_yArg),(131,C_wordGet)]
theorem walk_yArg (a0_w:List UInt8) (a1_objs:Bool) (KK:Lt.Arg->Prop) (KP:Value->Prop):F_yArg a0_w a1_objs KK KP=bodyXT ⟨Tryz.prog,eU,t_yArg,[],noP⟩ Tryz.f108 an_yArg [.s,.bo] [(.st .Arg)] (a0_w,a1_objs) KK KP:=by kernel_rfl
theorem c_yArg:Cont Tryz.prog 108 C_yArg:=k4 ⟨Tryz.prog,eU,t_yArg,[],noP⟩ (En.okc (Cont_inl (En.okc c_yRefuse En.ok0) mixed (fn:=Tryz.f36) (by kernel_rfl) (by kernel_rfl) (by kernel_rfl) (by kernel_rfl) (by kernel_rfl)) (En.okc c_wordGet En.ok0)) mixed (fn:=Tryz.f108) an_yArg (by kernel_rfl) (by kernel_rfl) (fun (a0_w,a1_objs) hp KK KP h=>Eq.mp (walk_yArg a0_w a1_objs KK KP) (law_yArg a0_w a1_objs KK KP h))
def C_yArgs:CKt:=pureXT [(.sl .s),.bo] [(.sl (.st .Arg))] (fun x=>Lt.preWords x.1 x.2) (fun x=>Lt.yArgs x.1 x.2)
def an_yArgs:An:=.s .l (.s .l (.s (.s .l (.b (.lp ⟨[1,8,9],[],[],[.ow 5 [.fr,.fr,.fr] (.st .Arg),.sl 10 (.i .i64)]⟩ (.s .l (.s (.c .l .l) (.s (.b (.s .l .l)) .l)))))) (.s .l .l)))
abbrev t_yArgs:CTt:=[(108,C_yArg)]
theorem walk_yArgs (a0_l:List (List UInt8)) (a1_objs:Bool) (KK:(List Lt.Arg)->Prop) (KP:Value->Prop):F_yArgs a0_l a1_objs KK KP=bodyXT ⟨Tryz.prog,eU,t_yArgs,[],noP⟩ Tryz.f73 an_yArgs [(.sl .s),.bo] [(.sl (.st .Arg))] (a0_l,a1_objs) KK KP:=by kernel_rfl
theorem c_yArgs:Cont Tryz.prog 73 C_yArgs:=k4 ⟨Tryz.prog,eU,t_yArgs,[],noP⟩ (En.okc c_yArg En.ok0) mixed (fn:=Tryz.f73) an_yArgs (by kernel_rfl) (by kernel_rfl) (fun (a0_l,a1_objs) hp KK KP h=>Eq.mp (walk_yArgs a0_l a1_objs KK KP) (law_yArgs a0_l a1_objs hp KK KP h))
def C_yCode:CKt:=ptrXT sh1 (.st .Reader) [(.sl .s)] [] (fun x y=>Lt.preReader x y) (fun x y=>Lt.yCode x y)
def an_yMust_yBetween_yCode:An:=.s .l (.c .l .l)
def C_yMust_yBetween_yCode:CKt:=inlT ⟨Tryz.prog,eU,[(76,C_yRefuse)],eS,noP⟩ Tryz.f36 an_yMust_yBetween_yCode
def an_yBetween_yCode:An:=.l
def C_yBetween_yCode:CKt:=inlT ⟨Tryz.prog,eU,[(36,C_yMust_yBetween_yCode),(37,C_yHas)],eS,noP⟩ Tryz.f16 an_yBetween_yCode
def an_yMust_yCode:An:=.s .l (.c .l .l)
def C_yMust_yCode:CKt:=inlT ⟨Tryz.prog,eU,[(76,C_yRefuse)],eS,noP⟩ Tryz.f36 an_yMust_yCode
def an_yArgs_yCode:An:=.s .l (.s .l (.s (.s .l (.b (.lp ⟨[1,8,9,100000,100004,100005,100007,100009,100059,100066,100067,100068,100069,100070,100071,100072,100073,100074,100075,100076,100078,100079],[.loc 4,.loc 7,.out 0],[],[.ow 5 [.fr,.fr,.fr] (.st .Arg),.sl 10 (.i .i64)]⟩ (.s .l (.s (.c .l .l) (.s (.b (.s .l .l)) .l)))))) (.s .l .l)))
def C_yArgs_yCode:CKt:=inlT ⟨Tryz.prog,eU,[(108,C_yArg)],eS,noP⟩ Tryz.f73 an_yArgs_yCode
def an_yWithin_yMore_yCode:An:=.s .l (.c .l .l)
def C_yWithin_yMore_yCode:CKt:=inlT ⟨Tryz.prog,eU,[(76,C_yRefuse)],eS,noP⟩ Tryz.f103 an_yWithin_yMore_yCode
def an_yMore_yCode:An:=.s .l .l
def C_yMore_yCode:CKt:=inlT ⟨Tryz.prog,eU,[(103,C_yWithin_yMore_yCode)],eS,noP⟩ Tryz.f74 an_yMore_yCode
def an_yFun_yBlock_yCode:An:=.s .l (.s .l .l)
def C_yFun_yBlock_yCode:CKt:=inlT ⟨Tryz.prog,eU,[],eS,noP⟩ Tryz.f106 an_yFun_yBlock_yCode
def an_yBlock_yCode:An:=.s .l (.s .l (.s .l .l))
def C_yBlock_yCode:CKt:=inlT ⟨Tryz.prog,eU,[(106,C_yFun_yBlock_yCode)],eS,noP⟩ Tryz.f75 an_yBlock_yCode
def an_yCode:An:=.s .l (.s .l (.j ⟨[0,4],[.out 0],[],[.sl 1 (.sl .s),.rt (.loc 4) sh5 (.st .Instr)]⟩ (.j ⟨[0,1,4],[.loc 4,.out 0],[],[.sl 23 .bo]⟩ .l (.c (.s .l .l) .l)) (.s .l (.s .l (.s .l (.s .l (.s .l (.s .l (.j ⟨[0,4,5,7],[.loc 7,.out 0],[],[.rt (.loc 4) [.fr,.fr,.fr,.fr,.ow [],.ow []] (.st .Instr)]⟩ (.b (.j ⟨[0,4,5,7,9],[.loc 4,.loc 7,.out 0],[],[.sl 59 .bo]⟩ .l (.c (.s .l (.s .l .l)) (.s .l (.c (.s .l (.s .l .l)) .l))))) (.j ⟨[0,4,5],[.loc 4,.out 0],[],[]⟩ .l (.s .l (.s .l (.j ⟨[0,5],[],[],[.rt (.out 0) sh1 (.st .Reader)]⟩ .l (.s .l (.j ⟨[0],[.out 0],[],[.sl 136 .bo]⟩ .l (.c .l .l))))))))))))))))
abbrev t_yCode:CTt:=[(16,C_yBetween_yCode),(36,C_yMust_yCode),(70,C_yName),(71,C_yOp),(72,C_Of),(73,(selT 76 C_yArgs_yCode C_yArgs)),(74,C_yMore_yCode),(75,C_yBlock_yCode)]
theorem walk_yCode (a0_r:Lt.Reader) (a1_l:List (List UInt8)) (KK:((Unit)×Lt.Reader)->Prop) (KP:Value->Lt.Reader->Prop):F_yCode a0_r a1_l KK KP=bodyPXT ⟨Tryz.prog,eU,t_yCode,eS,noP⟩ Tryz.f35 an_yCode sh1 (.st .Reader) [(.sl .s)] [] a0_r a1_l KK KP:=by kernel_rfl
theorem c_yCode:Cont Tryz.prog 35 C_yCode:=k5 ⟨Tryz.prog,eU,t_yCode,eS,noP⟩ (En.okc (Cont_inl (En.okc (Cont_inl (En.okc c_yRefuse En.ok0) mixed (fn:=Tryz.f36) (by kernel_rfl) (by kernel_rfl) (by kernel_rfl) (by kernel_rfl) (by kernel_rfl)) (En.okc c_yHas En.ok0)) mixed (fn:=Tryz.f16) (by kernel_rfl) (by kernel_rfl) (by kernel_rfl) (by kernel_rfl) (by kernel_rfl)) (En.okc (Cont_inl (En.okc c_yRefuse En.ok0) mixed (fn:=Tryz.f36) (by kernel_rfl) (by kernel_rfl) (by kernel_rfl) (by kernel_rfl) (by kernel_rfl)) (En.okc c_yName (En.okc c_yOp (En.okc c_Of (En.okc (Cont_sel (Cont_inl (En.okc c_yArg En.ok0) mixed (fn:=Tryz.f73) (by kernel_rfl) (by kernel_rfl) (by kernel_rfl) (by kernel_rfl) (by kernel_rfl)) c_yArgs) (En.okc (Cont_inl (En.okc (Cont_inl (En.okc c_yRefuse En.ok0) mixed (fn:=Tryz.f103) (by kernel_rfl) (by kernel_rfl) (by kernel_rfl) (by kernel_rfl) (by kernel_rfl)) En.ok0) mixed (fn:=Tryz.f74) (by kernel_rfl) (by kernel_rfl) (by kernel_rfl) (by kernel_rfl) (by kernel_rfl)) (En.okc (Cont_inl (En.okc (Cont_inl En.ok0 mixed (fn:=Tryz.f106) (by kernel_rfl) (by kernel_rfl) (by kernel_rfl) (by kernel_rfl) (by kernel_rfl)) En.ok0) mixed (fn:=Tryz.f75) (by kernel_rfl) (by kernel_rfl) (by kernel_rfl) (by kernel_rfl) (by kernel_rfl)) En.ok0)))))))) mixed (fn:=Tryz.f35) an_yCode (by kernel_rfl) (by kernel_rfl) (fun a0_r a1_l hp KK KP h=>Eq.mp (walk_yCode a0_r a1_l KK KP) (law_yCode a0_r a1_l hp KK KP h))
def C_ySsa:CKt:=ptrXT sh1 (.st .Reader) [(.sl .s)] [] (fun x y=>Lt.preReader x y) (fun x y=>Lt.ySsa x y)
def an_yMust_ySsa:An:=.s .l (.c .l .l)
def C_yMust_ySsa:CKt:=inlT ⟨Tryz.prog,eU,[(76,C_yRefuse)],eS,noP⟩ Tryz.f36 an_yMust_ySsa
def an_ySsa:An:=.j ⟨[0],[.out 0],[],[]⟩ .l .l
abbrev t_ySsa:CTt:=[(36,C_yMust_ySsa)]
theorem walk_ySsa (a0_r:Lt.Reader) (a1_l:List (List UInt8)) (KK:((Unit)×Lt.Reader)->Prop) (KP:Value->Lt.Reader->Prop):F_ySsa a0_r a1_l KK KP=bodyPXT ⟨Tryz.prog,eU,t_ySsa,eS,noP⟩ Tryz.f57 an_ySsa sh1 (.st .Reader) [(.sl .s)] [] a0_r a1_l KK KP:=by kernel_rfl
theorem c_ySsa:Cont Tryz.prog 57 C_ySsa:=k5 ⟨Tryz.prog,eU,t_ySsa,eS,noP⟩ (En.okc (Cont_inl (En.okc c_yRefuse En.ok0) mixed (fn:=Tryz.f36) (by kernel_rfl) (by kernel_rfl) (by kernel_rfl) (by kernel_rfl) (by kernel_rfl)) En.ok0) mixed (fn:=Tryz.f57) an_ySsa (by kernel_rfl) (by kernel_rfl) (fun a0_r a1_l hp KK KP h=>Eq.mp (walk_ySsa a0_r a1_l KK KP) (law_ySsa a0_r a1_l hp KK KP h))
def C_yClass:CKt:=ptrXT sh1 (.st .Reader) [(.sl .s)] [] (fun x y=>Lt.preReader x y) (fun x y=>Lt.yClass x y)
def an_yMust_yBetween_yClass:An:=.s .l (.c .l .l)
def C_yMust_yBetween_yClass:CKt:=inlT ⟨Tryz.prog,eU,[(76,C_yRefuse)],eS,noP⟩ Tryz.f36 an_yMust_yBetween_yClass
def an_yBetween_yClass:An:=.l
def C_yBetween_yClass:CKt:=inlT ⟨Tryz.prog,eU,[(36,C_yMust_yBetween_yClass),(37,C_yHas)],eS,noP⟩ Tryz.f16 an_yBetween_yClass
def an_yMust_yClass:An:=.s .l (.c .l .l)
def C_yMust_yClass:CKt:=inlT ⟨Tryz.prog,eU,[(76,C_yRefuse)],eS,noP⟩ Tryz.f36 an_yMust_yClass
def an_yWithin_yClass:An:=.s .l (.c .l .l)
def C_yWithin_yClass:CKt:=inlT ⟨Tryz.prog,eU,[(76,C_yRefuse)],eS,noP⟩ Tryz.f103 an_yWithin_yClass
def an_yClass:An:=.s .l (.s .l (.s .l (.s .l (.j ⟨[0],[],[],[.rt (.out 0) sh1 (.st .Reader)]⟩ .l .l))))
abbrev t_yClass:CTt:=[(16,C_yBetween_yClass),(36,C_yMust_yClass),(70,C_yName),(103,C_yWithin_yClass)]
theorem walk_yClass (a0_r:Lt.Reader) (a1_l:List (List UInt8)) (KK:((Unit)×Lt.Reader)->Prop) (KP:Value->Lt.Reader->Prop):F_yClass a0_r a1_l KK KP=bodyPXT ⟨Tryz.prog,eU,t_yClass,eS,noP⟩ Tryz.f58 an_yClass sh1 (.st .Reader) [(.sl .s)] [] a0_r a1_l KK KP:=by kernel_rfl
theorem c_yClass:Cont Tryz.prog 58 C_yClass:=k5 ⟨Tryz.prog,eU,t_yClass,eS,noP⟩ (En.okc (Cont_inl (En.okc (Cont_inl (En.okc c_yRefuse En.ok0) mixed (fn:=Tryz.f36) (by kernel_rfl) (by kernel_rfl) (by kernel_rfl) (by kernel_rfl) (by kernel_rfl)) (En.okc c_yHas En.ok0)) mixed (fn:=Tryz.f16) (by kernel_rfl) (by kernel_rfl) (by kernel_rfl) (by kernel_rfl) (by kernel_rfl)) (En.okc (Cont_inl (En.okc c_yRefuse En.ok0) mixed (fn:=Tryz.f36) (by kernel_rfl) (by kernel_rfl) (by kernel_rfl) (by kernel_rfl) (by kernel_rfl)) (En.okc c_yName (En.okc (Cont_inl (En.okc c_yRefuse En.ok0) mixed (fn:=Tryz.f103) (by kernel_rfl) (by kernel_rfl) (by kernel_rfl) (by kernel_rfl) (by kernel_rfl)) En.ok0)))) mixed (fn:=Tryz.f58) an_yClass (by kernel_rfl) (by kernel_rfl) (fun a0_r a1_l hp KK KP h=>Eq.mp (walk_yClass a0_r a1_l KK KP) (law_yClass a0_r a1_l hp KK KP h))
def C_yKind:CKt:=pureXT [.s] [.s] (fun x=>True) (fun x=>Lt.yKind x)
def an_yMust_yKind:An:=.s .l (.c .l .l)
def C_yMust_yKind:CKt:=inlT ⟨Tryz.prog,eU,[(76,C_yRefuse)],[],noP⟩ Tryz.f36 an_yMust_yKind
def an_yKind:An:=.s .l (.j ⟨[0],[],[],[]⟩ .l (.s .l .l))
abbrev t_yKind:CTt:=[(36,C_yMust_yKind),(45,C_Name)]
theorem walk_yKind (a0_w:List UInt8) (KK:(List UInt8)->Prop) (KP:Value->Prop):F_yKind a0_w KK KP=bodyXT ⟨Tryz.prog,eU,t_yKind,[],noP⟩ Tryz.f104 an_yKind [.s] [.s] a0_w KK KP:=by kernel_rfl
theorem c_yKind:Cont Tryz.prog 104 C_yKind:=k4 ⟨Tryz.prog,eU,t_yKind,[],noP⟩ (En.okc (Cont_inl (En.okc c_yRefuse En.ok0) mixed (fn:=Tryz.f36) (by kernel_rfl) (by kernel_rfl) (by kernel_rfl) (by kernel_rfl) (by kernel_rfl)) (En.okc c_Name En.ok0)) mixed (fn:=Tryz.f104) an_yKind (by kernel_rfl) (by kernel_rfl) (fun a0_w hp KK KP h=>Eq.mp (walk_yKind a0_w KK KP) (law_yKind a0_w KK KP h))
def C_yField:CKt:=ptrXT sh1 (.st .Reader) [(.sl .s)] [] (fun x y=>Lt.preReader x y) (fun x y=>Lt.yField x y)
def an_yMust_yBetween_yField:An:=.s .l (.c .l .l)
def C_yMust_yBetween_yField:CKt:=inlT ⟨Tryz.prog,eU,[(76,C_yRefuse)],eS,noP⟩ Tryz.f36 an_yMust_yBetween_yField
def an_yBetween_yField:An:=.l
def C_yBetween_yField:CKt:=inlT ⟨Tryz.prog,eU,[(36,C_yMust_yBetween_yField),(37,C_yHas)],eS,noP⟩ Tryz.f16 an_yBetween_yField
def an_yMust_yField:An:=.s .l (.c .l .l)
def C_yMust_yField:CKt:=inlT ⟨Tryz.prog,eU,[(76,C_yRefuse)],eS,noP⟩ Tryz.f36 an_yMust_yField
def an_yWithin_yField:An:=.s .l (.c .l .l)
def C_yWithin_yField:CKt:=inlT ⟨Tryz.prog,eU,[(76,C_yRefuse)],eS,noP⟩ Tryz.f103 an_yWithin_yField
def an_yField:An:=.s .l (.s .l (.j ⟨[0],[.out 0],[(4,.loc 4,0)],[.rt (.loc 4) [.fr,.fr] (.st .Var)]⟩ .l (.s .l (.s .l .l))))
abbrev t_yField:CTt:=[(16,C_yBetween_yField),(36,C_yMust_yField),(70,C_yName),(103,C_yWithin_yField),(104,C_yKind)]
theorem walk_yField (a0_r:Lt.Reader) (a1_l:List (List UInt8)) (KK:((Unit)×Lt.Reader)->Prop) (KP:Value->Lt.Reader->Prop):F_yField a0_r a1_l KK KP=bodyPXT ⟨Tryz.prog,eU,t_yField,eS,noP⟩ Tryz.f59 an_yField sh1 (.st .Reader) [(.sl .s)] [] a0_r a1_l KK KP:=by kernel_rfl
theorem c_yField:Cont Tryz.prog 59 C_yField:=k5 ⟨Tryz.prog,eU,t_yField,eS,noP⟩ (En.okc (Cont_inl (En.okc (Cont_inl (En.okc c_yRefuse En.ok0) mixed (fn:=Tryz.f36) (by kernel_rfl) (by kernel_rfl) (by kernel_rfl) (by kernel_rfl) (by kernel_rfl)) (En.okc c_yHas En.ok0)) mixed (fn:=Tryz.f16) (by kernel_rfl) (by kernel_rfl) (by kernel_rfl) (by kernel_rfl) (by kernel_rfl)) (En.okc (Cont_inl (En.okc c_yRefuse En.ok0) mixed (fn:=Tryz.f36) (by kernel_rfl) (by kernel_rfl) (by kernel_rfl) (by kernel_rfl) (by kernel_rfl)) (En.okc c_yName (En.okc (Cont_inl (En.okc c_yRefuse En.ok0) mixed (fn:=Tryz.f103) (by kernel_rfl) (by kernel_rfl) (by kernel_rfl) (by kernel_rfl) (by kernel_rfl)) (En.okc c_yKind En.ok0))))) mixed (fn:=Tryz.f59) an_yField (by kernel_rfl) (by kernel_rfl) (fun a0_r a1_l hp KK KP h=>Eq.mp (walk_yField a0_r a1_l KK KP) (law_yField a0_r a1_l hp KK KP h))
def C_yGlobal:CKt:=ptrXT sh1 (.st .Reader) [(.sl .s)] [] (fun x y=>Lt.preReader x y) (fun x y=>Lt.yGlobal x y)
def an_yMust_yBetween_yGlobal:An:=.s .l (.c .l .l)
def C_yMust_yBetween_yGlobal:CKt:=inlT ⟨Tryz.prog,eU,[(76,C_yRefuse)],eS,noP⟩ Tryz.f36 an_yMust_yBetween_yGlobal
def an_yBetween_yGlobal:An:=.l
def C_yBetween_yGlobal:CKt:=inlT ⟨Tryz.prog,eU,[(36,C_yMust_yBetween_yGlobal),(37,C_yHas)],eS,noP⟩ Tryz.f16 an_yBetween_yGlobal
def an_yMust_yGlobal:An:=.s .l (.c .l .l)
def C_yMust_yGlobal:CKt:=inlT ⟨Tryz.prog,eU,[(76,C_yRefuse)],eS,noP⟩ Tryz.f36 an_yMust_yGlobal
def an_yWithin_yGlobal:An:=.s .l (.c .l .l)
def C_yWithin_yGlobal:CKt:=inlT ⟨Tryz.prog,eU,[(76,C_yRefuse)],eS,noP⟩ Tryz.f103 an_yWithin_yGlobal
def an_yGlobal:An:=.s .l (.s .l (.j ⟨[0],[.out 0],[(4,.loc 4,0)],[.rt (.loc 4) [.fr,.fr] (.st .Var)]⟩ .l (.s .l (.j ⟨[0],[],[],[.rt (.out 0) sh1 (.st .Reader)]⟩ .l .l))))
abbrev t_yGlobal:CTt:=[(16,C_yBetween_yGlobal),(36,C_yMust_yGlobal),(70,C_yName),(103,C_yWithin_yGlobal),(104,C_yKind)]
theorem walk_yGlobal (a0_r:Lt.Reader) (a1_l:List (List UInt8)) (KK:((Unit)×Lt.Reader)->Prop) (KP:Value->Lt.Reader->Prop):F_yGlobal a0_r a1_l KK KP=bodyPXT ⟨Tryz.prog,eU,t_yGlobal,eS,noP⟩ Tryz.f60 an_yGlobal sh1 (.st .Reader) [(.sl .s)] [] a0_r a1_l KK KP:=by kernel_rfl
theorem c_yGlobal:Cont Tryz.prog 60 C_yGlobal:=k5 ⟨Tryz.prog,eU,t_yGlobal,eS,noP⟩ (En.okc (Cont_inl (En.okc (Cont_inl (En.okc c_yRefuse En.ok0) mixed (fn:=Tryz.f36) (by kernel_rfl) (by kernel_rfl) (by kernel_rfl) (by kernel_rfl) (by kernel_rfl)) (En.okc c_yHas En.ok0)) mixed (fn:=Tryz.f16) (by kernel_rfl) (by kernel_rfl) (by kernel_rfl) (by kernel_rfl) (by kernel_rfl)) (En.okc (Cont_inl (En.okc c_yRefuse En.ok0) mixed (fn:=Tryz.f36) (by kernel_rfl) (by kernel_rfl) (by kernel_rfl) (by kernel_rfl) (by kernel_rfl)) (En.okc c_yName (En.okc (Cont_inl (En.okc c_yRefuse En.ok0) mixed (fn:=Tryz.f103) (by kernel_rfl) (by kernel_rfl) (by kernel_rfl) (by kernel_rfl) (by kernel_rfl)) (En.okc c_yKind En.ok0))))) mixed (fn:=Tryz.f60) an_yGlobal (by kernel_rfl) (by kernel_rfl) (fun a0_r a1_l hp KK KP h=>Eq.mp (walk_yGlobal a0_r a1_l KK KP) (law_yGlobal a0_r a1_l hp KK KP h))
def C_yNumber:CKt:=pureXT [.s,(.i .i64),(.i .i64)] [(.i .i64)] (fun x=>True) (fun x=>Lt.yNumber x.1 x.2.1 x.2.2)
def an_yMust_yNumber:An:=.s .l (.c .l .l)
def C_yMust_yNumber:CKt:=inlT ⟨Tryz.prog,eU,[(76,C_yRefuse)],[],noP⟩ Tryz.f36 an_yMust_yNumber
def an_yNumber:An:=.s .l (.s .l (.j ⟨[7],[],[],[]⟩ .l (.s .l .l)))
abbrev t_yNumber:CTt:=[(36,C_yMust_yNumber),(110,C_numGet)]
theorem walk_yNumber (a0_w:List UInt8) (a1_least:Int) (a2_most:Int) (KK:Int->Prop) (KP:Value->Prop):F_yNumber a0_w a1_least a2_most KK KP=bodyXT ⟨Tryz.prog,eU,t_yNumber,[],noP⟩ Tryz.f105 an_yNumber [.s,(.i .i64),(.i .i64)] [(.i .i64)] (a0_w,a1_least,a2_most) KK KP:=by kernel_rfl
theorem c_yNumber:Cont Tryz.prog 105 C_yNumber:=k4 ⟨Tryz.prog,eU,t_yNumber,[],noP⟩ (En.okc (Cont_inl (En.okc c_yRefuse En.ok0) mixed (fn:=Tryz.f36) (by kernel_rfl) (by kernel_rfl) (by kernel_rfl) (by kernel_rfl) (by kernel_rfl)) (En.okc c_numGet En.ok0)) mixed (fn:=Tryz.f105) an_yNumber (by kernel_rfl) (by kernel_rfl) (fun (a0_w,a1_least,a2_most) hp KK KP h=>Eq.mp (walk_yNumber a0_w a1_least a2_most KK KP) (law_yNumber a0_w a1_least a2_most KK KP h))
def C_yExtern:CKt:=ptrXT sh1 (.st .Reader) [(.sl .s)] [] (fun x y=>Lt.preReader x y) (fun x y=>Lt.yExtern x y)
def an_yMust_yBetween_yExtern:An:=.s .l (.c .l .l)
def C_yMust_yBetween_yExtern:CKt:=inlT ⟨Tryz.prog,eU,[(76,C_yRefuse)],eS,noP⟩ Tryz.f36 an_yMust_yBetween_yExtern
def an_yBetween_yExtern:An:=.l
def C_yBetween_yExtern:CKt:=inlT ⟨Tryz.prog,eU,[(36,C_yMust_yBetween_yExtern),(37,C_yHas)],eS,noP⟩ Tryz.f16 an_yBetween_yExtern
def an_yMust_yExtern:An:=.s .l (.c .l .l)
def C_yMust_yExtern:CKt:=inlT ⟨Tryz.prog,eU,[(76,C_yRefuse)],eS,noP⟩ Tryz.f36 an_yMust_yExtern
def an_yWithin_yExtern:An:=.s .l (.c .l .l)
def C_yWithin_yExtern:CKt:=inlT ⟨Tryz.prog,eU,[(76,C_yRefuse)],eS,noP⟩ Tryz.f103 an_yWithin_yExtern
def an_yExtern:An:=.s .l (.s .l (.j ⟨[0],[.out 0],[(4,.loc 4,0)],[.rt (.loc 4) [.fr,.fr] (.st .Extern)]⟩ .l (.s .l (.j ⟨[0],[],[],[.rt (.out 0) sh1 (.st .Reader)]⟩ .l .l))))
abbrev t_yExtern:CTt:=[(16,C_yBetween_yExtern),(36,C_yMust_yExtern),(70,C_yName),(103,C_yWithin_yExtern),(105,C_yNumber)]
theorem walk_yExtern (a0_r:Lt.Reader) (a1_l:List (List UInt8)) (KK:((Unit)×Lt.Reader)->Prop) (KP:Value->Lt.Reader->Prop):F_yExtern a0_r a1_l KK KP=bodyPXT ⟨Tryz.prog,eU,t_yExtern,eS,noP⟩ Tryz.f61 an_yExtern sh1 (.st .Reader) [(.sl .s)] [] a0_r a1_l KK KP:=by kernel_rfl
theorem c_yExtern:Cont Tryz.prog 61 C_yExtern:=k5 ⟨Tryz.prog,eU,t_yExtern,eS,noP⟩ (En.okc (Cont_inl (En.okc (Cont_inl (En.okc c_yRefuse En.ok0) mixed (fn:=Tryz.f36) (by kernel_rfl) (by kernel_rfl) (by kernel_rfl) (by kernel_rfl) (by kernel_rfl)) (En.okc c_yHas En.ok0)) mixed (fn:=Tryz.f16) (by kernel_rfl) (by kernel_rfl) (by kernel_rfl) (by kernel_rfl) (by kernel_rfl)) (En.okc (Cont_inl (En.okc c_yRefuse En.ok0) mixed (fn:=Tryz.f36) (by kernel_rfl) (by kernel_rfl) (by kernel_rfl) (by kernel_rfl) (by kernel_rfl)) (En.okc c_yName (En.okc (Cont_inl (En.okc c_yRefuse En.ok0) mixed (fn:=Tryz.f103) (by kernel_rfl) (by kernel_rfl) (by kernel_rfl) (by kernel_rfl) (by kernel_rfl)) (En.okc c_yNumber En.ok0))))) mixed (fn:=Tryz.f61) an_yExtern (by kernel_rfl) (by kernel_rfl) (fun a0_r a1_l hp KK KP h=>Eq.mp (walk_yExtern a0_r a1_l KK KP) (law_yExtern a0_r a1_l hp KK KP h))
def C_yFunction:CKt:=ptrXT sh1 (.st .Reader) [(.sl .s)] [] (fun x y=>Lt.preReader x y) (fun x y=>Lt.yFunction x y)
def an_yMust_yBetween_yFunction:An:=.s .l (.c .l .l)
def C_yMust_yBetween_yFunction:CKt:=inlT ⟨Tryz.prog,eU,[(76,C_yRefuse)],eS,noP⟩ Tryz.f36 an_yMust_yBetween_yFunction
def an_yBetween_yFunction:An:=.l
def C_yBetween_yFunction:CKt:=inlT ⟨Tryz.prog,eU,[(36,C_yMust_yBetween_yFunction),(37,C_yHas)],eS,noP⟩ Tryz.f16 an_yBetween_yFunction
def an_yMust_yFunction:An:=.s .l (.c .l .l)
def C_yMust_yFunction:CKt:=inlT ⟨Tryz.prog,eU,[(76,C_yRefuse)],eS,noP⟩ Tryz.f36 an_yMust_yFunction
def an_yWithin_yFunction:An:=.s .l (.c .l .l)
def C_yWithin_yFunction:CKt:=inlT ⟨Tryz.prog,eU,[(76,C_yRefuse)],eS,noP⟩ Tryz.f103 an_yWithin_yFunction
def an_yFunction:An:=.s .l (.s .l (.j ⟨[0],[.out 0],[(4,.loc 4,0)],[.rt (.loc 4) [.fr,.fr,.ow [],.ow [],.ow []] (.st .Func)]⟩ .l (.s .l (.j ⟨[0],[],[],[.rt (.out 0) sh1 (.st .Reader)]⟩ .l .l))))
abbrev t_yFunction:CTt:=[(16,C_yBetween_yFunction),(36,C_yMust_yFunction),(70,C_yName),(103,C_yWithin_yFunction),(104,C_yKind)]
theorem walk_yFunction (a0_r:Lt.Reader) (a1_l:List (List UInt8)) (KK:((Unit)×Lt.Reader)->Prop) (KP:Value->Lt.Reader->Prop):F_yFunction a0_r a1_l KK KP=bodyPXT ⟨Tryz.prog,eU,t_yFunction,eS,noP⟩ Tryz.f62 an_yFunction sh1 (.st .Reader) [(.sl .s)] [] a0_r a1_l KK KP:=by kernel_rfl
theorem c_yFunction:Cont Tryz.prog 62 C_yFunction:=k5 ⟨Tryz.prog,eU,t_yFunction,eS,noP⟩ (En.okc (Cont_inl (En.okc (Cont_inl (En.okc c_yRefuse En.ok0) mixed (fn:=Tryz.f36) (by kernel_rfl) (by kernel_rfl) (by kernel_rfl) (by kernel_rfl) (by kernel_rfl)) (En.okc c_yHas En.ok0)) mixed (fn:=Tryz.f16) (by kernel_rfl) (by kernel_rfl) (by kernel_rfl) (by kernel_rfl) (by kernel_rfl)) (En.okc (Cont_inl (En.okc c_yRefuse En.ok0) mixed (fn:=Tryz.f36) (by kernel_rfl) (by kernel_rfl) (by kernel_rfl) (by kernel_rfl) (by kernel_rfl)) (En.okc c_yName (En.okc (Cont_inl (En.okc c_yRefuse En.ok0) mixed (fn:=Tryz.f103) (by kernel_rfl) (by kernel_rfl) (by kernel_rfl) (by kernel_rfl) (by kernel_rfl)) (En.okc c_yKind En.ok0))))) mixed (fn:=Tryz.f62) an_yFunction (by kernel_rfl) (by kernel_rfl) (fun a0_r a1_l hp KK KP h=>Eq.mp (walk_yFunction a0_r a1_l KK KP) (law_yFunction a0_r a1_l hp KK KP h))
def C_yParam:CKt:=ptrXT sh1 (.st .Reader) [(.sl .s)] [] (fun x y=>Lt.preReader x y) (fun x y=>Lt.yParam x y)
def an_yMust_yBetween_yParam:An:=.s .l (.c .l .l)
def C_yMust_yBetween_yParam:CKt:=inlT ⟨Tryz.prog,eU,[(76,C_yRefuse)],eS,noP⟩ Tryz.f36 an_yMust_yBetween_yParam
def an_yBetween_yParam:An:=.l
def C_yBetween_yParam:CKt:=inlT ⟨Tryz.prog,eU,[(36,C_yMust_yBetween_yParam),(37,C_yHas)],eS,noP⟩ Tryz.f16 an_yBetween_yParam
def an_yMust_yParam:An:=.s .l (.c .l .l)
def C_yMust_yParam:CKt:=inlT ⟨Tryz.prog,eU,[(76,C_yRefuse)],eS,noP⟩ Tryz.f36 an_yMust_yParam
def an_yWithin_yParam:An:=.s .l (.c .l .l)
def C_yWithin_yParam:CKt:=inlT ⟨Tryz.prog,eU,[(76,C_yRefuse)],eS,noP⟩ Tryz.f103 an_yWithin_yParam
def an_yFun_yParam:An:=.s .l (.s .l .l)
def C_yFun_yParam:CKt:=inlT ⟨Tryz.prog,eU,[],eS,noP⟩ Tryz.f106 an_yFun_yParam
def an_yParam:An:=.s .l (.s .l (.j ⟨[0],[.out 0],[(4,.loc 4,0)],[.rt (.loc 4) [.fr,.fr] (.st .Var)]⟩ .l (.s .l (.s .l .l))))
abbrev t_yParam:CTt:=[(16,C_yBetween_yParam),(36,C_yMust_yParam),(70,C_yName),(103,C_yWithin_yParam),(104,C_yKind),(106,C_yFun_yParam)]
theorem walk_yParam (a0_r:Lt.Reader) (a1_l:List (List UInt8)) (KK:((Unit)×Lt.Reader)->Prop) (KP:Value->Lt.Reader->Prop):F_yParam a0_r a1_l KK KP=bodyPXT ⟨Tryz.prog,eU,t_yParam,eS,noP⟩ Tryz.f63 an_yParam sh1 (.st .Reader) [(.sl .s)] [] a0_r a1_l KK KP:=by kernel_rfl
theorem c_yParam:Cont Tryz.prog 63 C_yParam:=k5 ⟨Tryz.prog,eU,t_yParam,eS,noP⟩ (En.okc (Cont_inl (En.okc (Cont_inl (En.okc c_yRefuse En.ok0) mixed (fn:=Tryz.f36) (by kernel_rfl) (by kernel_rfl) (by kernel_rfl) (by kernel_rfl) (by kernel_rfl)) (En.okc c_yHas En.ok0)) mixed (fn:=Tryz.f16) (by kernel_rfl) (by kernel_rfl) (by kernel_rfl) (by kernel_rfl) (by kernel_rfl)) (En.okc (Cont_inl (En.okc c_yRefuse En.ok0) mixed (fn:=Tryz.f36) (by kernel_rfl) (by kernel_rfl) (by kernel_rfl) (by kernel_rfl) (by kernel_rfl)) (En.okc c_yName (En.okc (Cont_inl (En.okc c_yRefuse En.ok0) mixed (fn:=Tryz.f103) (by kernel_rfl) (by kernel_rfl) (by kernel_rfl) (by kernel_rfl) (by kernel_rfl)) (En.okc c_yKind (En.okc (Cont_inl En.ok0 mixed (fn:=Tryz.f106) (by kernel_rfl) (by kernel_rfl) (by kernel_rfl) (by kernel_rfl) (by kernel_rfl)) En.ok0)))))) mixed (fn:=Tryz.f63) an_yParam (by kernel_rfl) (by kernel_rfl) (fun a0_r a1_l hp KK KP h=>Eq.mp (walk_yParam a0_r a1_l KK KP) (law_yParam a0_r a1_l hp KK KP h))
def C_yVariable:CKt:=ptrXT sh1 (.st .Reader) [(.sl .s)] [] (fun x y=>Lt.preReader x y) (fun x y=>Lt.yVariable x y)
def an_yMust_yBetween_yVariable:An:=.s .l (.c .l .l)
def C_yMust_yBetween_yVariable:CKt:=inlT ⟨Tryz.prog,eU,[(76,C_yRefuse)],eS,noP⟩ Tryz.f36 an_yMust_yBetween_yVariable
def an_yBetween_yVariable:An:=.l
def C_yBetween_yVariable:CKt:=inlT ⟨Tryz.prog,eU,[(36,C_yMust_yBetween_yVariable),(37,C_yHas)],eS,noP⟩ Tryz.f16 an_yBetween_yVariable
def an_yMust_yVariable:An:=.s .l (.c .l .l)
def C_yMust_yVariable:CKt:=inlT ⟨Tryz.prog,eU,[(76,C_yRefuse)],eS,noP⟩ Tryz.f36 an_yMust_yVariable
def an_yWithin_yVariable:An:=.s .l (.c .l .l)
def C_yWithin_yVariable:CKt:=inlT ⟨Tryz.prog,eU,[(76,C_yRefuse)],eS,noP⟩ Tryz.f103 an_yWithin_yVariable
def an_yFun_yVariable:An:=.s .l (.s .l .l)
def C_yFun_yVariable:CKt:=inlT ⟨Tryz.prog,eU,[],eS,noP⟩ Tryz.f106 an_yFun_yVariable
def an_yVariable:An:=.s .l (.s .l (.j ⟨[0],[.out 0],[(4,.loc 4,0)],[.rt (.loc 4) [.fr,.fr] (.st .Var)]⟩ .l (.s .l (.s .l (.j ⟨[0],[],[],[.rt (.out 0) sh1 (.st .Reader)]⟩ .l .l)))))
abbrev t_yVariable:CTt:=[(16,C_yBetween_yVariable),(36,C_yMust_yVariable),(70,C_yName),(103,C_yWithin_yVariable),(104,C_yKind),(106,C_yFun_yVariable)]
theorem walk_yVariable (a0_r:Lt.Reader) (a1_l:List (List UInt8)) (KK:((Unit)×Lt.Reader)->Prop) (KP:Value->Lt.Reader->Prop):F_yVariable a0_r a1_l KK KP=bodyPXT ⟨Tryz.prog,eU,t_yVariable,eS,noP⟩ Tryz.f64 an_yVariable sh1 (.st .Reader) [(.sl .s)] [] a0_r a1_l KK KP:=by kernel_rfl
theorem c_yVariable:Cont Tryz.prog 64 C_yVariable:=k5 ⟨Tryz.prog,eU,t_yVariable,eS,noP⟩ (En.okc (Cont_inl (En.okc (Cont_inl (En.okc c_yRefuse En.ok0) mixed (fn:=Tryz.f36) (by kernel_rfl) (by kernel_rfl) (by kernel_rfl) (by kernel_rfl) (by kernel_rfl)) (En.okc c_yHas En.ok0)) mixed (fn:=Tryz.f16) (by kernel_rfl) (by kernel_rfl) (by kernel_rfl) (by kernel_rfl) (by kernel_rfl)) (En.okc (Cont_inl (En.okc c_yRefuse En.ok0) mixed (fn:=Tryz.f36) (by kernel_rfl) (by kernel_rfl) (by kernel_rfl) (by kernel_rfl) (by kernel_rfl)) (En.okc c_yName (En.okc (Cont_inl (En.okc c_yRefuse En.ok0) mixed (fn:=Tryz.f103) (by kernel_rfl) (by kernel_rfl) (by kernel_rfl) (by kernel_rfl) (by kernel_rfl)) (En.okc c_yKind (En.okc (Cont_inl En.ok0 mixed (fn:=Tryz.f106) (by kernel_rfl) (by kernel_rfl) (by kernel_rfl) (by kernel_rfl) (by kernel_rfl)) En.ok0)))))) mixed (fn:=Tryz.f64) an_yVariable (by kernel_rfl) (by kernel_rfl) (fun a0_r a1_l hp KK KP h=>Eq.mp (walk_yVariable a0_r a1_l KK KP) (law_yVariable a0_r a1_l hp KK KP h))
def C_yStart:CKt:=ptrXT sh1 (.st .Reader) [(.sl .s)] [] (fun x y=>Lt.preReader x y) (fun x y=>Lt.yStart x y)
def an_yMust_yStart:An:=.s .l (.c .l .l)
def C_yMust_yStart:CKt:=inlT ⟨Tryz.prog,eU,[(76,C_yRefuse)],eS,noP⟩ Tryz.f36 an_yMust_yStart
def an_yWithin_yStart:An:=.s .l (.c .l .l)
def C_yWithin_yStart:CKt:=inlT ⟨Tryz.prog,eU,[(76,C_yRefuse)],eS,noP⟩ Tryz.f103 an_yWithin_yStart
def an_yFun_yStart:An:=.s .l (.s .l .l)
def C_yFun_yStart:CKt:=inlT ⟨Tryz.prog,eU,[],eS,noP⟩ Tryz.f106 an_yFun_yStart
def an_yOpen_yStart:An:=.s .l (.s .l .l)
def C_yOpen_yStart:CKt:=inlT ⟨Tryz.prog,eU,[],eS,noP⟩ Tryz.f107 an_yOpen_yStart
def an_yStart:An:=.j ⟨[0,1],[.out 0],[],[]⟩ .l (.s .l (.s .l (.s .l (.s .l (.j ⟨[0],[],[],[.rt (.out 0) sh1 (.st .Reader)]⟩ .l .l)))))
abbrev t_yStart:CTt:=[(36,C_yMust_yStart),(70,C_yName),(103,C_yWithin_yStart),(106,C_yFun_yStart),(107,C_yOpen_yStart)]
theorem walk_yStart (a0_r:Lt.Reader) (a1_l:List (List UInt8)) (KK:((Unit)×Lt.Reader)->Prop) (KP:Value->Lt.Reader->Prop):F_yStart a0_r a1_l KK KP=bodyPXT ⟨Tryz.prog,eU,t_yStart,eS,noP⟩ Tryz.f65 an_yStart sh1 (.st .Reader) [(.sl .s)] [] a0_r a1_l KK KP:=by kernel_rfl
theorem c_yStart:Cont Tryz.prog 65 C_yStart:=k5 ⟨Tryz.prog,eU,t_yStart,eS,noP⟩ (En.okc (Cont_inl (En.okc c_yRefuse En.ok0) mixed (fn:=Tryz.f36) (by kernel_rfl) (by kernel_rfl) (by kernel_rfl) (by kernel_rfl) (by kernel_rfl)) (En.okc c_yName (En.okc (Cont_inl (En.okc c_yRefuse En.ok0) mixed (fn:=Tryz.f103) (by kernel_rfl) (by kernel_rfl) (by kernel_rfl) (by kernel_rfl) (by kernel_rfl)) (En.okc (Cont_inl En.ok0 mixed (fn:=Tryz.f106) (by kernel_rfl) (by kernel_rfl) (by kernel_rfl) (by kernel_rfl) (by kernel_rfl)) (En.okc (Cont_inl En.ok0 mixed (fn:=Tryz.f107) (by kernel_rfl) (by kernel_rfl) (by kernel_rfl) (by kernel_rfl) (by kernel_rfl)) En.ok0))))) mixed (fn:=Tryz.f65) an_yStart (by kernel_rfl) (by kernel_rfl) (fun a0_r a1_l hp KK KP h=>Eq.mp (walk_yStart a0_r a1_l KK KP) (law_yStart a0_r a1_l hp KK KP h))
def C_yPhi:CKt:=ptrXT sh1 (.st .Reader) [(.sl .s)] [] (fun x y=>Lt.preReader x y) (fun x y=>Lt.yPhi x y)
def an_yMust_yBetween_yPhi:An:=.s .l (.c .l .l)
def C_yMust_yBetween_yPhi:CKt:=inlT ⟨Tryz.prog,eU,[(76,C_yRefuse)],eS,noP⟩ Tryz.f36 an_yMust_yBetween_yPhi
def an_yBetween_yPhi:An:=.l
def C_yBetween_yPhi:CKt:=inlT ⟨Tryz.prog,eU,[(36,C_yMust_yBetween_yPhi),(37,C_yHas)],eS,noP⟩ Tryz.f16 an_yBetween_yPhi
def an_yMust_yPhi:An:=.s .l (.c .l .l)
def C_yMust_yPhi:CKt:=inlT ⟨Tryz.prog,eU,[(76,C_yRefuse)],eS,noP⟩ Tryz.f36 an_yMust_yPhi
def an_yWithin_yMore_yPhi:An:=.s .l (.c .l .l)
def C_yWithin_yMore_yPhi:CKt:=inlT ⟨Tryz.prog,eU,[(76,C_yRefuse)],eS,noP⟩ Tryz.f103 an_yWithin_yMore_yPhi
def an_yMore_yPhi:An:=.s .l .l
def C_yMore_yPhi:CKt:=inlT ⟨Tryz.prog,eU,[(103,C_yWithin_yMore_yPhi)],eS,noP⟩ Tryz.f74 an_yMore_yPhi
def an_yFun_yBlock_yPhi:An:=.s .l (.s .l .l)
def C_yFun_yBlock_yPhi:CKt:=inlT ⟨Tryz.prog,eU,[],eS,noP⟩ Tryz.f106 an_yFun_yBlock_yPhi
def an_yBlock_yPhi:An:=.s .l (.s .l (.s .l .l))
def C_yBlock_yPhi:CKt:=inlT ⟨Tryz.prog,eU,[(106,C_yFun_yBlock_yPhi)],eS,noP⟩ Tryz.f75 an_yBlock_yPhi
def an_yWithin_yPhi:An:=.s .l (.c .l .l)
def C_yWithin_yPhi:CKt:=inlT ⟨Tryz.prog,eU,[(76,C_yRefuse)],eS,noP⟩ Tryz.f103 an_yWithin_yPhi
def an_yPhi:An:=.s .l (.j ⟨[0,1],[.out 0],[],[]⟩ .l (.s .l (.s (.s .l (.b (.lp ⟨[0,1,4],[.out 0],[],[.sl 5 (.i .i64),.rt (.loc 4) sh3 (.st .Phi)]⟩ (.s (.s .l (.c .l .l)) (.j ⟨[0,1,4,5],[.out 0],[],[.rt (.loc 4) sh3 (.st .Phi)]⟩ (.b .l) .l))))) (.s .l (.s .l (.s .l .l))))))
abbrev t_yPhi:CTt:=[(16,C_yBetween_yPhi),(36,C_yMust_yPhi),(70,C_yName),(74,C_yMore_yPhi),(75,C_yBlock_yPhi),(103,C_yWithin_yPhi),(108,C_yArg)]
theorem walk_yPhi (a0_r:Lt.Reader) (a1_l:List (List UInt8)) (KK:((Unit)×Lt.Reader)->Prop) (KP:Value->Lt.Reader->Prop):F_yPhi a0_r a1_l KK KP=bodyPXT ⟨Tryz.prog,eU,t_yPhi,eS,noP⟩ Tryz.f66 an_yPhi sh1 (.st .Reader) [(.sl .s)] [] a0_r a1_l KK KP:=by kernel_rfl
theorem c_yPhi:Cont Tryz.prog 66 C_yPhi:=k5 ⟨Tryz.prog,eU,t_yPhi,eS,noP⟩ (En.okc (Cont_inl (En.okc (Cont_inl (En.okc c_yRefuse En.ok0) mixed (fn:=Tryz.f36) (by kernel_rfl) (by kernel_rfl) (by kernel_rfl) (by kernel_rfl) (by kernel_rfl)) (En.okc c_yHas En.ok0)) mixed (fn:=Tryz.f16) (by kernel_rfl) (by kernel_rfl) (by kernel_rfl) (by kernel_rfl) (by kernel_rfl)) (En.okc (Cont_inl (En.okc c_yRefuse En.ok0) mixed (fn:=Tryz.f36) (by kernel_rfl) (by kernel_rfl) (by kernel_rfl) (by kernel_rfl) (by kernel_rfl)) (En.okc c_yName (En.okc (Cont_inl (En.okc (Cont_inl (En.okc c_yRefuse En.ok0) mixed (fn:=Tryz.f103) (by kernel_rfl) (by kernel_rfl) (by kernel_rfl) (by kernel_rfl) (by kernel_rfl)) En.ok0) mixed (fn:=Tryz.f74) (by kernel_rfl) (by kernel_rfl) (by kernel_rfl) (by kernel_rfl) (by kernel_rfl)) (En.okc (Cont_inl (En.okc (Cont_inl En.ok0 mixed (fn:=Tryz.f106) (by kernel_rfl) (by kernel_rfl) (by kernel_rfl) (by kernel_rfl) (by kernel_rfl)) En.ok0) mixed (fn:=Tryz.f75) (by kernel_rfl) (by kernel_rfl) (by kernel_rfl) (by kernel_rfl) (by kernel_rfl)) (En.okc (Cont_inl (En.okc c_yRefuse En.ok0) mixed (fn:=Tryz.f103) (by kernel_rfl) (by kernel_rfl) (by kernel_rfl) (by kernel_rfl) (by kernel_rfl)) (En.okc c_yArg En.ok0))))))) mixed (fn:=Tryz.f66) an_yPhi (by kernel_rfl) (by kernel_rfl) (fun a0_r a1_l hp KK KP h=>Eq.mp (walk_yPhi a0_r a1_l KK KP) (law_yPhi a0_r a1_l hp KK KP h))
def C_yFrame:CKt:=ptrXT sh1 (.st .Reader) [(.sl .s)] [] (fun x y=>Lt.preReader x y) (fun x y=>Lt.yFrame x y)
def an_yMust_yBetween_yFrame:An:=.s .l (.c .l .l)
def C_yMust_yBetween_yFrame:CKt:=inlT ⟨Tryz.prog,eU,[(76,C_yRefuse)],eS,noP⟩ Tryz.f36 an_yMust_yBetween_yFrame
def an_yBetween_yFrame:An:=.l
def C_yBetween_yFrame:CKt:=inlT ⟨Tryz.prog,eU,[(36,C_yMust_yBetween_yFrame),(37,C_yHas)],eS,noP⟩ Tryz.f16 an_yBetween_yFrame
def an_yMust_yFrame:An:=.s .l (.c .l .l)
def C_yMust_yFrame:CKt:=inlT ⟨Tryz.prog,eU,[(76,C_yRefuse)],eS,noP⟩ Tryz.f36 an_yMust_yFrame
def an_yWithin_yFrame:An:=.s .l (.c .l .l)
def C_yWithin_yFrame:CKt:=inlT ⟨Tryz.prog,eU,[(76,C_yRefuse)],eS,noP⟩ Tryz.f103 an_yWithin_yFrame
def an_yFun_yBlock_yLast_yFrame:An:=.s .l (.s .l .l)
def C_yFun_yBlock_yLast_yFrame:CKt:=inlT ⟨Tryz.prog,eU,[],eS,noP⟩ Tryz.f106 an_yFun_yBlock_yLast_yFrame
def an_yBlock_yLast_yFrame:An:=.s .l (.s .l (.s .l .l))
def C_yBlock_yLast_yFrame:CKt:=inlT ⟨Tryz.prog,eU,[(106,C_yFun_yBlock_yLast_yFrame)],eS,noP⟩ Tryz.f75 an_yBlock_yLast_yFrame
def an_yLast_yFrame:An:=.s .l (.s .l (.s .l .l))
def C_yLast_yFrame:CKt:=inlT ⟨Tryz.prog,eU,[(75,C_yBlock_yLast_yFrame)],eS,noP⟩ Tryz.f109 an_yLast_yFrame
def an_yFrame:An:=.s .l (.j ⟨[0,1],[.out 0],[],[]⟩ .l (.j ⟨[0,1],[.out 0],[(4,.loc 4,0)],[.rt (.loc 4) [.fr,.fr,.fr,.ow []] (.st .Frame)]⟩ .l (.s (.s .l (.b (.lp ⟨[0,1,4],[.out 0],[],[.sl 5 (.i .i64),.rt (.loc 4) sh6 (.st .Frame)]⟩ (.s (.s .l (.c .l .l)) (.j ⟨[0,1,4,5],[.out 0],[],[.rt (.loc 4) sh6 (.st .Frame)]⟩ (.b .l) .l))))) (.s .l (.s .l (.s .l .l))))))
abbrev t_yFrame:CTt:=[(16,C_yBetween_yFrame),(36,C_yMust_yFrame),(70,C_yName),(103,C_yWithin_yFrame),(105,C_yNumber),(108,C_yArg),(109,C_yLast_yFrame)]
theorem walk_yFrame (a0_r:Lt.Reader) (a1_l:List (List UInt8)) (KK:((Unit)×Lt.Reader)->Prop) (KP:Value->Lt.Reader->Prop):F_yFrame a0_r a1_l KK KP=bodyPXT ⟨Tryz.prog,eU,t_yFrame,eS,noP⟩ Tryz.f67 an_yFrame sh1 (.st .Reader) [(.sl .s)] [] a0_r a1_l KK KP:=by kernel_rfl
theorem c_yFrame:Cont Tryz.prog 67 C_yFrame:=k5 ⟨Tryz.prog,eU,t_yFrame,eS,noP⟩ (En.okc (Cont_inl (En.okc (Cont_inl (En.okc c_yRefuse En.ok0) mixed (fn:=Tryz.f36) (by kernel_rfl) (by kernel_rfl) (by kernel_rfl) (by kernel_rfl) (by kernel_rfl)) (En.okc c_yHas En.ok0)) mixed (fn:=Tryz.f16) (by kernel_rfl) (by kernel_rfl) (by kernel_rfl) (by kernel_rfl) (by kernel_rfl)) (En.okc (Cont_inl (En.okc c_yRefuse En.ok0) mixed (fn:=Tryz.f36) (by kernel_rfl) (by kernel_rfl) (by kernel_rfl) (by kernel_rfl) (by kernel_rfl)) (En.okc c_yName (En.okc (Cont_inl (En.okc c_yRefuse En.ok0) mixed (fn:=Tryz.f103) (by kernel_rfl) (by kernel_rfl) (by kernel_rfl) (by kernel_rfl) (by kernel_rfl)) (En.okc c_yNumber (En.okc c_yArg (En.okc (Cont_inl (En.okc (Cont_inl (En.okc (Cont_inl En.ok0 mixed (fn:=Tryz.f106) (by kernel_rfl) (by kernel_rfl) (by kernel_rfl) (by kernel_rfl) (by kernel_rfl)) En.ok0) mixed (fn:=Tryz.f75) (by kernel_rfl) (by kernel_rfl) (by kernel_rfl) (by kernel_rfl) (by kernel_rfl)) En.ok0) mixed (fn:=Tryz.f109) (by kernel_rfl) (by kernel_rfl) (by kernel_rfl) (by kernel_rfl) (by kernel_rfl)) En.ok0))))))) mixed (fn:=Tryz.f67) an_yFrame (by kernel_rfl) (by kernel_rfl) (fun a0_r a1_l hp KK KP h=>Eq.mp (walk_yFrame a0_r a1_l KK KP) (law_yFrame a0_r a1_l hp KK KP h))
def C_yObject:CKt:=ptrXT sh1 (.st .Reader) [(.sl .s)] [] (fun x y=>Lt.preReader x y) (fun x y=>Lt.yObject x y)
def an_yMust_yBetween_yObject:An:=.s .l (.c .l .l)
def C_yMust_yBetween_yObject:CKt:=inlT ⟨Tryz.prog,eU,[(76,C_yRefuse)],eS,noP⟩ Tryz.f36 an_yMust_yBetween_yObject
def an_yBetween_yObject:An:=.l
def C_yBetween_yObject:CKt:=inlT ⟨Tryz.prog,eU,[(36,C_yMust_yBetween_yObject),(37,C_yHas)],eS,noP⟩ Tryz.f16 an_yBetween_yObject
def an_yMust_yObject:An:=.s .l (.c .l .l)
def C_yMust_yObject:CKt:=inlT ⟨Tryz.prog,eU,[(76,C_yRefuse)],eS,noP⟩ Tryz.f36 an_yMust_yObject
def an_yWithin_yObject:An:=.s .l (.c .l .l)
def C_yWithin_yObject:CKt:=inlT ⟨Tryz.prog,eU,[(76,C_yRefuse)],eS,noP⟩ Tryz.f103 an_yWithin_yObject
def an_yFun_yBlock_yLast_yObject:An:=.s .l (.s .l .l)
def C_yFun_yBlock_yLast_yObject:CKt:=inlT ⟨Tryz.prog,eU,[],eS,noP⟩ Tryz.f106 an_yFun_yBlock_yLast_yObject
def an_yBlock_yLast_yObject:An:=.s .l (.s .l (.s .l .l))
def C_yBlock_yLast_yObject:CKt:=inlT ⟨Tryz.prog,eU,[(106,C_yFun_yBlock_yLast_yObject)],eS,noP⟩ Tryz.f75 an_yBlock_yLast_yObject
def an_yLast_yObject:An:=.s .l (.s .l (.s .l .l))
def C_yLast_yObject:CKt:=inlT ⟨Tryz.prog,eU,[(75,C_yBlock_yLast_yObject)],eS,noP⟩ Tryz.f109 an_yLast_yObject
def an_yObject:An:=.s .l (.j ⟨[0,1],[.out 0],[],[]⟩ .l (.j ⟨[0],[.out 0],[(4,.loc 4,0)],[.rt (.loc 4) [.fr,.fr] (.st .Virt)]⟩ .l (.s .l (.s .l (.j ⟨[0],[],[],[.rt (.out 0) sh1 (.st .Reader)]⟩ .l .l)))))
abbrev t_yObject:CTt:=[(16,C_yBetween_yObject),(36,C_yMust_yObject),(70,C_yName),(73,C_yArgs),(103,C_yWithin_yObject),(109,C_yLast_yObject)]
theorem walk_yObject (a0_r:Lt.Reader) (a1_l:List (List UInt8)) (KK:((Unit)×Lt.Reader)->Prop) (KP:Value->Lt.Reader->Prop):F_yObject a0_r a1_l KK KP=bodyPXT ⟨Tryz.prog,eU,t_yObject,eS,noP⟩ Tryz.f68 an_yObject sh1 (.st .Reader) [(.sl .s)] [] a0_r a1_l KK KP:=by kernel_rfl
theorem c_yObject:Cont Tryz.prog 68 C_yObject:=k5 ⟨Tryz.prog,eU,t_yObject,eS,noP⟩ (En.okc (Cont_inl (En.okc (Cont_inl (En.okc c_yRefuse En.ok0) mixed (fn:=Tryz.f36) (by kernel_rfl) (by kernel_rfl) (by kernel_rfl) (by kernel_rfl) (by kernel_rfl)) (En.okc c_yHas En.ok0)) mixed (fn:=Tryz.f16) (by kernel_rfl) (by kernel_rfl) (by kernel_rfl) (by kernel_rfl) (by kernel_rfl)) (En.okc (Cont_inl (En.okc c_yRefuse En.ok0) mixed (fn:=Tryz.f36) (by kernel_rfl) (by kernel_rfl) (by kernel_rfl) (by kernel_rfl) (by kernel_rfl)) (En.okc c_yName (En.okc c_yArgs (En.okc (Cont_inl (En.okc c_yRefuse En.ok0) mixed (fn:=Tryz.f103) (by kernel_rfl) (by kernel_rfl) (by kernel_rfl) (by kernel_rfl) (by kernel_rfl)) (En.okc (Cont_inl (En.okc (Cont_inl (En.okc (Cont_inl En.ok0 mixed (fn:=Tryz.f106) (by kernel_rfl) (by kernel_rfl) (by kernel_rfl) (by kernel_rfl) (by kernel_rfl)) En.ok0) mixed (fn:=Tryz.f75) (by kernel_rfl) (by kernel_rfl) (by kernel_rfl) (by kernel_rfl) (by kernel_rfl)) En.ok0) mixed (fn:=Tryz.f109) (by kernel_rfl) (by kernel_rfl) (by kernel_rfl) (by kernel_rfl) (by kernel_rfl)) En.ok0)))))) mixed (fn:=Tryz.f68) an_yObject (by kernel_rfl) (by kernel_rfl) (fun a0_r a1_l hp KK KP h=>Eq.mp (walk_yObject a0_r a1_l KK KP) (law_yObject a0_r a1_l hp KK KP h))
def C_yEnd:CKt:=ptrXT sh1 (.st .Reader) [(.sl .s)] [] (fun x y=>Lt.preReader x y) (fun x y=>Lt.yEnd x y)
def an_yMust_yBetween_yEnd:An:=.s .l (.c .l .l)
def C_yMust_yBetween_yEnd:CKt:=inlT ⟨Tryz.prog,eU,[(76,C_yRefuse)],eS,noP⟩ Tryz.f36 an_yMust_yBetween_yEnd
def an_yBetween_yEnd:An:=.l
def C_yBetween_yEnd:CKt:=inlT ⟨Tryz.prog,eU,[(36,C_yMust_yBetween_yEnd),(37,C_yHas)],eS,noP⟩ Tryz.f16 an_yBetween_yEnd
def an_yMust_yEnd:An:=.s .l (.c .l .l)
def C_yMust_yEnd:CKt:=inlT ⟨Tryz.prog,eU,[(76,C_yRefuse)],eS,noP⟩ Tryz.f36 an_yMust_yEnd
def an_yFun_yBlock_yEnd:An:=.s .l (.s .l .l)
def C_yFun_yBlock_yEnd:CKt:=inlT ⟨Tryz.prog,eU,[],eS,noP⟩ Tryz.f106 an_yFun_yBlock_yEnd
def an_yBlock_yEnd:An:=.s .l (.s .l (.s .l .l))
def C_yBlock_yEnd:CKt:=inlT ⟨Tryz.prog,eU,[(106,C_yFun_yBlock_yEnd)],eS,noP⟩ Tryz.f75 an_yBlock_yEnd
def an_yEnd:An:=.s .l (.s .l (.j ⟨[0,4],[.out 0],[],[.rt (.loc 4) [.fr,.fr,.fr,.fr,.ow [.fr],.fr] (.st .Term)]⟩ (.s .l (.b (.s .l (.c (.s .l .l) (.s .l (.c (.s .l .l) (.s .l (.c (.s .l .l) (.s .l (.s .l (.s .l .l))))))))))) (.j ⟨[0],[],[],[.rt (.out 0) sh1 (.st .Reader)]⟩ .l .l)))
abbrev t_yEnd:CTt:=[(16,C_yBetween_yEnd),(36,C_yMust_yEnd),(70,C_yName),(75,C_yBlock_yEnd),(108,C_yArg),(110,C_numGet)]
theorem walk_yEnd (a0_r:Lt.Reader) (a1_l:List (List UInt8)) (KK:((Unit)×Lt.Reader)->Prop) (KP:Value->Lt.Reader->Prop):F_yEnd a0_r a1_l KK KP=bodyPXT ⟨Tryz.prog,eU,t_yEnd,eS,noP⟩ Tryz.f69 an_yEnd sh1 (.st .Reader) [(.sl .s)] [] a0_r a1_l KK KP:=by kernel_rfl
theorem c_yEnd:Cont Tryz.prog 69 C_yEnd:=k5 ⟨Tryz.prog,eU,t_yEnd,eS,noP⟩ (En.okc (Cont_inl (En.okc (Cont_inl (En.okc c_yRefuse En.ok0) mixed (fn:=Tryz.f36) (by kernel_rfl) (by kernel_rfl) (by kernel_rfl) (by kernel_rfl) (by kernel_rfl)) (En.okc c_yHas En.ok0)) mixed (fn:=Tryz.f16) (by kernel_rfl) (by kernel_rfl) (by kernel_rfl) (by kernel_rfl) (by kernel_rfl)) (En.okc (Cont_inl (En.okc c_yRefuse En.ok0) mixed (fn:=Tryz.f36) (by kernel_rfl) (by kernel_rfl) (by kernel_rfl) (by kernel_rfl) (by kernel_rfl)) (En.okc c_yName (En.okc (Cont_inl (En.okc (Cont_inl En.ok0 mixed (fn:=Tryz.f106) (by kernel_rfl) (by kernel_rfl) (by kernel_rfl) (by kernel_rfl) (by kernel_rfl)) En.ok0) mixed (fn:=Tryz.f75) (by kernel_rfl) (by kernel_rfl) (by kernel_rfl) (by kernel_rfl) (by kernel_rfl)) (En.okc c_yArg (En.okc c_numGet En.ok0)))))) mixed (fn:=Tryz.f69) an_yEnd (by kernel_rfl) (by kernel_rfl) (fun a0_r a1_l hp KK KP h=>Eq.mp (walk_yEnd a0_r a1_l KK KP) (law_yEnd a0_r a1_l hp KK KP h))
def C_yLine:CKt:=ptrXT sh1 (.st .Reader) [(.sl .s)] [] (fun x y=>Lt.preReader x y) (fun x y=>Lt.yLine x y)
def an_yLine:An:=.s .l (.s (.j ⟨[0,1,4],[.out 0],[],[.sl 18 .bo]⟩ .l (.c .l .l)) (.s .l (.s .l (.j ⟨[0],[],[],[.rt (.out 0) sh1 (.st .Reader)]⟩ (.s .l (.c .l .l)) .l))))
abbrev t_yLine:CTt:=[(34,C_yReaders),(35,C_yCode),(57,C_ySsa),(58,C_yClass),(59,C_yField),(60,C_yGlobal),(61,C_yExtern),(62,C_yFunction),(63,C_yParam),(64,C_yVariable),(65,C_yStart),(66,C_yPhi),(67,C_yFrame),(68,C_yObject),(69,C_yEnd)]
theorem walk_yLine (a0_r:Lt.Reader) (a1_l:List (List UInt8)) (KK:((Unit)×Lt.Reader)->Prop) (KP:Value->Lt.Reader->Prop):F_yLine a0_r a1_l KK KP=bodyPXT ⟨Tryz.prog,eU,t_yLine,eS,noP⟩ Tryz.f15 an_yLine sh1 (.st .Reader) [(.sl .s)] [] a0_r a1_l KK KP:=by kernel_rfl
theorem c_yLine:Cont Tryz.prog 15 C_yLine:=k5 ⟨Tryz.prog,eU,t_yLine,eS,noP⟩ (En.okc c_yReaders (En.okc c_yCode (En.okc c_ySsa (En.okc c_yClass (En.okc c_yField (En.okc c_yGlobal (En.okc c_yExtern (En.okc c_yFunction (En.okc c_yParam (En.okc c_yVariable (En.okc c_yStart (En.okc c_yPhi (En.okc c_yFrame (En.okc c_yObject (En.okc c_yEnd En.ok0))))))))))))))) mixed (fn:=Tryz.f15) an_yLine (by kernel_rfl) (by kernel_rfl) (fun a0_r a1_l hp KK KP h=>Eq.mp (walk_yLine a0_r a1_l KK KP) (law_yLine a0_r a1_l hp KK KP h))
def C_yParse:CKt:=pureT0 [.s] [(.st .Program),(.i .i64),(.i .i64)] (fun x=>Lt.yParse x)
def an_yMust_yBetween_yParse:An:=.s .l (.c .l .l)
def C_yMust_yBetween_yParse:CKt:=inlT ⟨Tryz.prog,eU,[(76,C_yRefuse)],eS,noP⟩ Tryz.f36 an_yMust_yBetween_yParse
def an_yBetween_yParse:An:=.l
def C_yBetween_yParse:CKt:=inlT ⟨Tryz.prog,eU,[(36,C_yMust_yBetween_yParse),(37,C_yHas)],eS,noP⟩ Tryz.f16 an_yBetween_yParse
def an_yParse:An:=.s (.s .l (.b (.lp ⟨[2,3,4,6,23,24],[.out 2,.out 3,.out 4,.out 6],[],[.sl 25 (.i .i64),.rt (.out 21) sh1 (.st .Reader)]⟩ (.s .l (.s (.c .l .l) (.s (.b (.s .l (.s .l .l))) .l)))))) (.s .l (.s .l (.s .l .l)))
abbrev t_yParse:CTt:=[(13,C_lSplit),(15,C_yLine),(16,C_yBetween_yParse)]
theorem walk_yParse (a0_s:List UInt8) (KK:(Lt.Program×Int×Int)->Prop):F_yParse a0_s KK=bodyDT ⟨Tryz.prog,eU,t_yParse,eS,noP⟩ Tryz.f6 Tryz.f14 [(.l,kL (Tryz.f6.body.getD .skip)),(.l,kL (kR (Tryz.f6.body.getD .skip))),(.s .l (.c (.j ⟨[2,3,4],[],[],[.rt (.loc 2) sh7 (.st .Program),.rt (.loc 3) [.fr] (.i .i64),.rt (.loc 4) [.fr] (.i .i64)]⟩ .l .l) .l),kL (kR (kR (Tryz.f6.body.getD .skip)))),(.l,kL (kR (kR (kR (Tryz.f6.body.getD .skip)))))] an_yParse .l (kR (kR (kR (kR (kR (Tryz.f6.body.getD .skip)))))) [.s] [(.st .Program),(.i .i64),(.i .i64)] a0_s KK:=by kernel_rfl
theorem c_yParse:Cont Tryz.prog 6 C_yParse:=Cont_T0 (Cont_defer (En.okc c_lSplit (En.okc c_yLine (En.okc (Cont_inl (En.okc (Cont_inl (En.okc c_yRefuse En.ok0) mixed (fn:=Tryz.f36) (by kernel_rfl) (by kernel_rfl) (by kernel_rfl) (by kernel_rfl) (by kernel_rfl)) (En.okc c_yHas En.ok0)) mixed (fn:=Tryz.f16) (by kernel_rfl) (by kernel_rfl) (by kernel_rfl) (by kernel_rfl) (by kernel_rfl)) En.ok0))) mixed (fn:=Tryz.f6) (l:=[(.l,kL (Tryz.f6.body.getD .skip)),(.l,kL (kR (Tryz.f6.body.getD .skip))),(.s .l (.c (.j ⟨[2,3,4],[],[],[.rt (.loc 2) sh7 (.st .Program),.rt (.loc 3) [.fr] (.i .i64),.rt (.loc 4) [.fr] (.i .i64)]⟩ .l .l) .l),kL (kR (kR (Tryz.f6.body.getD .skip)))),(.l,kL (kR (kR (kR (Tryz.f6.body.getD .skip)))))]) (an2:=an_yParse) (anC:=.l) (id:=rgI (kL (kR (kR (kR (kR (Tryz.f6.body.getD .skip))))))) (o1:=rgO (kL (kR (kR (kR (kR (Tryz.f6.body.getD .skip)))))) 0) (o2:=rgO (kL (kR (kR (kR (kR (Tryz.f6.body.getD .skip)))))) 1) (rest:=kR (kR (kR (kR (kR (Tryz.f6.body.getD .skip)))))) (by kernel_rfl) (by kernel_rfl) (by kernel_rfl) (by kernel_rfl) (by kernel_rfl) (by kernel_rfl) (by kernel_rfl) (by kernel_rfl) (by kernel_rfl) (by kernel_rfl) (by kernel_rfl) (by kernel_rfl) (by kernel_rfl) (fun a0_s _ KK h=>Eq.mp (walk_yParse a0_s KK) (law_yParse a0_s KK h)))
def C_sSplit:CKt:=pureT0 [.s] [(.sl (.st .RLine)),(.i .i64),(.i .i64)] (fun x=>Lt.sSplit x)
def an_sSplit:An:=.s .l (.s (.s .l (.c (.s .l .l) .l)) (.s .l (.s .l (.s .l (.s .l (.s .l (.s .l (.s (.s .l (.b (.lp ⟨[0],[],[],[.ow 5 [.fr,.fr] (.st .RLine),.ow 6 [.fr] .s,.ow 7 [.fr] .b8,.sl 8 (.i .i64),.sl 9 .bo,.sl 10 .bo,.sl 11 (.i .i64)]⟩ (.s (.s .l (.c .l .l)) (.j ⟨[0,11],[],[],[.ow 5 [.fr,.fr] (.st .RLine),.ow 6 [.fr] .s,.ow 7 [.fr] .b8,.sl 8 (.i .i64),.sl 9 .bo,.sl 10 .bo]⟩ (.b (.j ⟨[0,5,6,7,8,9,10,11],[.gh 900005,.gh 900006,.gh 900007],[],[.sl 12 .bo]⟩ .l (.j ⟨[0,5,6,7,8,10,11,12],[.gh 900005,.gh 900006,.gh 900007],[],[.sl 9 .bo]⟩ (.j ⟨[0,5,6,7,8,9,10,11,12],[.gh 900005,.gh 900006,.gh 900007],[],[.sl 39 .bo]⟩ .l (.c .l .l)) (.j ⟨[0,5,8,9,11,12],[.gh 900005],[],[.ow 6 [.fr] .s,.ow 7 [.fr] .b8,.sl 10 .bo]⟩ (.j ⟨[0,5,6,7,8,9,10,11,12],[.gh 900005,.gh 900006,.gh 900007],[],[.sl 55 .bo]⟩ .l (.c (.j ⟨[0,5,8,9,10,11,12],[.gh 900005],[],[.ow 6 [.fr] .s]⟩ (.s .l (.c .l .l)) .l) (.j ⟨[0,5,6,7,8,9,11,12],[.gh 900005,.gh 900006,.gh 900007],[],[.sl 10 .bo]⟩ .l .l))) (.s .l (.c (.s (.s .l (.c (.s .l .l) .l)) (.j ⟨[0,7,8,10,11],[.gh 900007],[],[.ow 5 [.fr,.fr] (.st .RLine)]⟩ (.s .l (.c .l .l)) (.s .l (.s .l .l)))) .l)))))) .l))))) (.s .l .l)))))))))
theorem walk_sSplit (a0_s:List UInt8) (KK:(List Lt.RLine×Int×Int)->Prop):F_sSplit a0_s KK=bodyT ⟨Tryz.prog,eU,[],[],noP⟩ Tryz.f17 an_sSplit [.s] [(.sl (.st .RLine)),(.i .i64),(.i .i64)] a0_s KK:=by kernel_rfl
theorem c_sSplit:Cont Tryz.prog 17 C_sSplit:=k0 ⟨Tryz.prog,eU,[],[],noP⟩ En.ok0 mixed (fn:=Tryz.f17) an_sSplit (by kernel_rfl) (by kernel_rfl) (fun a0_s KK h=>Eq.mp (walk_sSplit a0_s KK) (law_sSplit a0_s KK h))
def C_rName:CKt:=pureT0 [.s] [.bo] (fun x=>Lt.rName x)
def an_rName:An:=.s .l (.s (.s .l (.b (.lp ⟨[0],[],[],[.sl 3 (.i .i64)]⟩ (.s (.s .l (.c .l .l)) (.s (.b (.s .l (.j ⟨[0,3,4],[],[],[.sl 5 .bo]⟩ .l (.j ⟨[0,3],[],[],[.sl 46 .bo]⟩ .l (.c (.s .l .l) .l))))) .l))))) (.j ⟨[],[],[],[.sl 2 .bo]⟩ .l .l))
theorem walk_rName (a0_s:List UInt8) (KK:Bool->Prop):F_rName a0_s KK=bodyT ⟨Tryz.prog,eU,[],[],noP⟩ Tryz.f112 an_rName [.s] [.bo] a0_s KK:=by kernel_rfl
theorem c_rName:Cont Tryz.prog 112 C_rName:=k0 ⟨Tryz.prog,eU,[],[],noP⟩ En.ok0 mixed (fn:=Tryz.f112) an_rName (by kernel_rfl) (by kernel_rfl) (fun a0_s KK h=>Eq.mp (walk_rName a0_s KK) (law_rName a0_s KK h))
def C_sNames:CKt:=pureT0 [(.sl .s)] [.bo] (fun x=>Lt.sNames x)
def an_sNames:An:=.s .l (.s (.s .l (.b (.lp ⟨[0],[],[],[.sl 3 (.i .i64)]⟩ (.s (.s .l (.c .l .l)) (.s (.b (.s .l (.c (.s .l .l) .l))) .l))))) (.s .l .l))
abbrev t_sNames:CTt:=[(112,C_rName)]
theorem walk_sNames (a0_l:List (List UInt8)) (KK:Bool->Prop):F_sNames a0_l KK=bodyT ⟨Tryz.prog,eU,t_sNames,[],noP⟩ Tryz.f77 an_sNames [(.sl .s)] [.bo] a0_l KK:=by kernel_rfl
theorem c_sNames:Cont Tryz.prog 77 C_sNames:=k0 ⟨Tryz.prog,eU,t_sNames,[],noP⟩ (En.okc c_rName En.ok0) mixed (fn:=Tryz.f77) an_sNames (by kernel_rfl) (by kernel_rfl) (fun a0_l KK h=>Eq.mp (walk_sNames a0_l KK) (law_sNames a0_l KK h))
def C_sOp:CKt:=pureT0 [.s] [(.i .i64),.bo] (fun x=>Lt.sOp x)
def an_sOp:An:=.s .l (.s (.s .l (.b (.lp ⟨[0],[],[],[.sl 4 (.i .i64)]⟩ (.s (.s .l (.c .l .l)) (.s (.b (.s .l (.c (.s .l .l) .l))) .l))))) (.s .l .l))
theorem walk_sOp (a0_word:List UInt8) (KK:(Int×Bool)->Prop):F_sOp a0_word KK=bodyT ⟨Tryz.prog,eU,[],[],noP⟩ Tryz.f78 an_sOp [.s] [(.i .i64),.bo] a0_word KK:=by kernel_rfl
theorem c_sOp:Cont Tryz.prog 78 C_sOp:=k0 ⟨Tryz.prog,eU,[],[],noP⟩ En.ok0 mixed (fn:=Tryz.f78) an_sOp (by kernel_rfl) (by kernel_rfl) (fun a0_word KK h=>Eq.mp (walk_sOp a0_word KK) (law_sOp a0_word KK h))
def C_rOf:CKt:=pureT0 [(.i .i64)] [(.st .RForm),.bo] (fun x=>Lt.rOf x)
def an_rOf:An:=.s .l (.s (.j ⟨[0,2],[.loc 2],[],[.sl 10 .bo]⟩ .l (.c (.s .l .l) .l)) (.j ⟨[0,2],[.loc 2],[(4,.loc 4,0)],[.rt (.loc 4) [.fr,.fr,.fr,.fr,.fr] (.st .RForm)]⟩ .l (.j ⟨[2,4],[.loc 2],[],[.rt (.loc 4) [.fr,.fr,.fr,.fr,.fr] (.st .RForm)]⟩ (.s .l (.b (.j ⟨[2,4,48],[.loc 2,.loc 4],[],[.sl 51 .bo]⟩ (.s .l (.c .l (.s .l (.c .l (.s .l (.c .l (.s .l (.c .l (.s .l (.c .l .l)))))))))) (.c (.s .l .l) (.j ⟨[2,4,48],[.loc 2,.loc 4],[],[.sl 60 .bo]⟩ (.s .l (.c .l (.s .l (.c .l .l)))) (.c .l (.j ⟨[2,4],[.loc 2,.loc 4],[],[.sl 65 .bo]⟩ (.s .l (.c .l .l)) (.c .l (.s .l .l))))))))) (.s .l .l))))
theorem walk_rOf (a0_op:Int) (KK:(Lt.RForm×Bool)->Prop):F_rOf a0_op KK=bodyT ⟨Tryz.prog,eU,[],[],noP⟩ Tryz.f79 an_rOf [(.i .i64)] [(.st .RForm),.bo] a0_op KK:=by kernel_rfl
theorem c_rOf:Cont Tryz.prog 79 C_rOf:=k0 ⟨Tryz.prog,eU,[],[],noP⟩ En.ok0 mixed (fn:=Tryz.f79) an_rOf (by kernel_rfl) (by kernel_rfl) (fun a0_op KK h=>Eq.mp (walk_rOf a0_op KK) (law_rOf a0_op KK h))
def C_rSize:CKt:=pureT0 [(.i .i64)] [(.i .u64)] (fun x=>Lt.rSize x)
def an_rSize:An:=.s .l (.s (.s .l (.c (.s .l .l) .l)) (.s .l .l))
theorem walk_rSize (a0_n:Int) (KK:Int->Prop):F_rSize a0_n KK=bodyT ⟨Tryz.prog,eU,[],[],noP⟩ Tryz.f135 an_rSize [(.i .i64)] [(.i .u64)] a0_n KK:=by kernel_rfl
theorem c_rSize:Cont Tryz.prog 135 C_rSize:=k0 ⟨Tryz.prog,eU,[],[],noP⟩ En.ok0 mixed (fn:=Tryz.f135) an_rSize (by kernel_rfl) (by kernel_rfl) (fun a0_n KK h=>Eq.mp (walk_rSize a0_n KK) (law_rSize a0_n KK h))
def C_rNum:CKt:=pureT [(.i .i64)] [.s] (fun x=>Lt.preNum x) (fun x=>Lt.rNum x)
def an_rNum:An:=.s .l (.s .l (.s .l (.j ⟨[0],[],[],[.ow 3 [.fr] .b8]⟩ (.b (.lp ⟨[0],[],[],[.ow 3 [.fr] .b8,.sl 4 (.i .u64)]⟩ (.b (.s .l (.s .l (.s .l (.c .l .l))))))) (.s (.s .l (.c (.s .l .l) .l)) (.s .l .l)))))
abbrev t_rNum:CTt:=[(135,C_rSize)]
theorem walk_rNum (a0_n:Int) (KK:(List UInt8)->Prop):F_rNum a0_n KK=bodyT ⟨Tryz.prog,eU,t_rNum,[],noP⟩ Tryz.f115 an_rNum [(.i .i64)] [.s] a0_n KK:=by kernel_rfl
theorem c_rNum:Cont Tryz.prog 115 C_rNum:=k1 ⟨Tryz.prog,eU,t_rNum,[],noP⟩ (En.okc c_rSize En.ok0) mixed (fn:=Tryz.f115) an_rNum (by kernel_rfl) (by kernel_rfl) (fun a0_n hp KK h=>Eq.mp (walk_rNum a0_n KK) (law_rNum a0_n hp KK h))
def C_sHalf:CKt:=pureT0 [(.i .u64)] [(.i .i64)] (fun x=>Lt.sHalf x)
def an_sHalf:An:=.s .l (.s .l .l)
theorem walk_sHalf (a0_n:Int) (KK:Int->Prop):F_sHalf a0_n KK=bodyT ⟨Tryz.prog,eU,[],[],noP⟩ Tryz.f116 an_sHalf [(.i .u64)] [(.i .i64)] a0_n KK:=by kernel_rfl
theorem c_sHalf:Cont Tryz.prog 116 C_sHalf:=k0 ⟨Tryz.prog,eU,[],[],noP⟩ En.ok0 mixed (fn:=Tryz.f116) an_sHalf (by kernel_rfl) (by kernel_rfl) (fun a0_n KK h=>Eq.mp (walk_sHalf a0_n KK) (law_sHalf a0_n KK h))
def C_sNum:CKt:=pureT0 [.s] [(.i .i64),.bo] (fun x=>Lt.sNum x)
def an_sNum:An:=.s .l (.s .l (.s (.s .l (.b (.lp ⟨[0],[],[],[.sl 4 (.i .u64),.sl 5 (.i .i64)]⟩ (.s (.j ⟨[0,4,5],[],[],[.sl 13 .bo]⟩ .l (.c .l .l)) (.j ⟨[0,5],[],[],[.sl 4 (.i .u64)]⟩ (.b (.s (.j ⟨[0,4,5],[],[],[.sl 22 .bo]⟩ .l (.c .l .l)) .l)) .l))))) (.j ⟨[0],[],[],[.sl 4 (.i .u64)]⟩ (.j ⟨[0,4],[],[],[.sl 38 .bo]⟩ .l (.c .l .l)) (.s (.s .l (.c (.s .l .l) .l)) (.s .l .l)))))
abbrev t_sNum:CTt:=[(115,C_rNum),(116,C_sHalf)]
theorem walk_sNum (a0_s:List UInt8) (KK:(Int×Bool)->Prop):F_sNum a0_s KK=bodyT ⟨Tryz.prog,eU,t_sNum,[],noP⟩ Tryz.f84 an_sNum [.s] [(.i .i64),.bo] a0_s KK:=by kernel_rfl
theorem c_sNum:Cont Tryz.prog 84 C_sNum:=k0 ⟨Tryz.prog,eU,t_sNum,[],noP⟩ (En.okc c_rNum (En.okc c_sHalf En.ok0)) mixed (fn:=Tryz.f84) an_sNum (by kernel_rfl) (by kernel_rfl) (fun a0_s KK h=>Eq.mp (walk_sNum a0_s KK) (law_sNum a0_s KK h))
def C_rIsNan:CKt:=pureT0 [(.i .i64)] [.bo] (fun x=>Lt.rIsNan x)
def an_rIsNan:An:=.s .l (.s .l (.s .l .l))
theorem walk_rIsNan (a0_n:Int) (KK:Bool->Prop):F_rIsNan a0_n KK=bodyT ⟨Tryz.prog,eU,[],[],noP⟩ Tryz.f145 an_rIsNan [(.i .i64)] [.bo] a0_n KK:=by kernel_rfl
theorem c_rIsNan:Cont Tryz.prog 145 C_rIsNan:=k0 ⟨Tryz.prog,eU,[],[],noP⟩ En.ok0 mixed (fn:=Tryz.f145) an_rIsNan (by kernel_rfl) (by kernel_rfl) (fun a0_n KK h=>Eq.mp (walk_rIsNan a0_n KK) (law_rIsNan a0_n KK h))
def C_rPlain:CKt:=pureT0 [(.i .i64)] [(.i .i64)] (fun x=>Lt.rPlain x)
def an_rPlain:An:=.s .l (.s (.s .l (.c (.s .l .l) .l)) (.s .l .l))
abbrev t_rPlain:CTt:=[(145,C_rIsNan)]
theorem walk_rPlain (a0_n:Int) (KK:Int->Prop):F_rPlain a0_n KK=bodyT ⟨Tryz.prog,eU,t_rPlain,[],noP⟩ Tryz.f143 an_rPlain [(.i .i64)] [(.i .i64)] a0_n KK:=by kernel_rfl
theorem c_rPlain:Cont Tryz.prog 143 C_rPlain:=k0 ⟨Tryz.prog,eU,t_rPlain,[],noP⟩ (En.okc c_rIsNan En.ok0) mixed (fn:=Tryz.f143) an_rPlain (by kernel_rfl) (by kernel_rfl) (fun a0_n KK h=>Eq.mp (walk_rPlain a0_n KK) (law_rPlain a0_n KK h))
def C_rFlo:CKt:=pureT0 [(.i .i64)] [.s] (fun x=>Lt.rFlo x)
def an_rFlo:An:=.s .l (.s .l (.s .l (.s (.s .l (.b (.lp ⟨[],[],[],[.sl 3 (.i .u64),.ow 4 [.fr] .b8,.sl 5 (.i .i64)]⟩ (.s (.s .l (.c .l .l)) (.s (.b (.s .l (.j ⟨[3,4,5],[.gh 900004],[],[.sl 6 .b8]⟩ (.s .l (.c .l .l)) (.s .l .l)))) .l))))) (.s .l .l))))
abbrev t_rFlo:CTt:=[(143,C_rPlain)]
theorem walk_rFlo (a0_n:Int) (KK:(List UInt8)->Prop):F_rFlo a0_n KK=bodyT ⟨Tryz.prog,eU,t_rFlo,[],noP⟩ Tryz.f142 an_rFlo [(.i .i64)] [.s] a0_n KK:=by kernel_rfl
theorem c_rFlo:Cont Tryz.prog 142 C_rFlo:=k0 ⟨Tryz.prog,eU,t_rFlo,[],noP⟩ (En.okc c_rPlain En.ok0) mixed (fn:=Tryz.f142) an_rFlo (by kernel_rfl) (by kernel_rfl) (fun a0_n KK h=>Eq.mp (walk_rFlo a0_n KK) (law_rFlo a0_n KK h))
def C_sFlo:CKt:=pureT0 [.s] [(.i .i64),.bo] (fun x=>Lt.sFlo x)
def an_sFlo:An:=.s .l (.s (.s .l (.c (.s .l .l) .l)) (.s .l (.s (.s .l (.b (.lp ⟨[0],[],[],[.sl 4 (.i .u64),.sl 5 (.i .i64)]⟩ (.s (.s .l (.c .l .l)) (.s (.b (.s .l (.j ⟨[0,4,5],[],[],[.sl 6 (.i .u64)]⟩ (.s .l (.c .l .l)) .l))) .l))))) (.s (.s .l (.c (.s .l .l) .l)) (.s .l .l)))))
abbrev t_sFlo:CTt:=[(142,C_rFlo)]
theorem walk_sFlo (a0_s:List UInt8) (KK:(Int×Bool)->Prop):F_sFlo a0_s KK=bodyT ⟨Tryz.prog,eU,t_sFlo,[],noP⟩ Tryz.f132 an_sFlo [.s] [(.i .i64),.bo] a0_s KK:=by kernel_rfl
theorem c_sFlo:Cont Tryz.prog 132 C_sFlo:=k0 ⟨Tryz.prog,eU,t_sFlo,[],noP⟩ (En.okc c_rFlo En.ok0) mixed (fn:=Tryz.f132) an_sFlo (by kernel_rfl) (by kernel_rfl) (fun a0_s KK h=>Eq.mp (walk_sFlo a0_s KK) (law_sFlo a0_s KK h))
def C_rRight:CKt:=pureT0 [(.st .Arg)] [.bo] (fun x=>Lt.rRight x)
def an_rRight:An:=.s .l (.s (.s .l (.c (.s .l .l) .l)) (.s (.j ⟨[1],[.loc 1],[],[.sl 26 .bo]⟩ .l (.c (.s .l .l) .l)) (.j ⟨[],[],[],[.sl 2 .bo]⟩ .l .l)))
abbrev t_rRight:CTt:=[(112,C_rName),(143,C_rPlain)]
theorem walk_rRight (a0_a:Lt.Arg) (KK:Bool->Prop):F_rRight a0_a KK=bodyT ⟨Tryz.prog,eU,t_rRight,[],noP⟩ Tryz.f133 an_rRight [(.st .Arg)] [.bo] a0_a KK:=by kernel_rfl
theorem c_rRight:Cont Tryz.prog 133 C_rRight:=k0 ⟨Tryz.prog,eU,t_rRight,[],noP⟩ (En.okc c_rName (En.okc c_rPlain En.ok0)) mixed (fn:=Tryz.f133) an_rRight (by kernel_rfl) (by kernel_rfl) (fun a0_a KK h=>Eq.mp (walk_rRight a0_a KK) (law_rRight a0_a KK h))
def C_rWord:CKt:=pureT [(.st .Arg)] [.s] (fun x=>Lt.prePut x) (fun x=>Lt.rWord x)
def an_rWord:An:=.s .l (.s (.s .l (.c (.s .l .l) .l)) (.s (.s .l (.c (.s .l .l) .l)) (.s (.s .l (.c (.s .l .l) .l)) (.s (.s .l (.c (.s .l .l) .l)) (.s (.s .l (.c (.s .l .l) .l)) (.s .l .l))))))
abbrev t_rWord:CTt:=[(115,C_rNum),(133,C_rRight),(142,C_rFlo)]
theorem walk_rWord (a0_a:Lt.Arg) (KK:(List UInt8)->Prop):F_rWord a0_a KK=bodyT ⟨Tryz.prog,eU,t_rWord,[],noP⟩ Tryz.f134 an_rWord [(.st .Arg)] [.s] a0_a KK:=by kernel_rfl
theorem c_rWord:Cont Tryz.prog 134 C_rWord:=k1 ⟨Tryz.prog,eU,t_rWord,[],noP⟩ (En.okc c_rNum (En.okc c_rRight (En.okc c_rFlo En.ok0))) mixed (fn:=Tryz.f134) an_rWord (by kernel_rfl) (by kernel_rfl) (fun a0_a hp KK h=>Eq.mp (walk_rWord a0_a KK) (law_rWord a0_a hp KK h))
def C_sArg:CKt:=pureT0 [.s] [(.st .Arg),.bo] (fun x=>Lt.sArg x)
def an_sArg:An:=.s .l (.s .l (.j ⟨[0,2],[.loc 2],[],[.sl 4 .s]⟩ (.s .l (.c .l .l)) (.s .l (.s .l (.s .l (.s .l (.j ⟨[2],[.loc 2],[],[]⟩ (.s .l (.b (.un 6 (.s (.s .l (.c .l .l)) (.s (.b (.j ⟨[0,2,11,12],[.loc 11,.loc 2],[],[.sl 58 .bo]⟩ .l (.c (.s .l .l) .l))) .l))))) (.s .l .l))))))))
abbrev t_sArg:CTt:=[(84,C_sNum),(132,C_sFlo),(133,C_rRight),(134,C_rWord)]
theorem walk_sArg (a0_s:List UInt8) (KK:(Lt.Arg×Bool)->Prop):F_sArg a0_s KK=bodyT ⟨Tryz.prog,eU,t_sArg,[],noP⟩ Tryz.f113 an_sArg [.s] [(.st .Arg),.bo] a0_s KK:=by kernel_rfl
theorem c_sArg:Cont Tryz.prog 113 C_sArg:=k0 ⟨Tryz.prog,eU,t_sArg,[],noP⟩ (En.okc c_sNum (En.okc c_sFlo (En.okc c_rRight (En.okc c_rWord En.ok0)))) mixed (fn:=Tryz.f113) an_sArg (by kernel_rfl) (by kernel_rfl) (fun a0_s KK h=>Eq.mp (walk_sArg a0_s KK) (law_sArg a0_s KK h))
def C_sArgs:CKt:=pureT [(.sl .s),.bo] [(.sl (.st .Arg)),.bo] (fun x=>Lt.preWords x.1 x.2) (fun x=>Lt.sArgs x.1 x.2)
def an_sArgs:An:=.s .l (.s .l (.s (.s .l (.b (.lp ⟨[0,1],[],[],[.ow 6 [.fr,.fr,.fr] (.st .Arg),.sl 7 (.i .i64)]⟩ (.s (.s .l (.c .l .l)) (.s (.b (.s .l (.s (.j ⟨[0,1,6,7,8],[.gh 900006,.loc 8],[],[.sl 34 .bo]⟩ .l (.c (.s .l .l) .l)) .l))) .l))))) (.s .l .l)))
abbrev t_sArgs:CTt:=[(113,C_sArg)]
theorem walk_sArgs (a0_l:List (List UInt8)) (a1_objs:Bool) (KK:(List Lt.Arg×Bool)->Prop):F_sArgs a0_l a1_objs KK=bodyT ⟨Tryz.prog,eU,t_sArgs,[],noP⟩ Tryz.f81 an_sArgs [(.sl .s),.bo] [(.sl (.st .Arg)),.bo] (a0_l,a1_objs) KK:=by kernel_rfl
theorem c_sArgs:Cont Tryz.prog 81 C_sArgs:=k1 ⟨Tryz.prog,eU,t_sArgs,[],noP⟩ (En.okc c_sArg En.ok0) mixed (fn:=Tryz.f81) an_sArgs (by kernel_rfl) (by kernel_rfl) (fun (a0_l,a1_objs) hp KK h=>Eq.mp (walk_sArgs a0_l a1_objs KK) (law_sArgs a0_l a1_objs hp KK h))
def C_sCodeM:CKt:=ptrT sh2 (.st .Read) [(.sl .s)] [(.i .i64)] (fun x y=>Lt.preRead x y) (fun x y=>Lt.sCodeM x y)
def an_sInside_sCodeM:An:=.s .l (.s .l .l)
def C_sInside_sCodeM:CKt:=inlT ⟨Tryz.prog,eU,[],eS,noP⟩ Tryz.f80 an_sInside_sCodeM
def an_sCodeM:An:=.s .l (.s .l (.j ⟨[0,5],[.out 0],[],[.sl 1 (.sl .s),.rt (.loc 5) sh5 (.st .Instr)]⟩ (.j ⟨[0,1,5],[.loc 5,.out 0],[],[.sl 24 .bo]⟩ .l (.c (.s (.s .l (.c (.s .l .l) .l)) (.s .l .l)) .l)) (.s .l (.s .l (.s (.j ⟨[0,1,5,6,8],[.loc 5,.loc 8,.out 0],[],[.sl 63 .bo]⟩ .l (.c (.s .l .l) .l)) (.s .l (.s .l (.j ⟨[0,5,6,8],[.loc 8,.out 0],[],[.sl 10 (.sl .s),.rt (.loc 5) sh5 (.st .Instr)]⟩ (.j ⟨[0,1,5,6,8,10],[.loc 5,.loc 8,.out 0],[],[.sl 71 .bo]⟩ .l (.c (.s (.s .l (.c (.s .l .l) .l)) (.s .l (.s .l .l))) (.s .l (.c (.s (.s .l (.c (.s .l .l) .l)) (.s .l .l)) .l)))) (.s .l (.s (.j ⟨[0,5,6,11],[.loc 5,.out 0],[],[.sl 133 .bo]⟩ .l (.c (.s .l .l) .l)) (.s (.s .l (.c (.s .l .l) .l)) (.s .l (.s .l (.s .l (.s .l (.j ⟨[0,6],[],[],[.rt (.out 0) sh2 (.st .Read)]⟩ .l (.s .l (.j ⟨[],[],[],[.rt (.out 0) sh2 (.st .Read)]⟩ (.j ⟨[0],[.out 0],[],[.sl 193 .bo]⟩ .l (.c .l .l)) (.s .l .l)))))))))))))))))))
abbrev t_sCodeM:CTt:=[(77,C_sNames),(78,C_sOp),(79,C_rOf),(80,C_sInside_sCodeM),(81,C_sArgs)]
theorem walk_sCodeM (a0_r:Lt.Read) (a1_l:List (List UInt8)) (KK:((Int)×Lt.Read)->Prop):F_sCodeM a0_r a1_l KK=bodyPT ⟨Tryz.prog,eU,t_sCodeM,eS,noP⟩ Tryz.f38 an_sCodeM sh2 (.st .Read) [(.sl .s)] [(.i .i64)] a0_r a1_l KK:=by kernel_rfl
theorem c_sCodeM:Cont Tryz.prog 38 C_sCodeM:=k2 ⟨Tryz.prog,eU,t_sCodeM,eS,noP⟩ (En.okc c_sNames (En.okc c_sOp (En.okc c_rOf (En.okc (Cont_inl En.ok0 mixed (fn:=Tryz.f80) (by kernel_rfl) (by kernel_rfl) (by kernel_rfl) (by kernel_rfl) (by kernel_rfl)) (En.okc c_sArgs En.ok0))))) mixed (fn:=Tryz.f38) an_sCodeM (by kernel_rfl) (by kernel_rfl) (fun a0_r a1_l hp KK h=>Eq.mp (walk_sCodeM a0_r a1_l KK) (law_sCodeM a0_r a1_l hp KK h))
def C_sLimit:CKt:=pureT0 [(.i .i64),(.i .i64)] [(.i .i64)] (fun x=>Lt.sLimit x.1 x.2)
def an_sLimit:An:=.s .l (.s (.s .l (.c (.s .l .l) .l)) (.s .l .l))
theorem walk_sLimit (a0_n:Int) (a1_most:Int) (KK:Int->Prop):F_sLimit a0_n a1_most KK=bodyT ⟨Tryz.prog,eU,[],[],noP⟩ Tryz.f82 an_sLimit [(.i .i64),(.i .i64)] [(.i .i64)] (a0_n,a1_most) KK:=by kernel_rfl
theorem c_sLimit:Cont Tryz.prog 82 C_sLimit:=k0 ⟨Tryz.prog,eU,[],[],noP⟩ En.ok0 mixed (fn:=Tryz.f82) an_sLimit (by kernel_rfl) (by kernel_rfl) (fun (a0_n,a1_most) KK h=>Eq.mp (walk_sLimit a0_n a1_most KK) (law_sLimit a0_n a1_most KK h))
def C_sKind:CKt:=pureT0 [.s] [.bo] (fun x=>Lt.sKind x)
def an_sKind:An:=.s .l (.j ⟨[],[],[],[.sl 2 .bo]⟩ .l .l)
abbrev t_sKind:CTt:=[(112,C_rName)]
theorem walk_sKind (a0_w:List UInt8) (KK:Bool->Prop):F_sKind a0_w KK=bodyT ⟨Tryz.prog,eU,t_sKind,[],noP⟩ Tryz.f114 an_sKind [.s] [.bo] a0_w KK:=by kernel_rfl
theorem c_sKind:Cont Tryz.prog 114 C_sKind:=k0 ⟨Tryz.prog,eU,t_sKind,[],noP⟩ (En.okc c_rName En.ok0) mixed (fn:=Tryz.f114) an_sKind (by kernel_rfl) (by kernel_rfl) (fun a0_w KK h=>Eq.mp (walk_sKind a0_w KK) (law_sKind a0_w KK h))
def C_sTyped:CKt:=pureT0 [(.sl .s)] [.bo] (fun x=>Lt.sTyped x)
def an_sTyped:An:=.s .l (.j ⟨[],[],[],[.sl 2 .bo]⟩ .l .l)
abbrev t_sTyped:CTt:=[(77,C_sNames),(114,C_sKind)]
theorem walk_sTyped (a0_l:List (List UInt8)) (KK:Bool->Prop):F_sTyped a0_l KK=bodyT ⟨Tryz.prog,eU,t_sTyped,[],noP⟩ Tryz.f83 an_sTyped [(.sl .s)] [.bo] a0_l KK:=by kernel_rfl
theorem c_sTyped:Cont Tryz.prog 83 C_sTyped:=k0 ⟨Tryz.prog,eU,t_sTyped,[],noP⟩ (En.okc c_sNames (En.okc c_sKind En.ok0)) mixed (fn:=Tryz.f83) an_sTyped (by kernel_rfl) (by kernel_rfl) (fun a0_l KK h=>Eq.mp (walk_sTyped a0_l KK) (law_sTyped a0_l KK h))
def C_sHeadM:CKt:=ptrT sh2 (.st .Read) [(.sl .s)] [.bo,(.i .i64)] (fun x y=>Lt.preRead x y) (fun x y=>Lt.sHeadM x y)
def an_sOutside_sHeadM:An:=.s .l (.s .l .l)
def C_sOutside_sHeadM:CKt:=inlT ⟨Tryz.prog,eU,[],eS,noP⟩ Tryz.f19 an_sOutside_sHeadM
def an_sHeadM:An:=.s .l (.s (.s .l (.b (.s .l (.c (.s (.j ⟨[0,1],[.out 0],[],[.sl 34 .bo]⟩ .l (.c (.s .l .l) .l)) (.s .l (.j ⟨[6],[],[],[.rt (.out 0) sh2 (.st .Read)]⟩ (.s .l (.c (.j ⟨[0,6],[],[],[.rt (.out 0) sh2 (.st .Read)]⟩ .l .l) .l)) (.s .l .l)))) (.s .l (.c (.s (.j ⟨[0,1],[.out 0],[],[.sl 74 .bo]⟩ .l (.c (.s .l .l) .l)) (.s .l (.s .l (.j ⟨[8],[],[],[.rt (.out 0) sh2 (.st .Read)]⟩ (.s .l (.c .l .l)) (.s .l .l))))) (.s .l (.c (.s (.j ⟨[0,1],[.out 0],[],[.sl 131 .bo]⟩ .l (.c (.s .l .l) .l)) (.s .l (.j ⟨[0,9],[],[],[.rt (.out 0) sh2 (.st .Read)]⟩ .l (.s .l (.s .l .l))))) (.s .l (.c (.s (.j ⟨[0,1],[.out 0],[],[.sl 178 .bo]⟩ .l (.c (.s .l .l) .l)) (.s .l (.s (.j ⟨[0,1,10],[.out 0],[],[.sl 195 .bo]⟩ .l (.c (.s .l .l) .l)) (.s .l (.j ⟨[0,12],[],[],[.rt (.out 0) sh2 (.st .Read)]⟩ .l (.s .l (.s .l .l))))))) (.s .l (.c (.s (.j ⟨[0,1],[.out 0],[],[.sl 232 .bo]⟩ .l (.c (.s .l .l) .l)) (.s .l (.j ⟨[0,13],[],[],[.rt (.out 0) sh2 (.st .Read)]⟩ .l (.s .l (.s .l (.s .l .l)))))) .l)))))))))))) (.s .l .l))
abbrev t_sHeadM:CTt:=[(19,C_sOutside_sHeadM),(77,C_sNames),(82,C_sLimit),(83,C_sTyped),(84,C_sNum)]
theorem walk_sHeadM (a0_r:Lt.Read) (a1_l:List (List UInt8)) (KK:((Bool×Int)×Lt.Read)->Prop):F_sHeadM a0_r a1_l KK=bodyPT ⟨Tryz.prog,eU,t_sHeadM,eS,noP⟩ Tryz.f39 an_sHeadM sh2 (.st .Read) [(.sl .s)] [.bo,(.i .i64)] a0_r a1_l KK:=by kernel_rfl
theorem c_sHeadM:Cont Tryz.prog 39 C_sHeadM:=k2 ⟨Tryz.prog,eU,t_sHeadM,eS,noP⟩ (En.okc (Cont_inl En.ok0 mixed (fn:=Tryz.f19) (by kernel_rfl) (by kernel_rfl) (by kernel_rfl) (by kernel_rfl) (by kernel_rfl)) (En.okc c_sNames (En.okc c_sLimit (En.okc c_sTyped (En.okc c_sNum En.ok0))))) mixed (fn:=Tryz.f39) an_sHeadM (by kernel_rfl) (by kernel_rfl) (fun a0_r a1_l hp KK h=>Eq.mp (walk_sHeadM a0_r a1_l KK) (law_sHeadM a0_r a1_l hp KK h))
def C_sPairs:CKt:=pureT [(.sl .s),(.i .i64),.bo] [(.sl (.st .Bind)),.bo] (fun x=>Lt.prePairs x.1 x.2.1 x.2.2) (fun x=>Lt.sPairs x.1 x.2.1 x.2.2)
def an_sPairs:An:=.s .l (.s .l (.s (.j ⟨[0,1,2,8],[],[],[.sl 23 .bo]⟩ .l (.c (.s .l .l) .l)) (.s (.s .l (.b (.lp ⟨[0,2],[],[],[.ow 8 [.fr,.fr,.fr,.fr] (.st .Bind),.sl 9 (.i .i64)]⟩ (.s (.s .l (.c .l .l)) (.s (.b (.s .l (.s (.j ⟨[0,2,8,9,10],[.gh 900008],[],[.sl 52 .bo]⟩ .l (.c (.s .l .l) .l)) .l))) .l))))) (.s .l .l))))
abbrev t_sPairs:CTt:=[(77,C_sNames),(81,C_sArgs)]
theorem walk_sPairs (a0_l:List (List UInt8)) (a1_from:Int) (a2_objs:Bool) (KK:(List Lt.Bind×Bool)->Prop):F_sPairs a0_l a1_from a2_objs KK=bodyT ⟨Tryz.prog,eU,t_sPairs,[],noP⟩ Tryz.f85 an_sPairs [(.sl .s),(.i .i64),.bo] [(.sl (.st .Bind)),.bo] (a0_l,a1_from,a2_objs) KK:=by kernel_rfl
theorem c_sPairs:Cont Tryz.prog 85 C_sPairs:=k1 ⟨Tryz.prog,eU,t_sPairs,[],noP⟩ (En.okc c_sNames (En.okc c_sArgs En.ok0)) mixed (fn:=Tryz.f85) an_sPairs (by kernel_rfl) (by kernel_rfl) (fun (a0_l,a1_from,a2_objs) hp KK h=>Eq.mp (walk_sPairs a0_l a1_from a2_objs KK) (law_sPairs a0_l a1_from a2_objs hp KK h))
def C_sPartM:CKt:=ptrT sh2 (.st .Read) [(.sl .s)] [.bo,(.i .i64)] (fun x y=>Lt.preRead x y) (fun x y=>Lt.sPartM x y)
def an_sPartM:An:=.s .l (.s .l (.s (.s .l (.c .l .l)) (.a 6 (.out 0) (.s (.s .l (.b (.s .l (.c (.s (.j ⟨[1,6],[.out 0],[],[.sl 51 .bo]⟩ .l (.c (.s .l .l) .l)) (.s .l (.j ⟨[7],[],[],[.rt (.out 0) sh2 (.st .Read)]⟩ .l (.s .l .l)))) (.s .l (.c (.s (.j ⟨[0,1,6],[.out 0],[],[.sl 93 .bo]⟩ .l (.c (.s .l .l) .l)) (.s .l (.j ⟨[0,8],[],[],[.rt (.out 0) sh2 (.st .Read)]⟩ .l (.s .l (.s .l .l))))) (.s .l (.c (.s (.j ⟨[0,1,6],[.out 0],[],[.sl 153 .bo]⟩ .l (.c (.s .l .l) .l)) (.s .l (.j ⟨[0,9],[],[],[.rt (.out 0) sh2 (.st .Read)]⟩ .l (.s .l (.s .l .l))))) (.s .l (.c (.s .l (.s (.j ⟨[0,1,6,10],[.out 0],[],[.sl 205 .bo]⟩ .l (.c (.s .l .l) .l)) (.s (.j ⟨[0,1,6,10],[.out 0],[],[.sl 215 .bo]⟩ .l (.c (.s .l .l) .l)) (.s .l (.s (.s .l (.b (.lp ⟨[0,6,10,12],[.out 0],[],[.sl 13 (.i .i64),.rt (.loc 12) sh3 (.st .Phi)]⟩ (.s (.s .l (.c .l .l)) (.j ⟨[0,6,10,12,13],[.out 0],[],[.rt (.loc 12) sh3 (.st .Phi)]⟩ (.b .l) .l))))) (.s .l (.j ⟨[0],[],[],[.rt (.out 0) sh2 (.st .Read)]⟩ .l (.s .l (.s .l .l))))))))) .l)))))))))) (.s .l .l)) (.s (.s .l (.b (.s .l (.c (.s (.j ⟨[1,6],[.loc 16,.out 0],[],[.sl 51 .bo]⟩ .l (.c (.s .l .l) .l)) (.s .l (.j ⟨[7],[.out 0],[],[]⟩ .l (.s .l .l)))) (.s .l (.c (.s (.j ⟨[0,1,6],[.loc 16,.out 0],[],[.sl 93 .bo]⟩ .l (.c (.s .l .l) .l)) (.s .l (.j ⟨[0,8],[.out 0],[],[]⟩ .l (.s .l (.s .l .l))))) (.s .l (.c (.s (.j ⟨[0,1,6],[.loc 16,.out 0],[],[.sl 153 .bo]⟩ .l (.c (.s .l .l) .l)) (.s .l (.j ⟨[0,9],[.out 0],[],[]⟩ .l (.s .l (.s .l .l))))) (.s .l (.c (.s .l (.s (.j ⟨[0,1,6,10],[.loc 16,.out 0],[],[.sl 205 .bo]⟩ .l (.c (.s .l .l) .l)) (.s (.j ⟨[0,1,6,10],[.loc 16,.out 0],[],[.sl 215 .bo]⟩ .l (.c (.s .l .l) .l)) (.s .l (.s (.s .l (.b (.lp ⟨[0,6,10,12],[.loc 16,.out 0],[],[.sl 13 (.i .i64),.rt (.loc 12) sh3 (.st .Phi)]⟩ (.s (.s .l (.c .l .l)) (.j ⟨[0,6,10,12,13],[.loc 16,.out 0],[],[.rt (.loc 12) sh3 (.st .Phi)]⟩ (.b .l) .l))))) (.s .l (.s .l .l))))))) .l)))))))))) (.s .l .l)))))
abbrev t_sPartM:CTt:=[(77,C_sNames),(82,C_sLimit),(83,C_sTyped),(85,C_sPairs)]
theorem walk_sPartM (a0_r:Lt.Read) (a1_l:List (List UInt8)) (KK:((Bool×Int)×Lt.Read)->Prop):F_sPartM a0_r a1_l KK=bodyPT ⟨Tryz.prog,eU,t_sPartM,eS,noP⟩ Tryz.f40 an_sPartM sh2 (.st .Read) [(.sl .s)] [.bo,(.i .i64)] a0_r a1_l KK:=by kernel_rfl
theorem c_sPartM:Cont Tryz.prog 40 C_sPartM:=k2 ⟨Tryz.prog,eU,t_sPartM,eS,noP⟩ (En.okc c_sNames (En.okc c_sLimit (En.okc c_sTyped (En.okc c_sPairs En.ok0)))) mixed (fn:=Tryz.f40) an_sPartM (by kernel_rfl) (by kernel_rfl) (fun a0_r a1_l hp KK h=>Eq.mp (walk_sPartM a0_r a1_l KK) (law_sPartM a0_r a1_l hp KK h))
def C_sStateM:CKt:=ptrT sh2 (.st .Read) [(.sl .s)] [.bo,(.i .i64)] (fun x y=>Lt.preRead x y) (fun x y=>Lt.sStateM x y)
def an_sInside_sStateM:An:=.s .l (.s .l .l)
def C_sInside_sStateM:CKt:=inlT ⟨Tryz.prog,eU,[],eS,noP⟩ Tryz.f80 an_sInside_sStateM
def an_sEndsM_sStateM:An:=.s .l (.s .l (.s (.j ⟨[1,2,100000,100001,100006,100007,100029,100030,100031,100032,100033,100034,100035,100036,100037,100038,100039,100040,100041,100042,100043,100044,100045,100046,100047,100048,100049,100050,100051,100052,100053,100054,100055,100056,100057,100058,100141,100142,100209,100210,100211],[.out 0],[],[.sl 31 .bo]⟩ .l (.c (.s .l (.s .l .l)) .l)) (.j ⟨[1,2,100000,100001,100006,100007,100029,100030,100031,100032,100033,100034,100035,100036,100037,100038,100039,100040,100041,100042,100043,100044,100045,100046,100047,100048,100049,100050,100051,100052,100053,100054,100055,100056,100057,100058,100141,100142,100209,100210,100211],[.out 0],[],[]⟩ (.j ⟨[1,2,100000,100001,100006,100007,100029,100030,100031,100032,100033,100034,100035,100036,100037,100038,100039,100040,100041,100042,100043,100044,100045,100046,100047,100048,100049,100050,100051,100052,100053,100054,100055,100056,100057,100058,100141,100142,100209,100210,100211],[.out 0],[],[.sl 58 .bo]⟩ .l (.c (.s .l (.s .l (.c (.s .l (.s .l .l)) .l))) .l)) (.j ⟨[1,2,100000,100001,100006,100007,100029,100030,100031,100032,100033,100034,100035,100036,100037,100038,100039,100040,100041,100042,100043,100044,100045,100046,100047,100048,100049,100050,100051,100052,100053,100054,100055,100056,100057,100058,100141,100142,100209,100210,100211],[.out 0],[],[]⟩ (.j ⟨[1,2,100000,100001,100006,100007,100029,100030,100031,100032,100033,100034,100035,100036,100037,100038,100039,100040,100041,100042,100043,100044,100045,100046,100047,100048,100049,100050,100051,100052,100053,100054,100055,100056,100057,100058,100141,100142,100209,100210,100211],[.out 0],[],[.sl 88 .bo]⟩ .l (.c (.s .l (.s .l (.c (.s .l (.s .l .l)) .l))) .l)) (.j ⟨[100000,100001,100006,100007,100029,100030,100031,100032,100033,100034,100035,100036,100037,100038,100039,100040,100041,100042,100043,100044,100045,100046,100047,100048,100049,100050,100051,100052,100053,100054,100055,100056,100057,100058,100141,100142,100209,100210,100211],[.out 0],[],[]⟩ (.j ⟨[1,2,100000,100001,100006,100007,100029,100030,100031,100032,100033,100034,100035,100036,100037,100038,100039,100040,100041,100042,100043,100044,100045,100046,100047,100048,100049,100050,100051,100052,100053,100054,100055,100056,100057,100058,100141,100142,100209,100210,100211],[.out 0],[],[.sl 111 .bo]⟩ .l (.c (.s .l (.s .l (.c (.s .l (.s .l .l)) .l))) .l)) (.s .l .l))))))
def C_sEndsM_sStateM:CKt:=inlT ⟨Tryz.prog,eU,[(77,C_sNames),(81,C_sArgs),(84,C_sNum)],eS,noP⟩ Tryz.f86 an_sEndsM_sStateM
def an_sStateM:An:=.s .l (.s (.s .l (.b (.j ⟨[0,1],[.out 0],[],[.sl 20 .bo]⟩ (.s .l (.c .l (.s .l (.c .l (.s .l (.c .l (.s .l (.c .l (.s .l (.c .l .l)))))))))) (.c .l (.s .l .l))))) (.s (.j ⟨[0,1],[.out 0],[],[.sl 29 .bo]⟩ .l (.c (.s .l .l) .l)) (.s .l (.s .l (.s (.s .l (.b (.s .l (.c (.s .l (.s (.j ⟨[1,7,8],[.out 0],[],[.sl 83 .bo]⟩ .l (.c (.s .l .l) .l)) (.s .l (.s (.j ⟨[1,7,8,10],[.out 0],[],[.sl 100 .bo]⟩ .l (.c (.s .l .l) .l)) (.s .l (.s (.j ⟨[1,8,10,12],[.out 0],[],[.sl 122 .bo]⟩ .l (.c (.s .l .l) .l)) (.j ⟨[],[],[],[.rt (.out 0) sh2 (.st .Read)]⟩ .l (.s .l .l)))))))) (.s .l (.c (.s (.j ⟨[0,1,7],[.out 0],[],[.sl 165 .bo]⟩ .l (.c (.s .l .l) .l)) (.s .l (.s (.s .l (.c (.s .l .l) .l)) (.s .l (.s .l (.j ⟨[0,16],[],[],[.rt (.out 0) sh2 (.st .Read)]⟩ .l (.s .l (.s .l .l)))))))) .l)))))) (.j ⟨[],[],[],[.sl 4 .bo,.sl 5 (.i .i64),.rt (.out 0) sh2 (.st .Read)]⟩ .l .l))))))
abbrev t_sStateM:CTt:=[(77,C_sNames),(80,C_sInside_sStateM),(81,C_sArgs),(82,C_sLimit),(84,C_sNum),(85,C_sPairs),(86,C_sEndsM_sStateM)]
theorem walk_sStateM (a0_r:Lt.Read) (a1_l:List (List UInt8)) (KK:((Bool×Int)×Lt.Read)->Prop):F_sStateM a0_r a1_l KK=bodyPT ⟨Tryz.prog,eU,t_sStateM,eS,noP⟩ Tryz.f41 an_sStateM sh2 (.st .Read) [(.sl .s)] [.bo,(.i .i64)] a0_r a1_l KK:=by kernel_rfl
theorem c_sStateM:Cont Tryz.prog 41 C_sStateM:=k2 ⟨Tryz.prog,eU,t_sStateM,eS,noP⟩ (En.okc c_sNames (En.okc (Cont_inl En.ok0 mixed (fn:=Tryz.f80) (by kernel_rfl) (by kernel_rfl) (by kernel_rfl) (by kernel_rfl) (by kernel_rfl)) (En.okc c_sArgs (En.okc c_sLimit (En.okc c_sNum (En.okc c_sPairs (En.okc (Cont_inl (En.okc c_sNames (En.okc c_sArgs (En.okc c_sNum En.ok0))) mixed (fn:=Tryz.f86) (by kernel_rfl) (by kernel_rfl) (by kernel_rfl) (by kernel_rfl) (by kernel_rfl)) En.ok0))))))) mixed (fn:=Tryz.f41) an_sStateM (by kernel_rfl) (by kernel_rfl) (fun a0_r a1_l hp KK h=>Eq.mp (walk_sStateM a0_r a1_l KK) (law_sStateM a0_r a1_l hp KK h))
def C_sLineM:CKt:=ptrT sh2 (.st .Read) [(.sl .s),.bo] [(.i .i64)] (fun x y=>Lt.preLineM x y.1 y.2) (fun x y=>Lt.sLineM x y.1 y.2)
def an_sLineM:An:=.s .l (.s (.j ⟨[0,1,2],[.out 0],[],[.sl 17 .bo]⟩ .l (.c (.s .l .l) .l)) (.s (.s .l (.c (.s (.j ⟨[0],[.out 0],[],[.sl 31 .bo]⟩ .l (.c (.s .l .l) .l)) (.s .l (.s .l .l))) .l)) (.s .l (.j ⟨[0,1],[],[],[.sl 7 .bo,.sl 8 (.i .i64),.rt (.out 0) sh2 (.st .Read)]⟩ (.s .l (.c .l .l)) (.j ⟨[0,1],[],[],[.sl 7 .bo,.sl 8 (.i .i64),.rt (.out 0) sh2 (.st .Read)]⟩ (.s .l (.c .l .l)) (.j ⟨[],[],[],[.sl 8 (.i .i64),.rt (.out 0) sh2 (.st .Read)]⟩ (.s .l (.c .l .l)) (.s .l .l)))))))
abbrev t_sLineM:CTt:=[(38,C_sCodeM),(39,C_sHeadM),(40,C_sPartM),(41,C_sStateM)]
theorem walk_sLineM (a0_r:Lt.Read) (a1_l:List (List UInt8)) (a2_first:Bool) (KK:((Int)×Lt.Read)->Prop):F_sLineM a0_r a1_l a2_first KK=bodyPT ⟨Tryz.prog,eU,t_sLineM,eS,noP⟩ Tryz.f18 an_sLineM sh2 (.st .Read) [(.sl .s),.bo] [(.i .i64)] a0_r (a1_l,a2_first) KK:=by kernel_rfl
theorem c_sLineM:Cont Tryz.prog 18 C_sLineM:=k2 ⟨Tryz.prog,eU,t_sLineM,eS,noP⟩ (En.okc c_sCodeM (En.okc c_sHeadM (En.okc c_sPartM (En.okc c_sStateM En.ok0)))) mixed (fn:=Tryz.f18) an_sLineM (by kernel_rfl) (by kernel_rfl) (fun a0_r (a1_l,a2_first) hp KK h=>Eq.mp (walk_sLineM a0_r a1_l a2_first KK) (law_sLineM a0_r a1_l a2_first hp KK h))
def C_sParse:CKt:=pureT0 [.s] [(.st .Program),(.i .i64),(.i .i64)] (fun x=>Lt.sParse x)
def an_sOutside_sParse:An:=.s .l (.s .l .l)
def C_sOutside_sParse:CKt:=inlT ⟨Tryz.prog,eU,[],eS,noP⟩ Tryz.f19 an_sOutside_sParse
def an_sParse:An:=.s .l (.s .l (.s (.s .l (.c (.s .l .l) .l)) (.s .l (.s (.s .l (.b (.lp ⟨[2,5,8],[.loc 2],[],[.sl 9 (.i .i64),.rt (.loc 22) sh2 (.st .Read)]⟩ (.s (.s .l (.c .l .l)) (.s (.b (.s .l (.s .l (.c (.s .l .l) .l)))) .l))))) (.s (.j ⟨[2,8],[.loc 2,.loc 22],[],[.sl 49 .bo]⟩ .l (.c (.s .l .l) .l)) (.s .l .l))))))
abbrev t_sParse:CTt:=[(17,C_sSplit),(18,C_sLineM),(19,C_sOutside_sParse)]
theorem walk_sParse (a0_s:List UInt8) (KK:(Lt.Program×Int×Int)->Prop):F_sParse a0_s KK=bodyT ⟨Tryz.prog,eU,t_sParse,eS,noP⟩ Tryz.f7 an_sParse [.s] [(.st .Program),(.i .i64),(.i .i64)] a0_s KK:=by kernel_rfl
theorem c_sParse:Cont Tryz.prog 7 C_sParse:=k0 ⟨Tryz.prog,eU,t_sParse,eS,noP⟩ (En.okc c_sSplit (En.okc c_sLineM (En.okc (Cont_inl En.ok0 mixed (fn:=Tryz.f19) (by kernel_rfl) (by kernel_rfl) (by kernel_rfl) (by kernel_rfl) (by kernel_rfl)) En.ok0))) mixed (fn:=Tryz.f7) an_sParse (by kernel_rfl) (by kernel_rfl) (fun a0_s KK h=>Eq.mp (walk_sParse a0_s KK) (law_sParse a0_s KK h))
def C_awake5:CKt:=pureT0 [] [.bo] (fun x=>Lt.awake5 )
def an_awake5:An:=.s .l (.s .l (.s .l (.s .l (.s (.j ⟨[1],[.loc 1],[],[.sl 58 .bo]⟩ .l (.c (.s .l .l) .l)) (.s .l (.j ⟨[],[],[],[.sl 0 .bo]⟩ .l .l))))))
abbrev t_awake5:CTt:=[(6,C_yParse)]
theorem walk_awake5 (KK:Bool->Prop):F_awake5 KK=bodyT ⟨Tryz.prog,eU,t_awake5,[],noP⟩ Tryz.f8 an_awake5 [] [.bo] () KK:=by kernel_rfl
theorem c_awake5:Cont Tryz.prog 8 C_awake5:=k0 ⟨Tryz.prog,eU,t_awake5,[],noP⟩ (En.okc c_yParse En.ok0) mixed (fn:=Tryz.f8) an_awake5 (by kernel_rfl) (by kernel_rfl) (fun _ KK h=>Eq.mp (walk_awake5 KK) (law_awake5 KK h))
def C_sameVars:CKt:=pureT0 [(.sl (.st .Var)),(.sl (.st .Var))] [.bo] (fun x=>Lt.sameVars x.1 x.2)
def an_sameVars:An:=.s .l (.s (.s .l (.c (.s .l .l) .l)) (.s (.s .l (.b (.lp ⟨[0,1],[],[],[.sl 5 (.i .i64)]⟩ (.s (.s .l (.c .l .l)) (.s (.b (.s .l (.c (.s .l .l) .l))) .l))))) (.s .l .l)))
theorem walk_sameVars (a0_a:List Lt.Var) (a1_b:List Lt.Var) (KK:Bool->Prop):F_sameVars a0_a a1_b KK=bodyT ⟨Tryz.prog,eU,[],[],noP⟩ Tryz.f20 an_sameVars [(.sl (.st .Var)),(.sl (.st .Var))] [.bo] (a0_a,a1_b) KK:=by kernel_rfl
theorem c_sameVars:Cont Tryz.prog 20 C_sameVars:=k0 ⟨Tryz.prog,eU,[],[],noP⟩ En.ok0 mixed (fn:=Tryz.f20) an_sameVars (by kernel_rfl) (by kernel_rfl) (fun (a0_a,a1_b) KK h=>Eq.mp (walk_sameVars a0_a a1_b KK) (law_sameVars a0_a a1_b KK h))
def C_sameArgs:CKt:=pureT0 [(.sl (.st .Arg)),(.sl (.st .Arg))] [.bo] (fun x=>Lt.sameArgs x.1 x.2)
def an_sameArgs:An:=.s .l (.s (.s .l (.c (.s .l .l) .l)) (.s (.s .l (.b (.lp ⟨[0,1],[],[],[.sl 5 (.i .i64)]⟩ (.s (.s .l (.c .l .l)) (.s (.b (.s .l (.c (.s .l .l) .l))) .l))))) (.s .l .l)))
theorem walk_sameArgs (a0_a:List Lt.Arg) (a1_b:List Lt.Arg) (KK:Bool->Prop):F_sameArgs a0_a a1_b KK=bodyT ⟨Tryz.prog,eU,[],[],noP⟩ Tryz.f117 an_sameArgs [(.sl (.st .Arg)),(.sl (.st .Arg))] [.bo] (a0_a,a1_b) KK:=by kernel_rfl
theorem c_sameArgs:Cont Tryz.prog 117 C_sameArgs:=k0 ⟨Tryz.prog,eU,[],[],noP⟩ En.ok0 mixed (fn:=Tryz.f117) an_sameArgs (by kernel_rfl) (by kernel_rfl) (fun (a0_a,a1_b) KK h=>Eq.mp (walk_sameArgs a0_a a1_b KK) (law_sameArgs a0_a a1_b KK h))
def C_SameInstr:CKt:=pureT0 [(.st .Instr),(.st .Instr)] [.bo] (fun x=>Lt.SameInstr x.1 x.2)
def an_SameInstr:An:=.s .l (.s (.j ⟨[2,3],[.loc 2,.loc 3],[],[.sl 54 .bo]⟩ .l (.c (.s .l .l) .l)) (.s (.s .l (.b (.lp ⟨[2,3],[.loc 2,.loc 3],[],[.sl 5 (.i .i64)]⟩ (.s (.s .l (.c .l .l)) (.s (.b (.s .l (.s .l (.s (.j ⟨[2,3,5,6,7],[.loc 2,.loc 3,.loc 6,.loc 7],[],[.sl 99 .bo]⟩ .l (.c (.s .l .l) .l)) (.s .l (.b (.lp ⟨[2,3,5,6,7],[.loc 2,.loc 3,.loc 6,.loc 7],[],[.sl 8 (.i .i64)]⟩ (.s (.s .l (.c .l .l)) (.s (.b (.s .l (.c (.s .l .l) .l))) .l))))))))) .l))))) (.s (.s .l (.b (.lp ⟨[2,3],[.loc 2,.loc 3],[],[.sl 9 (.i .i64)]⟩ (.s (.s .l (.c .l .l)) (.s (.b (.j ⟨[2,3,9],[.loc 2,.loc 3],[],[.sl 153 .bo]⟩ .l (.c (.s .l .l) .l))) .l))))) (.s .l .l))))
abbrev t_SameInstr:CTt:=[(117,C_sameArgs)]
theorem walk_SameInstr (a0_a:Lt.Instr) (a1_b:Lt.Instr) (KK:Bool->Prop):F_SameInstr a0_a a1_b KK=bodyT ⟨Tryz.prog,eU,t_SameInstr,[],noP⟩ Tryz.f87 an_SameInstr [(.st .Instr),(.st .Instr)] [.bo] (a0_a,a1_b) KK:=by kernel_rfl
theorem c_SameInstr:Cont Tryz.prog 87 C_SameInstr:=k0 ⟨Tryz.prog,eU,t_SameInstr,[],noP⟩ (En.okc c_sameArgs En.ok0) mixed (fn:=Tryz.f87) an_SameInstr (by kernel_rfl) (by kernel_rfl) (fun (a0_a,a1_b) KK h=>Eq.mp (walk_SameInstr a0_a a1_b KK) (law_SameInstr a0_a a1_b KK h))
def C_sameBlock:CKt:=pureT0 [(.st .Block),(.st .Block)] [.bo] (fun x=>Lt.sameBlock x.1 x.2)
def an_sameBlock:An:=.s .l (.s (.j ⟨[2,3],[.loc 2,.loc 3],[],[.sl 69 .bo]⟩ .l (.c (.s .l .l) .l)) (.s (.s .l (.b (.lp ⟨[2,3],[.loc 2,.loc 3],[],[.sl 5 (.i .i64)]⟩ (.s (.s .l (.c .l .l)) (.s (.b (.s .l (.c (.s .l .l) .l))) .l))))) (.s (.s .l (.b (.lp ⟨[2,3],[.loc 2,.loc 3],[],[.sl 6 (.i .i64)]⟩ (.s (.s .l (.c .l .l)) (.s (.b (.s (.j ⟨[2,3,6],[.loc 2,.loc 3],[],[.sl 127 .bo]⟩ .l (.c (.s .l .l) .l)) (.s .l (.b (.lp ⟨[2,3,6],[.loc 2,.loc 3],[],[.sl 7 (.i .i64)]⟩ (.s (.s .l (.c .l .l)) (.s (.b (.s .l (.c (.s .l .l) .l))) .l))))))) .l))))) (.s (.s .l (.b (.lp ⟨[2,3],[.loc 2,.loc 3],[],[.sl 8 (.i .i64)]⟩ (.s (.s .l (.c .l .l)) (.s (.b (.s .l (.c (.s .l .l) .l))) .l))))) (.s .l .l)))))
abbrev t_sameBlock:CTt:=[(87,C_SameInstr)]
theorem walk_sameBlock (a0_a:Lt.Block) (a1_b:Lt.Block) (KK:Bool->Prop):F_sameBlock a0_a a1_b KK=bodyT ⟨Tryz.prog,eU,t_sameBlock,[],noP⟩ Tryz.f42 an_sameBlock [(.st .Block),(.st .Block)] [.bo] (a0_a,a1_b) KK:=by kernel_rfl
theorem c_sameBlock:Cont Tryz.prog 42 C_sameBlock:=k0 ⟨Tryz.prog,eU,t_sameBlock,[],noP⟩ (En.okc c_SameInstr En.ok0) mixed (fn:=Tryz.f42) an_sameBlock (by kernel_rfl) (by kernel_rfl) (fun (a0_a,a1_b) KK h=>Eq.mp (walk_sameBlock a0_a a1_b KK) (law_sameBlock a0_a a1_b KK h))
def C_SameFunc:CKt:=pureT0 [(.st .Func),(.st .Func)] [.bo] (fun x=>Lt.SameFunc x.1 x.2)
def an_SameFunc:An:=.s .l (.s (.j ⟨[2,3],[.loc 2,.loc 3],[],[.sl 42 .bo]⟩ .l (.c (.s .l .l) .l)) (.s (.s .l (.b (.lp ⟨[2,3],[.loc 2,.loc 3],[],[.sl 5 (.i .i64)]⟩ (.s (.s .l (.c .l .l)) (.s (.b (.s .l (.c (.s .l .l) .l))) .l))))) (.s .l .l)))
abbrev t_SameFunc:CTt:=[(20,C_sameVars),(42,C_sameBlock)]
theorem walk_SameFunc (a0_a:Lt.Func) (a1_b:Lt.Func) (KK:Bool->Prop):F_SameFunc a0_a a1_b KK=bodyT ⟨Tryz.prog,eU,t_SameFunc,[],noP⟩ Tryz.f21 an_SameFunc [(.st .Func),(.st .Func)] [.bo] (a0_a,a1_b) KK:=by kernel_rfl
theorem c_SameFunc:Cont Tryz.prog 21 C_SameFunc:=k0 ⟨Tryz.prog,eU,t_SameFunc,[],noP⟩ (En.okc c_sameVars (En.okc c_sameBlock En.ok0)) mixed (fn:=Tryz.f21) an_SameFunc (by kernel_rfl) (by kernel_rfl) (fun (a0_a,a1_b) KK h=>Eq.mp (walk_SameFunc a0_a a1_b KK) (law_SameFunc a0_a a1_b KK h))
def C_Same:CKt:=pureT0 [(.st .Program),(.st .Program)] [.bo] (fun x=>Lt.Same x.1 x.2)
def an_Same:An:=.s .l (.s (.j ⟨[2,3],[.loc 2,.loc 3],[],[.sl 47 .bo]⟩ .l (.c (.s .l .l) .l)) (.s (.s .l (.b (.lp ⟨[2,3],[.loc 2,.loc 3],[],[.sl 5 (.i .i64)]⟩ (.s (.s .l (.c .l .l)) (.s (.b (.j ⟨[2,3,5],[.loc 2,.loc 3],[],[.sl 83 .bo]⟩ .l (.c (.s .l .l) .l))) .l))))) (.s (.s .l (.b (.lp ⟨[2,3],[.loc 2,.loc 3],[],[.sl 6 (.i .i64)]⟩ (.s (.s .l (.c .l .l)) (.s (.b (.s .l (.c (.s .l .l) .l))) .l))))) (.s (.s .l (.b (.lp ⟨[2,3],[.loc 2,.loc 3],[],[.sl 7 (.i .i64)]⟩ (.s (.s .l (.c .l .l)) (.s (.b (.s .l (.c (.s .l .l) .l))) .l))))) (.s .l .l)))))
abbrev t_Same:CTt:=[(20,C_sameVars),(21,C_SameFunc)]
theorem walk_Same (a0_a:Lt.Program) (a1_b:Lt.Program) (KK:Bool->Prop):F_Same a0_a a1_b KK=bodyT ⟨Tryz.prog,eU,t_Same,[],noP⟩ Tryz.f9 an_Same [(.st .Program),(.st .Program)] [.bo] (a0_a,a1_b) KK:=by kernel_rfl
theorem c_Same:Cont Tryz.prog 9 C_Same:=k0 ⟨Tryz.prog,eU,t_Same,[],noP⟩ (En.okc c_sameVars (En.okc c_SameFunc En.ok0)) mixed (fn:=Tryz.f9) an_Same (by kernel_rfl) (by kernel_rfl) (fun (a0_a,a1_b) KK h=>Eq.mp (walk_Same a0_a a1_b KK) (law_Same a0_a a1_b KK h))
def an_SyntaxParses:An:=.s .l (.s .l (.s .l (.j ⟨[],[],[],[.sl 2 .bo]⟩ .l .l)))
abbrev t_SyntaxParses:CTt:=[(6,C_yParse),(7,C_sParse),(8,C_awake5),(9,C_Same)]
theorem walk_SyntaxParses (a0_s:List UInt8) (KK:Bool->Prop):F_SyntaxParses a0_s KK=bodyT ⟨Tryz.prog,eU,t_SyntaxParses,[],noP⟩ Tryz.f3 an_SyntaxParses [.s] [.bo] a0_s KK:=by kernel_rfl
theorem en_SyntaxParses:En.ok ⟨Tryz.prog,eU,t_SyntaxParses,[],noP⟩:=(En.okc c_yParse (En.okc c_sParse (En.okc c_awake5 (En.okc c_Same En.ok0))))
end Go.Am
end

section
namespace Go.Am
theorem AW_bodyT {e:En} (he:e.ok) (hm:e.P.follows .mixedOrders=true) {fn:Func} {an:An} {ps rs:List U} {g:G} (hg:g.nt=fn.ntmps) (hc:chkC fn.ntmps (fn.body.getD .skip)=true) {x:Fl ps} {KK:Fl rs->Prop} {K:AV->Prop}
  (hK:∀ r,KK r->K (resA rs r).toV) (h:bodyT e fn an ps rs x KK):AW e.P g (fn.body.getD .skip) (retQ e.P fn.results.toList K) ⟨entryT 0 (avs0 ps x),[]⟩:=by
 have h1:=AW_wpT (e:=⟨e.P,e.E,e.cs,e.sh,fun _ _=>False⟩) he hm (g:=g) _ an (entS ps x) _ (by rw [hg]; exact hc) h
 have e0:(entS ps x).toS=⟨entryT 0 (avs0 ps x),[]⟩:=drop_toS.S_ext (entT_toS 0 ps x) rfl
 rw [e0] at h1
 refine AW_postR h1 (fun ex s' a w h' hR=>?_)
 cases ex with
 | normal=>
  obtain ⟨t,rfl,ht⟩:=h'
  exact retT_ok hK ht hR
 | ret=>
  obtain ⟨t,rfl,ht⟩:=h'
  exact retT_ok hK ht hR
 | exit i=>exact h'.elim (fun t ht=>ht.2.elim)
 | panic c=>obtain ⟨_,_,_,_,hf⟩:=h'; exact hf.elim
 | _=>exact h'.elim
end Go.Am
end
