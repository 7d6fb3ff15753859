/-
  Part 16: AmRd · AmKY · AmE13.
-/
import Derived.Test.YtlikflolhhlgjaaDoorFr15
import Derived.MapFrom
set_option linter.unusedSimpArgs false
set_option linter.unusedVariables false
set_option linter.unusedSectionVars false
set_option linter.unnecessarySimpa false
section
namespace Go.Am
open Go Go.RowKit Go.Proofs Go.MapKept
def pickF (w:List UInt8) (df:Nat):List (List UInt8×Nat)->Nat
 | []=>df
 | (w0,f)::r=>if decide (w=w0)=true then f else pickF w df r
theorem swP_pick (w:List UInt8) (K:Nat->Prop) (df:Nat):∀ tab,swP w K df tab=K (pickF w df tab)
 | []=>rfl
 | (w0,f)::r=>by
  rw [swP,pickF,swP_pick w K df r]
  split <;> rfl
section
variable {P:Program}
theorem upon_ins {o:Oper} {a:Act} {next:Act->World->Prop} {Q:Exit->Act->World->Prop} {mt kt et:TypeId} {r:Nat} {es:Array MapEntry} {clock:Nat} {k:ByteArray} {v:Value} {w:World}
  (hm:P.underlying mt=some (.map kt et)) (hd:P.underlying kt=some .string) (hb:w.heap[r]? = some (.map es clock)) (hf:Instr.findNow .string (.string k) es.toList 0=some none)
  (h:∀ w2,w2.heap[r]? = some (.map (es.push { key:=.string k,val:=v,born:=clock }) (clock+1))->Below r w w2->next (a.put o.dst undef) w2) :
  o.upon P a next Q (((Instr.mapUpdate mt (.map (some r)) (.string k) v).run P w).andThen fun _ w'=>.ok Next.skip w'):=by
 have hrun:(Instr.mapUpdate mt (.map (some r)) (.string k) v).run P w=.ok () { w with heap:=w.heap.setIfInBounds r (.map (es.push { key:=.string k,val:=v,born:=clock }) (clock+1)) }:=by
  simp [Instr.mapUpdate,run_underlying hm,MapKept.run_getObj_map hb,run_checkKey hd (k:=.string k) trivial,run_findKey hd hf,run_setObj_map _ hb,Result.andThen]
 rw [hrun]
 exact h _ (heap_set hb).1 ⟨rfl,rfl,rfl,by simp,fun j hj=>(heap_set hb).2 j (by omega)⟩
theorem find_tab (s:ByteArray):∀ (es:List MapEntry) (tab:List (List UInt8×Nat)) (i:Nat),es.map (fun e=>(e.key,e.val))=tab.map (fun x=>(Value.string ⟨x.1.toArray⟩,Value.func (.func x.2) #[] #[])) ->
  (∃ x∈tab,(∃ j,Instr.findNow .string (.string s) es i=some (some (j,.func (.func x.2) #[] #[])))/\∀ df,pickF s.data.toList df tab=x.2)\/(Instr.findNow .string (.string s) es i=some none/\∀ df,pickF s.data.toList df tab=df)
 | [],[],i,_=>.inr ⟨rfl,fun _=>rfl⟩
 | [],_::_,i,h=>by simp at h
 | _::_,[],i,h=>by simp at h
 | e::es,(k,f)::tab,i,h=>by
  obtain ⟨ek,ev,eb⟩:=e
  simp only [List.map_cons,List.cons.injEq,Prod.mk.injEq] at h
  obtain ⟨⟨rfl,rfl⟩,h⟩:=h
  unfold Instr.findNow
  simp only [Instr.sameNow]
  by_cases hc:s=⟨k.toArray⟩
  ·have e1:(s==⟨k.toArray⟩)=true:=(bytes_beq _ _).2 hc
   rw [e1]
   refine .inl ⟨(k,f),by simp,⟨i,rfl⟩,fun df=>?_⟩
   have:s.data.toList=k:=by rw [hc]
   rw [pickF,if_pos (by simp [this])]
  ·have e1:(s==⟨k.toArray⟩)=false:=by
    rw [Bool.eq_false_iff]; exact fun e=>hc ((bytes_beq _ _).1 e)
   rw [e1]
   have n1:¬ s.data.toList=k:=by
    rintro rfl
    exact hc (by obtain ⟨x⟩:=s; simp)
   rcases find_tab s es tab (i+1) h with ⟨x,hx,hj,hp⟩ | ⟨h1,h2⟩
   ·exact .inl ⟨x,by simp [hx],hj,fun df=>by rw [pickF,if_neg (by simpa using n1)]; exact hp df⟩
   ·exact .inr ⟨h1,fun df=>by rw [pickF,if_neg (by simpa using n1)]; exact h2 df⟩
theorem run_look {mt kt et:TypeId} {r:Nat} {es:Array MapEntry} {clock:Nat} {s:ByteArray} {w:World} (hm:P.underlying mt=some (.map kt et)) (hd:P.underlying kt=some .string) (hz:(zeroValue et).run P w=.ok .nilFunc w)
  (hb:w.heap[r]? = some (.map es clock)) {x:Option (Nat×Value)} (hf:Instr.findNow .string (.string s) es.toList 0=some x) :
  (Instr.lookup mt (.map (some r)) (.string s) false).run P w=.ok (match x with | some (_,v)=>v | none=>.nilFunc) w:=by
 cases x with
 | none=>simp [Instr.lookup,run_underlying hm,MapKept.run_getObj_map hb,run_checkKey hd (k:=.string s) trivial,run_findKey hd hf,hz,Result.andThen]
 | some y=>obtain ⟨j,v⟩:=y; simp [Instr.lookup,run_underlying hm,MapKept.run_getObj_map hb,run_checkKey hd (k:=.string s) trivial,run_findKey hd hf,Result.andThen]
end
theorem eq_func {P:Program} {t:TypeId} {ps rs:Array TypeId} {va:Bool} {f:Fn} {a b:Array Value} (h:P.underlying t=some (.func ps rs va)) (w:World):(Op.equal t (.func f a b) .nilFunc).run P w=.ok false w:=by
 unfold Op.equal Op.maxDepth
 rw [show (10000:Nat)=9999+1 from rfl]
 unfold Op.equalIn
 simp only [Sem.run_bind,run_underlying h,Result.andThen]
 rfl
theorem eq_nilFunc {P:Program} {t:TypeId} {ps rs:Array TypeId} {va:Bool} (h:P.underlying t=some (.func ps rs va)) (w:World):(Op.equal t .nilFunc .nilFunc).run P w=.ok true w:=by
 unfold Op.equal Op.maxDepth
 rw [show (10000:Nat)=9999+1 from rfl]
 unfold Op.equalIn
 simp only [Sem.run_bind,run_underlying h,Result.andThen]
 rfl
theorem neq_func {P:Program} {t:TypeId} {ps rs:Array TypeId} {va:Bool} {f:Fn} {a b:Array Value} (h:P.underlying t=some (.func ps rs va)) (w:World):(binOp .neq t (.func f a b) .nilFunc).run P w=.ok (.bool true) w:=by
 show (do pure (.bool (!(<- Op.equal t (.func f a b) .nilFunc))):Sem Value).run P w=_
 simp only [Sem.run_bind,eq_func h,Result.andThen]
 rfl
theorem neq_nilFunc {P:Program} {t:TypeId} {ps rs:Array TypeId} {va:Bool} (h:P.underlying t=some (.func ps rs va)) (w:World):(binOp .neq t .nilFunc .nilFunc).run P w=.ok (.bool false) w:=by
 show (do pure (.bool (!(<- Op.equal t .nilFunc .nilFunc))):Sem Value).run P w=_
 simp only [Sem.run_bind,eq_nilFunc h,Result.andThen]
 rfl
theorem abs_es {es0:Array MapEntry} {c0:Nat} {f:Option Obj} (hb:f=some (.map es0 c0)) {L:List (Value×Value)} (he:es0.toList.map (fun e=>(e.key,e.val))=L):∃ es c,f=some (.map es c)/\es.toList.map (fun e=>(e.key,e.val))=L:=⟨es0,c0,hb,he⟩
def rTab:List (List UInt8×Nat):=[([115,115,97],89),([99,108,97,115,115],90),([102,105,101,108,100],91),([103,108,111,98,97,108],92),([101,120,116,101,114,110],93),([102,117,110,99],94),([112,97,114,97,109],95),([118,97,114],96),([98,108,111,99,107],97),([112,104,105],98),([97,116],99),([111,98,106],100),([106,117,109,112],101),([98,114,97,110,99,104],101),([114,101,116],101),([116,114,97,112],101)]
set_option maxRecDepth 100000 in
theorem readers_walk (s:ByteArray) (w:World) :
  Calls Tryd.prog 66 #[.string s] w fun e w'=>e=.returned (.func (.func (pickF s.data.toList 67 rTab)) #[] #[])/\Below w.heap.size w w':=by
 have hmm:=@run_makeMap Tryd.prog
 have hm:=Tryd.underlying173
 have hd:=Tryd.underlying9
 have hz:∀ w,(zeroValue 144).run Tryd.prog w=.ok .nilFunc w:=Tryd.zeroValue144
 have hb:(w.alloc (.map #[] 0)).heap[w.heap.size]? = some (.map #[] 0):=(heap_alloc w _).1
 have hB:Below w.heap.size w (w.alloc (.map #[] 0)):=(Below.refl _ w).alloc (Nat.le_refl _) _
 go_enter Tryd.func66,Tryd.ntmps66
 go_wp2
 iterate 16
  refine upon_ins hm hd hb (by kernel_rfl) (fun w2 hb2 hB2=>?_)
  replace hB:=hB.trans hB2
  replace hb:=hb2
  clear hB2 hb2
  go_wp2
 obtain ⟨es,c,hb,he⟩:=abs_es hb (L:=rTab.map (fun x=>(Value.string ⟨x.1.toArray⟩,Value.func (.func x.2) #[] #[]))) (by kernel_rfl)
 rcases find_tab s es.toList rTab 0 he with ⟨x,hx,⟨j,hj⟩,hp⟩ | ⟨h1,hp⟩
 ·rw [run_look hm hd (hz _) hb hj]
  simp only [Result.andThen]
  rw [Oper.upon_value]
  go_wp2
  rw [neq_func Tryd.underlying144]
  simp only [Result.andThen]
  rw [Oper.upon_value]
  go_wp2
  go_ret
  exact ⟨by rw [hp]; rfl,hB⟩
 ·rw [run_look hm hd (hz _) hb h1]
  simp only [Result.andThen]
  rw [Oper.upon_value]
  go_wp2
  rw [neq_nilFunc Tryd.underlying144]
  simp only [Result.andThen]
  rw [Oper.upon_value]
  go_wp2
  go_ret
  exact ⟨by rw [hp]; rfl,hB⟩
theorem canA_s {v:At} {x:List UInt8} (h:canAs [.s] [v]=some x):v.noRf=true/\v.toV.isFz=true/\v.toV.map T.canon=.one (.c (.d (.str x))):=by
 obtain ⟨h1,h2,h3⟩:=canAs_ok h
 refine ⟨by simpa using h1,by simpa using h2,?_⟩
 have:[v.toV.map T.canon]=[AV.one (.c (.d (.str x)))]:=h3
 simpa using this
def C_yReaders:CKt:=swT rTab 67
theorem c_yReaders:Cont Tryd.prog 66 C_yReaders:=by
 refine ⟨run_fn2 (fn:=Tryd.f66) (by kernel_rfl) (by kernel_rfl) (by kernel_rfl),fun pk s ops k k' hk hc=>?_,fun g pk s a w H γ F1 ops k hX hops hc=>?_⟩
 ·unfold C_yReaders swT at hc ⊢
  dsimp only at hc ⊢
  split at hc
  ·rw [swP_pick] at hc ⊢
   exact hk _ _ (Ext_frzAts _ _) hc
  ·exact hc.elim
 ·unfold C_yReaders swT at hc
  dsimp only at hc
  obtain ⟨H1,F2,h1⟩:=RXt_frzAts (ops.map (evA s)) s H F1 hX
  generalize frzAts s (ops.map (evA s))=s1 at hc h1
  split at hc
  ·rename_i x hx
   rw [swP_pick] at hc
   match ops,hx with
   | [],hx=>simp [canAs] at hx
   | [o],hx=>
    obtain ⟨_,hz,hcn⟩:=canA_s hx
    have hop:okOp o=true:=by simpa using hops
    have hv:=ev_ok h1 hop
    rw [evA_toV hop] at hv
    have hv2:=AR_map TR_canon (AR_fz (w':=w) (γ':=γ) (m':=[]) (fun _ _ _ h=>h) hz hv)
    rw [hcn] at hv2
    obtain ⟨e1,_⟩:=AR_text hv2
    show Calls _ _ #[a.eval o] w _
    rw [e1]
    refine (readers_walk ⟨x.toArray⟩ w).mono ?_
    rintro e w' ⟨rfl,hb⟩
    rw [bs_list]
    have hsame:∀ b,tot F2 s1.toS.m b≠0->w'.heap[b]? = w.heap[b]? := fun b hb'=>hb.block b (h1.mem.lt b hb')
    have hKp:=Keeps_grow (w':=w') h1.mem hsame
    have hmem:Mem w' H1 γ s1.toS.m F2:=by
     refine ⟨fun b o y hy=>?_,fun x hx=>RootR_keeps hKp (fun _ _ _ h=>h) rfl (fun b hb'=>hsame b (by have:=tot_ge (F:=F2) hx b; omega)) (h1.mem.roots x hx),h1.mem.keys,h1.mem.le1,fun b hb'=>by have:=h1.mem.lt b hb'; have:=hb.size; omega,h1.mem.nofz⟩
     have hlt:b<w.heap.size:=World.block_lt_of_cell? _ _ (h1.mem.agree b o y hy)
     rw [hb.cell hlt]
     exact h1.mem.agree b o y hy
    have hFr:Fr w H1 (tot F2 s1.toS.m) w' H1 (tot F2 s1.toS.m):=
     ⟨hb.size,hb.os,hb.tape,hb.output,fun b hb' _=>hb.block b hb',fun _ _ _ h=>h,fun b o h2 h3=>absurd h3 h2,fun b hb=>.inl hb⟩
    exact .inl ⟨_,s1,sct (.v (.func (.func (pickF x 67 rTab)) #[] #[])),H1,γ,F2,rfl,hc,⟨fun _=>rfl,0,rfl,rfl⟩,RX_step h1 hmem hFr (fun i=>AR_keeps hKp (fun _ _ _ h=>h) (h1.t i)) (fun _=>rfl)⟩
   | _::_::_,hx=>simp [canAs] at hx
  ·exact hc.elim
end Go.Am
end

section
namespace Go.Am
open Go Go.Proofs
set_option linter.unusedVariables false
set_option maxRecDepth 100000
theorem En.ok0 {P:Program} {u:Ut} {sh:List (TypeId×List Sh)} {pk:PKt}:En.ok ⟨P,u,[],sh,pk⟩:=fun _ h=>by cases h
theorem En.okc {P:Program} {u:Ut} {sh:List (TypeId×List Sh)} {pk:PKt} {f:Nat} {C:CKt} {cs:CTt} (h:Cont P f C) (hs:En.ok ⟨P,u,cs,sh,pk⟩):En.ok ⟨P,u,(f,C)::cs,sh,pk⟩:=by
 intro x hx
 rcases List.mem_cons.1 hx with rfl | hx
 ·exact h
 ·exact hs x hx
theorem mixed:Tryd.prog.follows .mixedOrders=true:=by kernel_rfl
def okF (n:Nat) (fn:Func):Bool:=fn.name != "runtime.NumGoroutine" && (fn.body.isSome&&(Nat.ble n fn.ntmps&&chkC fn.ntmps (fn.body.getD .skip)))
theorem okF_1 {n:Nat} {fn:Func} (h:okF n fn=true):(fn.name == "runtime.NumGoroutine")=false/\fn.body.isSome=true/\Nat.ble n fn.ntmps=true/\chkC fn.ntmps (fn.body.getD .skip)=true:=by
 unfold okF at h
 simp only [Bool.and_eq_true,bne,Bool.not_eq_true'] at h
 exact h
theorem k0 (e:En) (he:e.ok) (hm:e.P.follows .mixedOrders=true) {f:Nat} {fn:Func} (an:An) {ps rs:List U} {F:Fl ps->Fl rs} (hf:e.P.funcs[f]? = some fn) (hb:okF ps.length fn=true) (law:∀ x,∀ KK:Fl rs->Prop,KK (F x)->bodyT e fn an ps rs x KK):Cont e.P f (pureT0 ps rs F):=
 Cont_pure0 he hm hf (okF_1 hb).1 (okF_1 hb).2.1 (okF_1 hb).2.2.1 (okF_1 hb).2.2.2 law
theorem k1 (e:En) (he:e.ok) (hm:e.P.follows .mixedOrders=true) {f:Nat} {fn:Func} (an:An) {ps rs:List U} {pre:Fl ps->Prop} {F:Fl ps->Fl rs} (hf:e.P.funcs[f]? = some fn) (hb:okF ps.length fn=true) (law:∀ x,pre x->∀ KK:Fl rs->Prop,KK (F x)->bodyT e fn an ps rs x KK):Cont e.P f (pureT ps rs pre F):=
 Cont_pure he hm hf (okF_1 hb).1 (okF_1 hb).2.1 (okF_1 hb).2.2.1 (okF_1 hb).2.2.2 law
theorem k2 (e:En) (he:e.ok) (hm:e.P.follows .mixedOrders=true) {f:Nat} {fn:Func} (an:An) {sh:List Sh} {u:U} {ps rs:List U} {pre:El u->Fl ps->Prop} {Fn:El u->Fl ps->Fl rs×El u} (hf:e.P.funcs[f]? = some fn) (hb:okF (ps.length+1) fn=true) (law:∀ x y,pre x y->∀ KK:Fl rs×El u->Prop,KK (Fn x y)->bodyPT e fn an sh u ps rs x y KK):Cont e.P f (ptrT sh u ps rs pre Fn):=
 Cont_ptr he hm hf (okF_1 hb).1 (okF_1 hb).2.1 (okF_1 hb).2.2.1 (okF_1 hb).2.2.2 law
theorem k3 (e:En) (he:e.ok) (hm:e.P.follows .mixedOrders=true) {f:Nat} {fn:Func} (an:An) {u:U} {ps:List U} {pre:List (El u)->Fl ps->Prop} {Fn:List (El u)->Fl ps->List (El u)} (hf:e.P.funcs[f]? = some fn) (hb:okF (ps.length+1) fn=true) (law:∀ x y,pre x y->∀ KK:List (El u)->Prop,KK (Fn x y)->bodyOT e fn an u ps x y KK):Cont e.P f (ownT u ps pre Fn):=
 Cont_own he hm hf (okF_1 hb).1 (okF_1 hb).2.1 (okF_1 hb).2.2.1 (okF_1 hb).2.2.2 law
theorem k4 (e:En) (he:e.ok) (hm:e.P.follows .mixedOrders=true) {f:Nat} {fn:Func} (an:An) {ps rs:List U} {pre:Fl ps->Prop} {F:Fl ps->Except Value (Fl rs)} (hf:e.P.funcs[f]? = some fn) (hb:okF ps.length fn=true) (law:∀ x,pre x->∀ (KK:Fl rs->Prop) (KP:Value->Prop),exQ (F x) KK KP->bodyXT e fn an ps rs x KK KP):Cont e.P f (pureXT ps rs pre F):=
 Cont_pureX he hm hf (okF_1 hb).1 (okF_1 hb).2.1 (okF_1 hb).2.2.1 (okF_1 hb).2.2.2 law
theorem k5 (e:En) (he:e.ok) (hm:e.P.follows .mixedOrders=true) {f:Nat} {fn:Func} (an:An) {sh:List Sh} {u:U} {ps rs:List U} {pre:El u->Fl ps->Prop} {Fn:El u->Fl ps->Except Value (Fl rs)×El u} (hf:e.P.funcs[f]? = some fn) (hb:okF (ps.length+1) fn=true) (law:∀ x y,pre x y->∀ (KK:Fl rs×El u->Prop) (KP:Value->El u->Prop),exP (Fn x y) (fun z x'=>KK (z,x')) KP->bodyPXT e fn an sh u ps rs x y KK KP):Cont e.P f (ptrXT sh u ps rs pre Fn):=
 Cont_ptrX he hm hf (okF_1 hb).1 (okF_1 hb).2.1 (okF_1 hb).2.2.1 (okF_1 hb).2.2.2 law
def rgI:Code->Nat
 | .region id _ _=>id
 | _=>0
def rgO (c:Code) (i:Nat):Oper:=match c with
 | .region _ l _=>l.getD i default
 | _=>default
def C_yRefuse:CKt:=panT Lt.flt
theorem c_yRefuse:Cont Tryd.prog 106 C_yRefuse:=c_refuse
abbrev sh5:List Sh:=[.fr,.ow [],.ow [],.ow [],.ow []]
abbrev sh4:List Sh:=[.fr,.fr,.fr,.ow [.fr,.fr,.fr,.fr]]
abbrev sh3:List Sh:=[.fr,.fr,.fr,.fr,.ow [.fr,.fr,.fr,.fr],.ow [.fr,.fr]]
abbrev sh1:List Sh:=[.fr,.fr,.ow [.fr,.fr],.ow [.fr,.fr],.ow [.fr,.ow [.fr,.fr],.ow sh3,.fr,.fr,.fr,.fr,.fr,.fr]]
abbrev sh2:List Sh:=[.fr,.ow [.fr,.ow [.fr,.fr]],.ow [.fr,.fr],.ow [.fr,.fr],.ow sh1,.fr,.fr]
abbrev sh0:List Sh:=[.fr,.ow [.fr,.ow [.fr,.fr]],.ow [.fr,.fr],.ow [.fr,.fr],.ow sh1,.fr,.fr,.fr,.fr]
def eU:Ut:=[(86,(.st .Class)),(128,(.st .Var)),(88,(.st .Extern)),(51,(.st .Func)),(60,(.st .Block)),(69,(.st .Phi)),(66,(.st .Instr)),(9,.s),(55,(.st .Arg)),(159,(.st .Frame)),(163,(.st .Virt)),(132,(.st .In)),(76,(.st .RLine)),(80,(.st .Line)),(5,.b8),(3,(.i .i64)),(161,(.st .Bind))]
def eS:List (TypeId×List Sh):=[(27,[.fr,.ow [.fr,.ow [.fr,.fr]],.ow [.fr,.fr],.ow [.fr,.fr],.ow sh1]),(51,sh1),(60,[.fr,.ow [.fr,.fr],.ow sh3,.fr,.fr,.fr,.fr,.fr,.fr]),(66,sh3),(86,[.fr,.ow [.fr,.fr]]),(103,sh0),(104,sh0),(165,sh2),(166,sh2)]
def C_nth:CKt:=pureT0 [.s,(.i .i64)] [.s] (fun x=>Lt.nth x.1 x.2)
def an_nth:An:=.s .l (.s .l (.s (.s .l (.b (.lp ⟨[0],[],[],[.sl 1 (.i .i64),.sl 5 (.i .i64),.sl 6 (.i .i64)]⟩ (.s (.s .l (.c .l .l)) (.j ⟨[0,6],[],[],[.sl 1 (.i .i64),.sl 5 (.i .i64)]⟩ (.b (.s (.s .l (.c .l .l)) (.s (.s .l (.s .l (.c (.s .l .l) .l))) .l))) .l))))) (.s .l .l)))
theorem walk_nth (a0_list:List UInt8) (a1_n:Int) (KK:(List UInt8)->Prop):F_nth a0_list a1_n KK=bodyT ⟨Tryd.prog,eU,[],[],noP⟩ Tryd.f37 an_nth [.s,(.i .i64)] [.s] (a0_list,a1_n) KK:=by kernel_rfl
theorem c_nth:Cont Tryd.prog 37 C_nth:=k0 ⟨Tryd.prog,eU,[],[],noP⟩ En.ok0 mixed (fn:=Tryd.f37) an_nth (by kernel_rfl) (by kernel_rfl) (fun (a0_list,a1_n) KK h=>Eq.mp (walk_nth a0_list a1_n KK) (law_nth a0_list a1_n KK h))
def C_Of:CKt:=pureT0 [(.i .i64)] [(.st .Form),.bo] (fun x=>Lt.Of x)
def an_Of:An:=.s .l (.s (.b (.j ⟨[0,2],[.loc 2],[],[.sl 4 .bo]⟩ .l (.c (.s .l .l) (.j ⟨[0,2],[.loc 2],[],[.sl 14 .bo]⟩ .l (.c (.s .l .l) .l))))) (.s (.s .l (.b (.s .l (.c (.s .l .l) (.s .l (.c (.s .l .l) (.s .l (.c (.s .l .l) (.s .l (.c (.s .l .l) (.s .l (.c (.s .l .l) (.s .l (.c (.s .l .l) (.s .l (.c (.s .l .l) (.s .l (.c (.s .l .l) (.s .l (.c (.s .l .l) (.s .l (.c (.s .l .l) .l)))))))))))))))))))))) (.s .l .l)))
abbrev t_Of:CTt:=[(37,C_nth)]
theorem walk_Of (a0_op:Int) (KK:(Lt.Form×Bool)->Prop):F_Of a0_op KK=bodyT ⟨Tryd.prog,eU,t_Of,[],noP⟩ Tryd.f13 an_Of [(.i .i64)] [(.st .Form),.bo] a0_op KK:=by kernel_rfl
theorem c_Of:Cont Tryd.prog 13 C_Of:=k0 ⟨Tryd.prog,eU,t_Of,[],noP⟩ (En.okc c_nth En.ok0) mixed (fn:=Tryd.f13) an_Of (by kernel_rfl) (by kernel_rfl) (fun a0_op KK h=>Eq.mp (walk_Of a0_op KK) (law_Of a0_op KK h))
def C_yOp:CKt:=pureT0 [.s] [(.i .i64),.bo] (fun x=>Lt.yOp x)
def an_yOp:An:=.s .l (.s (.s .l (.b (.lp ⟨[0],[],[],[.sl 4 (.i .i64)]⟩ (.s (.s .l (.c .l .l)) (.s (.b (.s .l (.s .l (.c (.s .l .l) .l)))) .l))))) (.s .l .l))
abbrev t_yOp:CTt:=[(13,C_Of)]
theorem walk_yOp (a0_w:List UInt8) (KK:(Int×Bool)->Prop):F_yOp a0_w KK=bodyT ⟨Tryd.prog,eU,t_yOp,[],noP⟩ Tryd.f15 an_yOp [.s] [(.i .i64),.bo] a0_w KK:=by kernel_rfl
theorem c_yOp:Cont Tryd.prog 15 C_yOp:=k0 ⟨Tryd.prog,eU,t_yOp,[],noP⟩ (En.okc c_Of En.ok0) mixed (fn:=Tryd.f15) an_yOp (by kernel_rfl) (by kernel_rfl) (fun a0_w KK h=>Eq.mp (walk_yOp a0_w KK) (law_yOp a0_w KK h))
def C_blank:CKt:=pureT0 [.b8] [.bo] (fun x=>Lt.blank x)
def an_blank:An:=.s .l (.s .l .l)
theorem walk_blank (a0_c:UInt8) (KK:Bool->Prop):F_blank a0_c KK=bodyT ⟨Tryd.prog,eU,[],[],noP⟩ Tryd.f73 an_blank [.b8] [.bo] a0_c KK:=by kernel_rfl
theorem c_blank:Cont Tryd.prog 73 C_blank:=k0 ⟨Tryd.prog,eU,[],[],noP⟩ En.ok0 mixed (fn:=Tryd.f73) an_blank (by kernel_rfl) (by kernel_rfl) (fun a0_c KK h=>Eq.mp (walk_blank a0_c KK) (law_blank a0_c KK h))
def C_lWords:CKt:=pureT [.s] [(.sl .s),.bo] (fun x=>Lt.preLWords x) (fun x=>Lt.lWords x)
def an_lWords:An:=.s .l (.s .l (.s .l (.s (.s .l (.b (.lp ⟨[0],[],[],[.ow 4 [.fr] .s,.sl 5 (.i .i64),.sl 6 (.i .i64)]⟩ (.s (.s .l (.c .l .l)) (.j ⟨[0,6],[],[],[.ow 4 [.fr] .s,.sl 5 (.i .i64)]⟩ (.b (.b (.j ⟨[0,4,5,6],[.gh 900004],[],[.sl 13 .bo]⟩ .l (.c (.j ⟨[0,6],[],[],[.ow 4 [.fr] .s]⟩ (.s .l (.c .l .l)) .l) (.j ⟨[0,4,5,6],[.gh 900004],[],[.sl 33 .bo]⟩ .l (.c (.s .l .l) (.s .l (.c .l .l)))))))) .l))))) (.s .l .l))))
abbrev t_lWords:CTt:=[(73,C_blank)]
theorem walk_lWords (a0_s:List UInt8) (KK:(List (List UInt8)×Bool)->Prop):F_lWords a0_s KK=bodyT ⟨Tryd.prog,eU,t_lWords,[],noP⟩ Tryd.f45 an_lWords [.s] [(.sl .s),.bo] a0_s KK:=by kernel_rfl
theorem c_lWords:Cont Tryd.prog 45 C_lWords:=k1 ⟨Tryd.prog,eU,t_lWords,[],noP⟩ (En.okc c_blank En.ok0) mixed (fn:=Tryd.f45) an_lWords (by kernel_rfl) (by kernel_rfl) (fun a0_s hp KK h=>Eq.mp (walk_lWords a0_s KK) (law_lWords a0_s hp KK h))
def C_lSplit:CKt:=pureT0 [.s] [(.sl (.st .Line)),(.i .i64),(.i .i64)] (fun x=>Lt.lSplit x)
def an_lSplit:An:=.s .l (.s (.s .l (.c (.s .l .l) .l)) (.s .l (.s (.s .l (.b (.lp ⟨[14,15],[],[],[.ow 5 [.fr,.fr] (.st .Line),.sl 16 (.i .i64)]⟩ (.s .l (.s (.c .l .l) (.j ⟨[14,15,16],[],[],[.ow 5 [.fr,.fr] (.st .Line)]⟩ (.b (.s .l (.s .l (.s .l (.s (.s .l (.c (.s .l .l) .l)) (.s .l (.c .l .l))))))) .l)))))) (.s .l .l))))
abbrev t_lSplit:CTt:=[(43,C_gSplit),(44,C_gCut),(45,C_lWords)]
theorem walk_lSplit (a0_s:List UInt8) (KK:(List Lt.Line×Int×Int)->Prop):F_lSplit a0_s KK=bodyT ⟨Tryd.prog,eU,t_lSplit,[],noP⟩ Tryd.f23 an_lSplit [.s] [(.sl (.st .Line)),(.i .i64),(.i .i64)] a0_s KK:=by kernel_rfl
theorem c_lSplit:Cont Tryd.prog 23 C_lSplit:=k0 ⟨Tryd.prog,eU,t_lSplit,[],noP⟩ (En.okc c_gSplit (En.okc c_gCut (En.okc c_lWords En.ok0))) mixed (fn:=Tryd.f23) an_lSplit (by kernel_rfl) (by kernel_rfl) (fun a0_s KK h=>Eq.mp (walk_lSplit a0_s KK) (law_lSplit a0_s KK h))
def C_yHas:CKt:=pureT0 [(.sl (.i .i64)),(.i .i64)] [.bo] (fun x=>Lt.yHas x.1 x.2)
def an_yHas:An:=.s .l (.s (.s .l (.b (.lp ⟨[1,7,8],[],[],[.sl 9 (.i .i64)]⟩ (.s .l (.s (.c .l .l) (.s (.b (.s .l (.s .l (.c (.s .l .l) .l)))) .l)))))) (.s .l .l))
theorem walk_yHas (a0_l:List Int) (a1_n:Int) (KK:Bool->Prop):F_yHas a0_l a1_n KK=bodyT ⟨Tryd.prog,eU,[],[],noP⟩ Tryd.f69 an_yHas [(.sl (.i .i64)),(.i .i64)] [.bo] (a0_l,a1_n) KK:=by kernel_rfl
theorem c_yHas:Cont Tryd.prog 69 C_yHas:=k0 ⟨Tryd.prog,eU,[],[],noP⟩ En.ok0 mixed (fn:=Tryd.f69) an_yHas (by kernel_rfl) (by kernel_rfl) (fun (a0_l,a1_n) KK h=>Eq.mp (walk_yHas a0_l a1_n KK) (law_yHas a0_l a1_n KK h))
def C_letter:CKt:=pureT0 [.b8] [.bo] (fun x=>Lt.letter x)
def an_letter:An:=.s .l (.j ⟨[],[],[],[.sl 2 .bo]⟩ .l .l)
theorem walk_letter (a0_c:UInt8) (KK:Bool->Prop):F_letter a0_c KK=bodyT ⟨Tryd.prog,eU,[],[],noP⟩ Tryd.f62 an_letter [.b8] [.bo] a0_c KK:=by kernel_rfl
theorem c_letter:Cont Tryd.prog 62 C_letter:=k0 ⟨Tryd.prog,eU,[],[],noP⟩ En.ok0 mixed (fn:=Tryd.f62) an_letter (by kernel_rfl) (by kernel_rfl) (fun a0_c KK h=>Eq.mp (walk_letter a0_c KK) (law_letter a0_c KK h))
def C_kept:CKt:=pureT0 [.s] [.bo] (fun x=>Lt.kept x)
def an_kept:An:=.s .l (.j ⟨[],[],[],[.sl 2 .bo]⟩ .l .l)
theorem walk_kept (a0_s:List UInt8) (KK:Bool->Prop):F_kept a0_s KK=bodyT ⟨Tryd.prog,eU,[],[],noP⟩ Tryd.f63 an_kept [.s] [.bo] a0_s KK:=by kernel_rfl
theorem c_kept:Cont Tryd.prog 63 C_kept:=k0 ⟨Tryd.prog,eU,[],[],noP⟩ En.ok0 mixed (fn:=Tryd.f63) an_kept (by kernel_rfl) (by kernel_rfl) (fun a0_s KK h=>Eq.mp (walk_kept a0_s KK) (law_kept a0_s KK h))
def C_wordDigit:CKt:=pureT0 [.b8] [.bo] (fun x=>Lt.wordDigit x)
def an_wordDigit:An:=.s .l (.s .l .l)
theorem walk_wordDigit (a0_c:UInt8) (KK:Bool->Prop):F_wordDigit a0_c KK=bodyT ⟨Tryd.prog,eU,[],[],noP⟩ Tryd.f64 an_wordDigit [.b8] [.bo] a0_c KK:=by kernel_rfl
theorem c_wordDigit:Cont Tryd.prog 64 C_wordDigit:=k0 ⟨Tryd.prog,eU,[],[],noP⟩ En.ok0 mixed (fn:=Tryd.f64) an_wordDigit (by kernel_rfl) (by kernel_rfl) (fun a0_c KK h=>Eq.mp (walk_wordDigit a0_c KK) (law_wordDigit a0_c KK h))
def C_Name:CKt:=pureT0 [.s] [.bo] (fun x=>Lt.Name x)
def an_Name:An:=.s .l (.s (.j ⟨[0],[],[],[.sl 20 .bo]⟩ .l (.c (.s .l .l) .l)) (.s (.s .l (.b (.lp ⟨[0,22],[],[],[.sl 23 (.i .i64)]⟩ (.s .l (.s (.c .l .l) (.s (.b (.s .l (.j ⟨[0,22,23],[],[],[.sl 37 .bo]⟩ .l (.c (.s .l .l) .l)))) .l)))))) (.s .l .l)))
abbrev t_Name:CTt:=[(62,C_letter),(63,C_kept),(64,C_wordDigit)]
theorem walk_Name (a0_s:List UInt8) (KK:Bool->Prop):F_Name a0_s KK=bodyT ⟨Tryd.prog,eU,t_Name,[],noP⟩ Tryd.f35 an_Name [.s] [.bo] a0_s KK:=by kernel_rfl
theorem c_Name:Cont Tryd.prog 35 C_Name:=k0 ⟨Tryd.prog,eU,t_Name,[],noP⟩ (En.okc c_letter (En.okc c_kept (En.okc c_wordDigit En.ok0))) mixed (fn:=Tryd.f35) an_Name (by kernel_rfl) (by kernel_rfl) (fun a0_s KK h=>Eq.mp (walk_Name a0_s KK) (law_Name a0_s KK h))
def C_yName:CKt:=pureXT [.s] [.s] (fun x=>True) (fun x=>Lt.yName x)
def an_yMust_yName:An:=.s .l (.c .l .l)
def C_yMust_yName:CKt:=inlT ⟨Tryd.prog,eU,[(106,C_yRefuse)],[],noP⟩ Tryd.f68 an_yMust_yName
def an_yName:An:=.s .l (.s .l (.s .l .l))
abbrev t_yName:CTt:=[(35,C_Name),(68,C_yMust_yName)]
theorem walk_yName (a0_w:List UInt8) (KK:(List UInt8)->Prop) (KP:Value->Prop):F_yName a0_w KK KP=bodyXT ⟨Tryd.prog,eU,t_yName,[],noP⟩ Tryd.f102 an_yName [.s] [.s] a0_w KK KP:=by kernel_rfl
theorem c_yName:Cont Tryd.prog 102 C_yName:=k4 ⟨Tryd.prog,eU,t_yName,[],noP⟩ (En.okc c_Name (En.okc (Cont_inl (En.okc c_yRefuse En.ok0) mixed (fn:=Tryd.f68) (by kernel_rfl) (by kernel_rfl) (by kernel_rfl) (by kernel_rfl) (by kernel_rfl)) En.ok0)) mixed (fn:=Tryd.f102) an_yName (by kernel_rfl) (by kernel_rfl) (fun a0_w hp KK KP h=>Eq.mp (walk_yName a0_w KK KP) (law_yName a0_w KK KP h))
def C_numGet:CKt:=pureT0 [.s] [(.i .i64),.bo] (fun x=>Lt.numGet x)
def an_numGet:An:=.s .l (.s (.j ⟨[0],[],[],[.sl 13 .bo]⟩ .l (.c (.s .l .l) .l)) (.s .l (.j ⟨[0],[],[],[.sl 4 (.i .i64)]⟩ (.s .l (.c .l .l)) (.s .l (.s (.s .l (.b (.lp ⟨[0,4],[],[],[.sl 5 (.i .i64),.sl 6 (.i .i64)]⟩ (.s (.s .l (.c .l .l)) (.s (.b (.s (.j ⟨[0,4,5,6],[],[],[.sl 33 .bo]⟩ .l (.c (.s .l .l) .l)) .l)) .l))))) (.j ⟨[0],[],[],[.sl 5 (.i .i64)]⟩ (.s .l (.c .l .l)) (.s (.s .l (.c (.s .l .l) .l)) (.s .l .l))))))))
abbrev t_numGet:CTt:=[(50,C_numPut)]
theorem walk_numGet (a0_s:List UInt8) (KK:(Int×Bool)->Prop):F_numGet a0_s KK=bodyT ⟨Tryd.prog,eU,t_numGet,[],noP⟩ Tryd.f130 an_numGet [.s] [(.i .i64),.bo] a0_s KK:=by kernel_rfl
theorem c_numGet:Cont Tryd.prog 130 C_numGet:=k0 ⟨Tryd.prog,eU,t_numGet,[],noP⟩ (En.okc c_numPut En.ok0) mixed (fn:=Tryd.f130) an_numGet (by kernel_rfl) (by kernel_rfl) (fun a0_s KK h=>Eq.mp (walk_numGet a0_s KK) (law_numGet a0_s KK h))
def C_Plain:CKt:=pureT0 [(.i .i64)] [(.i .i64)] (fun x=>Lt.Plain x)
def an_Plain:An:=.s .l (.s (.j ⟨[0],[],[],[.sl 10 .bo]⟩ .l (.c (.s .l .l) .l)) (.s .l .l))
theorem walk_Plain (a0_n:Int) (KK:Int->Prop):F_Plain a0_n KK=bodyT ⟨Tryd.prog,eU,[],[],noP⟩ Tryd.f114 an_Plain [(.i .i64)] [(.i .i64)] a0_n KK:=by kernel_rfl
theorem c_Plain:Cont Tryd.prog 114 C_Plain:=k0 ⟨Tryd.prog,eU,[],[],noP⟩ En.ok0 mixed (fn:=Tryd.f114) an_Plain (by kernel_rfl) (by kernel_rfl) (fun a0_n KK h=>Eq.mp (walk_Plain a0_n KK) (law_Plain a0_n KK h))
def C_floGet:CKt:=pureT0 [.s] [(.i .i64),.bo] (fun x=>Lt.floGet x)
def an_floGet:An:=.s .l (.s .l (.s (.j ⟨[4],[],[],[.sl 21 .bo]⟩ .l (.c (.s .l .l) .l)) (.s .l (.s (.s .l (.b (.lp ⟨[4,23],[],[],[.sl 6 (.i .u64),.sl 24 (.i .i64)]⟩ (.s .l (.s (.c .l .l) (.s (.b (.s .l (.s .l (.s (.s .l (.c (.s .l .l) .l)) .l)))) .l)))))) (.s .l (.s (.s .l (.c (.s .l .l) .l)) (.s .l .l)))))))
abbrev t_floGet:CTt:=[(114,C_Plain),(158,C_gCutP),(159,C_gIndex)]
theorem walk_floGet (a0_s:List UInt8) (KK:(Int×Bool)->Prop):F_floGet a0_s KK=bodyT ⟨Tryd.prog,eU,t_floGet,[],noP⟩ Tryd.f157 an_floGet [.s] [(.i .i64),.bo] a0_s KK:=by kernel_rfl
theorem c_floGet:Cont Tryd.prog 157 C_floGet:=k0 ⟨Tryd.prog,eU,t_floGet,[],noP⟩ (En.okc c_Plain (En.okc c_gCutP (En.okc c_gIndex En.ok0))) mixed (fn:=Tryd.f157) an_floGet (by kernel_rfl) (by kernel_rfl) (fun a0_s KK h=>Eq.mp (walk_floGet a0_s KK) (law_floGet a0_s KK h))
def C_wordNumber:CKt:=pureT0 [.s] [(.st .Arg),.bo] (fun x=>Lt.wordNumber x)
def an_wordNumber:An:=.s .l (.s (.s .l (.s .l (.c (.s .l .l) .l))) (.s .l (.s (.s .l (.c (.s .l .l) .l)) (.s .l .l))))
abbrev t_wordNumber:CTt:=[(130,C_numGet),(157,C_floGet)]
theorem walk_wordNumber (a0_s:List UInt8) (KK:(Lt.Arg×Bool)->Prop):F_wordNumber a0_s KK=bodyT ⟨Tryd.prog,eU,t_wordNumber,[],noP⟩ Tryd.f155 an_wordNumber [.s] [(.st .Arg),.bo] a0_s KK:=by kernel_rfl
theorem c_wordNumber:Cont Tryd.prog 155 C_wordNumber:=k0 ⟨Tryd.prog,eU,t_wordNumber,[],noP⟩ (En.okc c_numGet (En.okc c_floGet En.ok0)) mixed (fn:=Tryd.f155) an_wordNumber (by kernel_rfl) (by kernel_rfl) (fun a0_s KK h=>Eq.mp (walk_wordNumber a0_s KK) (law_wordNumber a0_s KK h))
def C_wordGet:CKt:=pureT0 [.s] [(.st .Arg),.bo] (fun x=>Lt.wordGet x)
def an_wordGet:An:=.s .l (.s (.b (.s .l (.c (.s .l .l) (.s .l (.c (.s .l .l) (.s .l (.c (.s .l .l) (.s .l (.c (.s .l (.s (.j ⟨[2,4],[.loc 2],[],[.sl 38 .bo]⟩ .l (.c (.s .l .l) .l)) (.s .l .l))) .l))))))))) (.s .l .l))
abbrev t_wordGet:CTt:=[(35,C_Name),(130,C_numGet),(155,C_wordNumber)]
theorem walk_wordGet (a0_s:List UInt8) (KK:(Lt.Arg×Bool)->Prop):F_wordGet a0_s KK=bodyT ⟨Tryd.prog,eU,t_wordGet,[],noP⟩ Tryd.f148 an_wordGet [.s] [(.st .Arg),.bo] a0_s KK:=by kernel_rfl
theorem c_wordGet:Cont Tryd.prog 148 C_wordGet:=k0 ⟨Tryd.prog,eU,t_wordGet,[],noP⟩ (En.okc c_Name (En.okc c_numGet (En.okc c_wordNumber En.ok0))) mixed (fn:=Tryd.f148) an_wordGet (by kernel_rfl) (by kernel_rfl) (fun a0_s KK h=>Eq.mp (walk_wordGet a0_s KK) (law_wordGet a0_s KK h))
def C_yArg:CKt:=pureXT [.s,.bo] [(.st .Arg)] (fun x=>True) (fun x=>Lt.yArg x.1 x.2)
def an_yMust_yArg:An:=.s .l (.c .l .l)
def C_yMust_yArg:CKt:=inlT ⟨Tryd.prog,eU,[(106,C_yRefuse)],[],noP⟩ Tryd.f68 an_yMust_yArg
def an_yArg:An:=.s .l (.s .l (.j ⟨[4,5],[.loc 4,.loc 5],[],[]⟩ .l (.s .l .l)))
abbrev t_yArg:CTt:=[(68,C_yMust_yArg),(148,C_wordGet)]
theorem walk_yArg (a0_w:List UInt8) (a1_objs:Bool) (KK:Lt.Arg->Prop) (KP:Value->Prop):F_yArg a0_w a1_objs KK KP=bodyXT ⟨Tryd.prog,eU,t_yArg,[],noP⟩ Tryd.f128 an_yArg [.s,.bo] [(.st .Arg)] (a0_w,a1_objs) KK KP:=by kernel_rfl
theorem c_yArg:Cont Tryd.prog 128 C_yArg:=k4 ⟨Tryd.prog,eU,t_yArg,[],noP⟩ (En.okc (Cont_inl (En.okc c_yRefuse En.ok0) mixed (fn:=Tryd.f68) (by kernel_rfl) (by kernel_rfl) (by kernel_rfl) (by kernel_rfl) (by kernel_rfl)) (En.okc c_wordGet En.ok0)) mixed (fn:=Tryd.f128) an_yArg (by kernel_rfl) (by kernel_rfl) (fun (a0_w,a1_objs) hp KK KP h=>Eq.mp (walk_yArg a0_w a1_objs KK KP) (law_yArg a0_w a1_objs KK KP h))
def C_yArgs:CKt:=pureXT [(.sl .s),.bo] [(.sl (.st .Arg))] (fun x=>Lt.preWords x.1 x.2) (fun x=>Lt.yArgs x.1 x.2)
def an_yArgs:An:=.s .l (.s .l (.s (.s .l (.b (.lp ⟨[1,8,9],[],[],[.ow 5 [.fr,.fr,.fr] (.st .Arg),.sl 10 (.i .i64)]⟩ (.s .l (.s (.c .l .l) (.s (.b (.s .l .l)) .l)))))) (.s .l .l)))
abbrev t_yArgs:CTt:=[(128,C_yArg)]
theorem walk_yArgs (a0_l:List (List UInt8)) (a1_objs:Bool) (KK:(List Lt.Arg)->Prop) (KP:Value->Prop):F_yArgs a0_l a1_objs KK KP=bodyXT ⟨Tryd.prog,eU,t_yArgs,[],noP⟩ Tryd.f103 an_yArgs [(.sl .s),.bo] [(.sl (.st .Arg))] (a0_l,a1_objs) KK KP:=by kernel_rfl
theorem c_yArgs:Cont Tryd.prog 103 C_yArgs:=k4 ⟨Tryd.prog,eU,t_yArgs,[],noP⟩ (En.okc c_yArg En.ok0) mixed (fn:=Tryd.f103) an_yArgs (by kernel_rfl) (by kernel_rfl) (fun (a0_l,a1_objs) hp KK KP h=>Eq.mp (walk_yArgs a0_l a1_objs KK KP) (law_yArgs a0_l a1_objs hp KK KP h))
def C_yCode:CKt:=ptrXT sh0 (.st .Reader) [(.sl .s)] [] (fun x y=>Lt.preReader x y) (fun x y=>Lt.yCode x y)
def an_yMust_yBetween_yCode:An:=.s .l (.c .l .l)
def C_yMust_yBetween_yCode:CKt:=inlT ⟨Tryd.prog,eU,[(106,C_yRefuse)],eS,noP⟩ Tryd.f68 an_yMust_yBetween_yCode
def an_yBetween_yCode:An:=.l
def C_yBetween_yCode:CKt:=inlT ⟨Tryd.prog,eU,[(68,C_yMust_yBetween_yCode),(69,C_yHas)],eS,noP⟩ Tryd.f40 an_yBetween_yCode
def an_yMust_yCode:An:=.s .l (.c .l .l)
def C_yMust_yCode:CKt:=inlT ⟨Tryd.prog,eU,[(106,C_yRefuse)],eS,noP⟩ Tryd.f68 an_yMust_yCode
def an_yArgs_yCode:An:=.s .l (.s .l (.s (.s .l (.b (.lp ⟨[1,8,9,100000,100004,100005,100007,100009,100059,100066,100067,100068,100069,100070,100071,100072,100073,100074,100075,100076,100078,100079],[.loc 4,.loc 7,.out 0],[],[.ow 5 [.fr,.fr,.fr] (.st .Arg),.sl 10 (.i .i64)]⟩ (.s .l (.s (.c .l .l) (.s (.b (.s .l .l)) .l)))))) (.s .l .l)))
def C_yArgs_yCode:CKt:=inlT ⟨Tryd.prog,eU,[(128,C_yArg)],eS,noP⟩ Tryd.f103 an_yArgs_yCode
def an_yWithin_yMore_yCode:An:=.s .l (.c .l .l)
def C_yWithin_yMore_yCode:CKt:=inlT ⟨Tryd.prog,eU,[(106,C_yRefuse)],eS,noP⟩ Tryd.f123 an_yWithin_yMore_yCode
def an_yMore_yCode:An:=.s .l .l
def C_yMore_yCode:CKt:=inlT ⟨Tryd.prog,eU,[(123,C_yWithin_yMore_yCode)],eS,noP⟩ Tryd.f104 an_yMore_yCode
def an_yFun_yBlock_yCode:An:=.s .l (.s .l .l)
def C_yFun_yBlock_yCode:CKt:=inlT ⟨Tryd.prog,eU,[],eS,noP⟩ Tryd.f126 an_yFun_yBlock_yCode
def an_yBlock_yCode:An:=.s .l (.s .l (.s .l .l))
def C_yBlock_yCode:CKt:=inlT ⟨Tryd.prog,eU,[(126,C_yFun_yBlock_yCode)],eS,noP⟩ Tryd.f105 an_yBlock_yCode
def an_yCode:An:=.s .l (.s .l (.j ⟨[0,4],[.out 0],[],[.sl 1 (.sl .s),.rt (.loc 4) [.fr,.fr,.fr,.ow [],.ow [],.ow []] (.st .Instr)]⟩ (.j ⟨[0,1,4],[.loc 4,.out 0],[],[.sl 23 .bo]⟩ .l (.c (.s .l .l) .l)) (.s .l (.s .l (.s .l (.s .l (.s .l (.s .l (.j ⟨[0,4,5,7],[.loc 7,.out 0],[],[.rt (.loc 4) [.fr,.fr,.fr,.fr,.ow [],.ow []] (.st .Instr)]⟩ (.b (.j ⟨[0,4,5,7,9],[.loc 4,.loc 7,.out 0],[],[.sl 59 .bo]⟩ .l (.c (.s .l (.s .l .l)) (.s .l (.c (.s .l (.s .l .l)) .l))))) (.j ⟨[0,4,5],[.loc 4,.out 0],[],[]⟩ .l (.s .l (.s .l (.j ⟨[0,5],[],[],[.rt (.out 0) sh0 (.st .Reader)]⟩ .l (.s .l (.j ⟨[0],[.out 0],[],[.sl 136 .bo]⟩ .l (.c .l .l))))))))))))))))
abbrev t_yCode:CTt:=[(13,C_Of),(15,C_yOp),(40,C_yBetween_yCode),(68,C_yMust_yCode),(102,C_yName),(103,(selT 76 C_yArgs_yCode C_yArgs)),(104,C_yMore_yCode),(105,C_yBlock_yCode)]
theorem walk_yCode (a0_r:Lt.Reader) (a1_l:List (List UInt8)) (KK:((Unit)×Lt.Reader)->Prop) (KP:Value->Lt.Reader->Prop):F_yCode a0_r a1_l KK KP=bodyPXT ⟨Tryd.prog,eU,t_yCode,eS,noP⟩ Tryd.f67 an_yCode sh0 (.st .Reader) [(.sl .s)] [] a0_r a1_l KK KP:=by kernel_rfl
theorem c_yCode:Cont Tryd.prog 67 C_yCode:=k5 ⟨Tryd.prog,eU,t_yCode,eS,noP⟩ (En.okc c_Of (En.okc c_yOp (En.okc (Cont_inl (En.okc (Cont_inl (En.okc c_yRefuse En.ok0) mixed (fn:=Tryd.f68) (by kernel_rfl) (by kernel_rfl) (by kernel_rfl) (by kernel_rfl) (by kernel_rfl)) (En.okc c_yHas En.ok0)) mixed (fn:=Tryd.f40) (by kernel_rfl) (by kernel_rfl) (by kernel_rfl) (by kernel_rfl) (by kernel_rfl)) (En.okc (Cont_inl (En.okc c_yRefuse En.ok0) mixed (fn:=Tryd.f68) (by kernel_rfl) (by kernel_rfl) (by kernel_rfl) (by kernel_rfl) (by kernel_rfl)) (En.okc c_yName (En.okc (Cont_sel (Cont_inl (En.okc c_yArg En.ok0) mixed (fn:=Tryd.f103) (by kernel_rfl) (by kernel_rfl) (by kernel_rfl) (by kernel_rfl) (by kernel_rfl)) c_yArgs) (En.okc (Cont_inl (En.okc (Cont_inl (En.okc c_yRefuse En.ok0) mixed (fn:=Tryd.f123) (by kernel_rfl) (by kernel_rfl) (by kernel_rfl) (by kernel_rfl) (by kernel_rfl)) En.ok0) mixed (fn:=Tryd.f104) (by kernel_rfl) (by kernel_rfl) (by kernel_rfl) (by kernel_rfl) (by kernel_rfl)) (En.okc (Cont_inl (En.okc (Cont_inl En.ok0 mixed (fn:=Tryd.f126) (by kernel_rfl) (by kernel_rfl) (by kernel_rfl) (by kernel_rfl) (by kernel_rfl)) En.ok0) mixed (fn:=Tryd.f105) (by kernel_rfl) (by kernel_rfl) (by kernel_rfl) (by kernel_rfl) (by kernel_rfl)) En.ok0)))))))) mixed (fn:=Tryd.f67) an_yCode (by kernel_rfl) (by kernel_rfl) (fun a0_r a1_l hp KK KP h=>Eq.mp (walk_yCode a0_r a1_l KK KP) (law_yCode a0_r a1_l hp KK KP h))
def C_ySsa:CKt:=ptrXT sh0 (.st .Reader) [(.sl .s)] [] (fun x y=>Lt.preReader x y) (fun x y=>Lt.ySsa x y)
def an_yMust_ySsa:An:=.s .l (.c .l .l)
def C_yMust_ySsa:CKt:=inlT ⟨Tryd.prog,eU,[(106,C_yRefuse)],eS,noP⟩ Tryd.f68 an_yMust_ySsa
def an_ySsa:An:=.j ⟨[0],[.out 0],[],[]⟩ .l .l
abbrev t_ySsa:CTt:=[(68,C_yMust_ySsa)]
theorem walk_ySsa (a0_r:Lt.Reader) (a1_l:List (List UInt8)) (KK:((Unit)×Lt.Reader)->Prop) (KP:Value->Lt.Reader->Prop):F_ySsa a0_r a1_l KK KP=bodyPXT ⟨Tryd.prog,eU,t_ySsa,eS,noP⟩ Tryd.f89 an_ySsa sh0 (.st .Reader) [(.sl .s)] [] a0_r a1_l KK KP:=by kernel_rfl
theorem c_ySsa:Cont Tryd.prog 89 C_ySsa:=k5 ⟨Tryd.prog,eU,t_ySsa,eS,noP⟩ (En.okc (Cont_inl (En.okc c_yRefuse En.ok0) mixed (fn:=Tryd.f68) (by kernel_rfl) (by kernel_rfl) (by kernel_rfl) (by kernel_rfl) (by kernel_rfl)) En.ok0) mixed (fn:=Tryd.f89) an_ySsa (by kernel_rfl) (by kernel_rfl) (fun a0_r a1_l hp KK KP h=>Eq.mp (walk_ySsa a0_r a1_l KK KP) (law_ySsa a0_r a1_l hp KK KP h))
def C_yClass:CKt:=ptrXT sh0 (.st .Reader) [(.sl .s)] [] (fun x y=>Lt.preReader x y) (fun x y=>Lt.yClass x y)
def an_yMust_yBetween_yClass:An:=.s .l (.c .l .l)
def C_yMust_yBetween_yClass:CKt:=inlT ⟨Tryd.prog,eU,[(106,C_yRefuse)],eS,noP⟩ Tryd.f68 an_yMust_yBetween_yClass
def an_yBetween_yClass:An:=.l
def C_yBetween_yClass:CKt:=inlT ⟨Tryd.prog,eU,[(68,C_yMust_yBetween_yClass),(69,C_yHas)],eS,noP⟩ Tryd.f40 an_yBetween_yClass
def an_yMust_yClass:An:=.s .l (.c .l .l)
def C_yMust_yClass:CKt:=inlT ⟨Tryd.prog,eU,[(106,C_yRefuse)],eS,noP⟩ Tryd.f68 an_yMust_yClass
def an_yWithin_yClass:An:=.s .l (.c .l .l)
def C_yWithin_yClass:CKt:=inlT ⟨Tryd.prog,eU,[(106,C_yRefuse)],eS,noP⟩ Tryd.f123 an_yWithin_yClass
def an_yClass:An:=.s .l (.s .l (.s .l (.s .l (.j ⟨[0],[],[],[.rt (.out 0) sh0 (.st .Reader)]⟩ .l .l))))
abbrev t_yClass:CTt:=[(40,C_yBetween_yClass),(68,C_yMust_yClass),(102,C_yName),(123,C_yWithin_yClass)]
theorem walk_yClass (a0_r:Lt.Reader) (a1_l:List (List UInt8)) (KK:((Unit)×Lt.Reader)->Prop) (KP:Value->Lt.Reader->Prop):F_yClass a0_r a1_l KK KP=bodyPXT ⟨Tryd.prog,eU,t_yClass,eS,noP⟩ Tryd.f90 an_yClass sh0 (.st .Reader) [(.sl .s)] [] a0_r a1_l KK KP:=by kernel_rfl
theorem c_yClass:Cont Tryd.prog 90 C_yClass:=k5 ⟨Tryd.prog,eU,t_yClass,eS,noP⟩ (En.okc (Cont_inl (En.okc (Cont_inl (En.okc c_yRefuse En.ok0) mixed (fn:=Tryd.f68) (by kernel_rfl) (by kernel_rfl) (by kernel_rfl) (by kernel_rfl) (by kernel_rfl)) (En.okc c_yHas En.ok0)) mixed (fn:=Tryd.f40) (by kernel_rfl) (by kernel_rfl) (by kernel_rfl) (by kernel_rfl) (by kernel_rfl)) (En.okc (Cont_inl (En.okc c_yRefuse En.ok0) mixed (fn:=Tryd.f68) (by kernel_rfl) (by kernel_rfl) (by kernel_rfl) (by kernel_rfl) (by kernel_rfl)) (En.okc c_yName (En.okc (Cont_inl (En.okc c_yRefuse En.ok0) mixed (fn:=Tryd.f123) (by kernel_rfl) (by kernel_rfl) (by kernel_rfl) (by kernel_rfl) (by kernel_rfl)) En.ok0)))) mixed (fn:=Tryd.f90) an_yClass (by kernel_rfl) (by kernel_rfl) (fun a0_r a1_l hp KK KP h=>Eq.mp (walk_yClass a0_r a1_l KK KP) (law_yClass a0_r a1_l hp KK KP h))
def C_yKind:CKt:=pureXT [.s] [.s] (fun x=>True) (fun x=>Lt.yKind x)
def an_yMust_yKind:An:=.s .l (.c .l .l)
def C_yMust_yKind:CKt:=inlT ⟨Tryd.prog,eU,[(106,C_yRefuse)],[],noP⟩ Tryd.f68 an_yMust_yKind
def an_yKind:An:=.s .l (.j ⟨[0],[],[],[]⟩ .l (.s .l .l))
abbrev t_yKind:CTt:=[(35,C_Name),(68,C_yMust_yKind)]
theorem walk_yKind (a0_w:List UInt8) (KK:(List UInt8)->Prop) (KP:Value->Prop):F_yKind a0_w KK KP=bodyXT ⟨Tryd.prog,eU,t_yKind,[],noP⟩ Tryd.f124 an_yKind [.s] [.s] a0_w KK KP:=by kernel_rfl
theorem c_yKind:Cont Tryd.prog 124 C_yKind:=k4 ⟨Tryd.prog,eU,t_yKind,[],noP⟩ (En.okc c_Name (En.okc (Cont_inl (En.okc c_yRefuse En.ok0) mixed (fn:=Tryd.f68) (by kernel_rfl) (by kernel_rfl) (by kernel_rfl) (by kernel_rfl) (by kernel_rfl)) En.ok0)) mixed (fn:=Tryd.f124) an_yKind (by kernel_rfl) (by kernel_rfl) (fun a0_w hp KK KP h=>Eq.mp (walk_yKind a0_w KK KP) (law_yKind a0_w KK KP h))
def C_yField:CKt:=ptrXT sh0 (.st .Reader) [(.sl .s)] [] (fun x y=>Lt.preReader x y) (fun x y=>Lt.yField x y)
def an_yMust_yBetween_yField:An:=.s .l (.c .l .l)
def C_yMust_yBetween_yField:CKt:=inlT ⟨Tryd.prog,eU,[(106,C_yRefuse)],eS,noP⟩ Tryd.f68 an_yMust_yBetween_yField
def an_yBetween_yField:An:=.l
def C_yBetween_yField:CKt:=inlT ⟨Tryd.prog,eU,[(68,C_yMust_yBetween_yField),(69,C_yHas)],eS,noP⟩ Tryd.f40 an_yBetween_yField
def an_yMust_yField:An:=.s .l (.c .l .l)
def C_yMust_yField:CKt:=inlT ⟨Tryd.prog,eU,[(106,C_yRefuse)],eS,noP⟩ Tryd.f68 an_yMust_yField
def an_yWithin_yField:An:=.s .l (.c .l .l)
def C_yWithin_yField:CKt:=inlT ⟨Tryd.prog,eU,[(106,C_yRefuse)],eS,noP⟩ Tryd.f123 an_yWithin_yField
def an_yField:An:=.s .l (.s .l (.j ⟨[0],[.out 0],[(4,.loc 4,0)],[.rt (.loc 4) [.fr,.fr] (.st .Var)]⟩ .l (.s .l (.s .l .l))))
abbrev t_yField:CTt:=[(40,C_yBetween_yField),(68,C_yMust_yField),(102,C_yName),(123,C_yWithin_yField),(124,C_yKind)]
theorem walk_yField (a0_r:Lt.Reader) (a1_l:List (List UInt8)) (KK:((Unit)×Lt.Reader)->Prop) (KP:Value->Lt.Reader->Prop):F_yField a0_r a1_l KK KP=bodyPXT ⟨Tryd.prog,eU,t_yField,eS,noP⟩ Tryd.f91 an_yField sh0 (.st .Reader) [(.sl .s)] [] a0_r a1_l KK KP:=by kernel_rfl
theorem c_yField:Cont Tryd.prog 91 C_yField:=k5 ⟨Tryd.prog,eU,t_yField,eS,noP⟩ (En.okc (Cont_inl (En.okc (Cont_inl (En.okc c_yRefuse En.ok0) mixed (fn:=Tryd.f68) (by kernel_rfl) (by kernel_rfl) (by kernel_rfl) (by kernel_rfl) (by kernel_rfl)) (En.okc c_yHas En.ok0)) mixed (fn:=Tryd.f40) (by kernel_rfl) (by kernel_rfl) (by kernel_rfl) (by kernel_rfl) (by kernel_rfl)) (En.okc (Cont_inl (En.okc c_yRefuse En.ok0) mixed (fn:=Tryd.f68) (by kernel_rfl) (by kernel_rfl) (by kernel_rfl) (by kernel_rfl) (by kernel_rfl)) (En.okc c_yName (En.okc (Cont_inl (En.okc c_yRefuse En.ok0) mixed (fn:=Tryd.f123) (by kernel_rfl) (by kernel_rfl) (by kernel_rfl) (by kernel_rfl) (by kernel_rfl)) (En.okc c_yKind En.ok0))))) mixed (fn:=Tryd.f91) an_yField (by kernel_rfl) (by kernel_rfl) (fun a0_r a1_l hp KK KP h=>Eq.mp (walk_yField a0_r a1_l KK KP) (law_yField a0_r a1_l hp KK KP h))
def C_yGlobal:CKt:=ptrXT sh0 (.st .Reader) [(.sl .s)] [] (fun x y=>Lt.preReader x y) (fun x y=>Lt.yGlobal x y)
def an_yMust_yBetween_yGlobal:An:=.s .l (.c .l .l)
def C_yMust_yBetween_yGlobal:CKt:=inlT ⟨Tryd.prog,eU,[(106,C_yRefuse)],eS,noP⟩ Tryd.f68 an_yMust_yBetween_yGlobal
def an_yBetween_yGlobal:An:=.l
def C_yBetween_yGlobal:CKt:=inlT ⟨Tryd.prog,eU,[(68,C_yMust_yBetween_yGlobal),(69,C_yHas)],eS,noP⟩ Tryd.f40 an_yBetween_yGlobal
def an_yMust_yGlobal:An:=.s .l (.c .l .l)
def C_yMust_yGlobal:CKt:=inlT ⟨Tryd.prog,eU,[(106,C_yRefuse)],eS,noP⟩ Tryd.f68 an_yMust_yGlobal
def an_yWithin_yGlobal:An:=.s .l (.c .l .l)
def C_yWithin_yGlobal:CKt:=inlT ⟨Tryd.prog,eU,[(106,C_yRefuse)],eS,noP⟩ Tryd.f123 an_yWithin_yGlobal
def an_yGlobal:An:=.s .l (.s .l (.j ⟨[0],[.out 0],[(4,.loc 4,0)],[.rt (.loc 4) [.fr,.fr] (.st .Var)]⟩ .l (.s .l (.j ⟨[0],[],[],[.rt (.out 0) sh0 (.st .Reader)]⟩ .l .l))))
abbrev t_yGlobal:CTt:=[(40,C_yBetween_yGlobal),(68,C_yMust_yGlobal),(102,C_yName),(123,C_yWithin_yGlobal),(124,C_yKind)]
theorem walk_yGlobal (a0_r:Lt.Reader) (a1_l:List (List UInt8)) (KK:((Unit)×Lt.Reader)->Prop) (KP:Value->Lt.Reader->Prop):F_yGlobal a0_r a1_l KK KP=bodyPXT ⟨Tryd.prog,eU,t_yGlobal,eS,noP⟩ Tryd.f92 an_yGlobal sh0 (.st .Reader) [(.sl .s)] [] a0_r a1_l KK KP:=by kernel_rfl
theorem c_yGlobal:Cont Tryd.prog 92 C_yGlobal:=k5 ⟨Tryd.prog,eU,t_yGlobal,eS,noP⟩ (En.okc (Cont_inl (En.okc (Cont_inl (En.okc c_yRefuse En.ok0) mixed (fn:=Tryd.f68) (by kernel_rfl) (by kernel_rfl) (by kernel_rfl) (by kernel_rfl) (by kernel_rfl)) (En.okc c_yHas En.ok0)) mixed (fn:=Tryd.f40) (by kernel_rfl) (by kernel_rfl) (by kernel_rfl) (by kernel_rfl) (by kernel_rfl)) (En.okc (Cont_inl (En.okc c_yRefuse En.ok0) mixed (fn:=Tryd.f68) (by kernel_rfl) (by kernel_rfl) (by kernel_rfl) (by kernel_rfl) (by kernel_rfl)) (En.okc c_yName (En.okc (Cont_inl (En.okc c_yRefuse En.ok0) mixed (fn:=Tryd.f123) (by kernel_rfl) (by kernel_rfl) (by kernel_rfl) (by kernel_rfl) (by kernel_rfl)) (En.okc c_yKind En.ok0))))) mixed (fn:=Tryd.f92) an_yGlobal (by kernel_rfl) (by kernel_rfl) (fun a0_r a1_l hp KK KP h=>Eq.mp (walk_yGlobal a0_r a1_l KK KP) (law_yGlobal a0_r a1_l hp KK KP h))
def C_yNumber:CKt:=pureXT [.s,(.i .i64),(.i .i64)] [(.i .i64)] (fun x=>True) (fun x=>Lt.yNumber x.1 x.2.1 x.2.2)
def an_yMust_yNumber:An:=.s .l (.c .l .l)
def C_yMust_yNumber:CKt:=inlT ⟨Tryd.prog,eU,[(106,C_yRefuse)],[],noP⟩ Tryd.f68 an_yMust_yNumber
def an_yNumber:An:=.s .l (.s .l (.j ⟨[7],[],[],[]⟩ .l (.s .l .l)))
abbrev t_yNumber:CTt:=[(68,C_yMust_yNumber),(130,C_numGet)]
theorem walk_yNumber (a0_w:List UInt8) (a1_least:Int) (a2_most:Int) (KK:Int->Prop) (KP:Value->Prop):F_yNumber a0_w a1_least a2_most KK KP=bodyXT ⟨Tryd.prog,eU,t_yNumber,[],noP⟩ Tryd.f125 an_yNumber [.s,(.i .i64),(.i .i64)] [(.i .i64)] (a0_w,a1_least,a2_most) KK KP:=by kernel_rfl
theorem c_yNumber:Cont Tryd.prog 125 C_yNumber:=k4 ⟨Tryd.prog,eU,t_yNumber,[],noP⟩ (En.okc (Cont_inl (En.okc c_yRefuse En.ok0) mixed (fn:=Tryd.f68) (by kernel_rfl) (by kernel_rfl) (by kernel_rfl) (by kernel_rfl) (by kernel_rfl)) (En.okc c_numGet En.ok0)) mixed (fn:=Tryd.f125) an_yNumber (by kernel_rfl) (by kernel_rfl) (fun (a0_w,a1_least,a2_most) hp KK KP h=>Eq.mp (walk_yNumber a0_w a1_least a2_most KK KP) (law_yNumber a0_w a1_least a2_most KK KP h))
def C_yExtern:CKt:=ptrXT sh0 (.st .Reader) [(.sl .s)] [] (fun x y=>Lt.preReader x y) (fun x y=>Lt.yExtern x y)
def an_yMust_yBetween_yExtern:An:=.s .l (.c .l .l)
def C_yMust_yBetween_yExtern:CKt:=inlT ⟨Tryd.prog,eU,[(106,C_yRefuse)],eS,noP⟩ Tryd.f68 an_yMust_yBetween_yExtern
def an_yBetween_yExtern:An:=.l
def C_yBetween_yExtern:CKt:=inlT ⟨Tryd.prog,eU,[(68,C_yMust_yBetween_yExtern),(69,C_yHas)],eS,noP⟩ Tryd.f40 an_yBetween_yExtern
def an_yMust_yExtern:An:=.s .l (.c .l .l)
def C_yMust_yExtern:CKt:=inlT ⟨Tryd.prog,eU,[(106,C_yRefuse)],eS,noP⟩ Tryd.f68 an_yMust_yExtern
def an_yWithin_yExtern:An:=.s .l (.c .l .l)
def C_yWithin_yExtern:CKt:=inlT ⟨Tryd.prog,eU,[(106,C_yRefuse)],eS,noP⟩ Tryd.f123 an_yWithin_yExtern
def an_yExtern:An:=.s .l (.s .l (.j ⟨[0],[.out 0],[(4,.loc 4,0)],[.rt (.loc 4) [.fr,.fr] (.st .Extern)]⟩ .l (.s .l (.j ⟨[0],[],[],[.rt (.out 0) sh0 (.st .Reader)]⟩ .l .l))))
abbrev t_yExtern:CTt:=[(40,C_yBetween_yExtern),(68,C_yMust_yExtern),(102,C_yName),(123,C_yWithin_yExtern),(125,C_yNumber)]
theorem walk_yExtern (a0_r:Lt.Reader) (a1_l:List (List UInt8)) (KK:((Unit)×Lt.Reader)->Prop) (KP:Value->Lt.Reader->Prop):F_yExtern a0_r a1_l KK KP=bodyPXT ⟨Tryd.prog,eU,t_yExtern,eS,noP⟩ Tryd.f93 an_yExtern sh0 (.st .Reader) [(.sl .s)] [] a0_r a1_l KK KP:=by kernel_rfl
theorem c_yExtern:Cont Tryd.prog 93 C_yExtern:=k5 ⟨Tryd.prog,eU,t_yExtern,eS,noP⟩ (En.okc (Cont_inl (En.okc (Cont_inl (En.okc c_yRefuse En.ok0) mixed (fn:=Tryd.f68) (by kernel_rfl) (by kernel_rfl) (by kernel_rfl) (by kernel_rfl) (by kernel_rfl)) (En.okc c_yHas En.ok0)) mixed (fn:=Tryd.f40) (by kernel_rfl) (by kernel_rfl) (by kernel_rfl) (by kernel_rfl) (by kernel_rfl)) (En.okc (Cont_inl (En.okc c_yRefuse En.ok0) mixed (fn:=Tryd.f68) (by kernel_rfl) (by kernel_rfl) (by kernel_rfl) (by kernel_rfl) (by kernel_rfl)) (En.okc c_yName (En.okc (Cont_inl (En.okc c_yRefuse En.ok0) mixed (fn:=Tryd.f123) (by kernel_rfl) (by kernel_rfl) (by kernel_rfl) (by kernel_rfl) (by kernel_rfl)) (En.okc c_yNumber En.ok0))))) mixed (fn:=Tryd.f93) an_yExtern (by kernel_rfl) (by kernel_rfl) (fun a0_r a1_l hp KK KP h=>Eq.mp (walk_yExtern a0_r a1_l KK KP) (law_yExtern a0_r a1_l hp KK KP h))
def C_yFunction:CKt:=ptrXT sh0 (.st .Reader) [(.sl .s)] [] (fun x y=>Lt.preReader x y) (fun x y=>Lt.yFunction x y)
def an_yMust_yBetween_yFunction:An:=.s .l (.c .l .l)
def C_yMust_yBetween_yFunction:CKt:=inlT ⟨Tryd.prog,eU,[(106,C_yRefuse)],eS,noP⟩ Tryd.f68 an_yMust_yBetween_yFunction
def an_yBetween_yFunction:An:=.l
def C_yBetween_yFunction:CKt:=inlT ⟨Tryd.prog,eU,[(68,C_yMust_yBetween_yFunction),(69,C_yHas)],eS,noP⟩ Tryd.f40 an_yBetween_yFunction
def an_yMust_yFunction:An:=.s .l (.c .l .l)
def C_yMust_yFunction:CKt:=inlT ⟨Tryd.prog,eU,[(106,C_yRefuse)],eS,noP⟩ Tryd.f68 an_yMust_yFunction
def an_yWithin_yFunction:An:=.s .l (.c .l .l)
def C_yWithin_yFunction:CKt:=inlT ⟨Tryd.prog,eU,[(106,C_yRefuse)],eS,noP⟩ Tryd.f123 an_yWithin_yFunction
def an_yFunction:An:=.s .l (.s .l (.j ⟨[0],[.out 0],[(4,.loc 4,0)],[.rt (.loc 4) [.fr,.fr,.ow [],.ow [],.ow []] (.st .Func)]⟩ .l (.s .l (.j ⟨[0],[],[],[.rt (.out 0) sh0 (.st .Reader)]⟩ .l .l))))
abbrev t_yFunction:CTt:=[(40,C_yBetween_yFunction),(68,C_yMust_yFunction),(102,C_yName),(123,C_yWithin_yFunction),(124,C_yKind)]
theorem walk_yFunction (a0_r:Lt.Reader) (a1_l:List (List UInt8)) (KK:((Unit)×Lt.Reader)->Prop) (KP:Value->Lt.Reader->Prop):F_yFunction a0_r a1_l KK KP=bodyPXT ⟨Tryd.prog,eU,t_yFunction,eS,noP⟩ Tryd.f94 an_yFunction sh0 (.st .Reader) [(.sl .s)] [] a0_r a1_l KK KP:=by kernel_rfl
theorem c_yFunction:Cont Tryd.prog 94 C_yFunction:=k5 ⟨Tryd.prog,eU,t_yFunction,eS,noP⟩ (En.okc (Cont_inl (En.okc (Cont_inl (En.okc c_yRefuse En.ok0) mixed (fn:=Tryd.f68) (by kernel_rfl) (by kernel_rfl) (by kernel_rfl) (by kernel_rfl) (by kernel_rfl)) (En.okc c_yHas En.ok0)) mixed (fn:=Tryd.f40) (by kernel_rfl) (by kernel_rfl) (by kernel_rfl) (by kernel_rfl) (by kernel_rfl)) (En.okc (Cont_inl (En.okc c_yRefuse En.ok0) mixed (fn:=Tryd.f68) (by kernel_rfl) (by kernel_rfl) (by kernel_rfl) (by kernel_rfl) (by kernel_rfl)) (En.okc c_yName (En.okc (Cont_inl (En.okc c_yRefuse En.ok0) mixed (fn:=Tryd.f123) (by kernel_rfl) (by kernel_rfl) (by kernel_rfl) (by kernel_rfl) (by kernel_rfl)) (En.okc c_yKind En.ok0))))) mixed (fn:=Tryd.f94) an_yFunction (by kernel_rfl) (by kernel_rfl) (fun a0_r a1_l hp KK KP h=>Eq.mp (walk_yFunction a0_r a1_l KK KP) (law_yFunction a0_r a1_l hp KK KP h))
def C_yParam:CKt:=ptrXT sh0 (.st .Reader) [(.sl .s)] [] (fun x y=>Lt.preReader x y) (fun x y=>Lt.yParam x y)
def an_yMust_yBetween_yParam:An:=.s .l (.c .l .l)
def C_yMust_yBetween_yParam:CKt:=inlT ⟨Tryd.prog,eU,[(106,C_yRefuse)],eS,noP⟩ Tryd.f68 an_yMust_yBetween_yParam
def an_yBetween_yParam:An:=.l
def C_yBetween_yParam:CKt:=inlT ⟨Tryd.prog,eU,[(68,C_yMust_yBetween_yParam),(69,C_yHas)],eS,noP⟩ Tryd.f40 an_yBetween_yParam
def an_yMust_yParam:An:=.s .l (.c .l .l)
def C_yMust_yParam:CKt:=inlT ⟨Tryd.prog,eU,[(106,C_yRefuse)],eS,noP⟩ Tryd.f68 an_yMust_yParam
def an_yWithin_yParam:An:=.s .l (.c .l .l)
def C_yWithin_yParam:CKt:=inlT ⟨Tryd.prog,eU,[(106,C_yRefuse)],eS,noP⟩ Tryd.f123 an_yWithin_yParam
def an_yFun_yParam:An:=.s .l (.s .l .l)
def C_yFun_yParam:CKt:=inlT ⟨Tryd.prog,eU,[],eS,noP⟩ Tryd.f126 an_yFun_yParam
def an_yParam:An:=.s .l (.s .l (.j ⟨[0],[.out 0],[(4,.loc 4,0)],[.rt (.loc 4) [.fr,.fr] (.st .Var)]⟩ .l (.s .l (.s .l .l))))
abbrev t_yParam:CTt:=[(40,C_yBetween_yParam),(68,C_yMust_yParam),(102,C_yName),(123,C_yWithin_yParam),(124,C_yKind),(126,C_yFun_yParam)]
theorem walk_yParam (a0_r:Lt.Reader) (a1_l:List (List UInt8)) (KK:((Unit)×Lt.Reader)->Prop) (KP:Value->Lt.Reader->Prop):F_yParam a0_r a1_l KK KP=bodyPXT ⟨Tryd.prog,eU,t_yParam,eS,noP⟩ Tryd.f95 an_yParam sh0 (.st .Reader) [(.sl .s)] [] a0_r a1_l KK KP:=by kernel_rfl
theorem c_yParam:Cont Tryd.prog 95 C_yParam:=k5 ⟨Tryd.prog,eU,t_yParam,eS,noP⟩ (En.okc (Cont_inl (En.okc (Cont_inl (En.okc c_yRefuse En.ok0) mixed (fn:=Tryd.f68) (by kernel_rfl) (by kernel_rfl) (by kernel_rfl) (by kernel_rfl) (by kernel_rfl)) (En.okc c_yHas En.ok0)) mixed (fn:=Tryd.f40) (by kernel_rfl) (by kernel_rfl) (by kernel_rfl) (by kernel_rfl) (by kernel_rfl)) (En.okc (Cont_inl (En.okc c_yRefuse En.ok0) mixed (fn:=Tryd.f68) (by kernel_rfl) (by kernel_rfl) (by kernel_rfl) (by kernel_rfl) (by kernel_rfl)) (En.okc c_yName (En.okc (Cont_inl (En.okc c_yRefuse En.ok0) mixed (fn:=Tryd.f123) (by kernel_rfl) (by kernel_rfl) (by kernel_rfl) (by kernel_rfl) (by kernel_rfl)) (En.okc c_yKind (En.okc (Cont_inl En.ok0 mixed (fn:=Tryd.f126) (by kernel_rfl) (by kernel_rfl) (by kernel_rfl) (by kernel_rfl) (by kernel_rfl)) En.ok0)))))) mixed (fn:=Tryd.f95) an_yParam (by kernel_rfl) (by kernel_rfl) (fun a0_r a1_l hp KK KP h=>Eq.mp (walk_yParam a0_r a1_l KK KP) (law_yParam a0_r a1_l hp KK KP h))
def C_yVariable:CKt:=ptrXT sh0 (.st .Reader) [(.sl .s)] [] (fun x y=>Lt.preReader x y) (fun x y=>Lt.yVariable x y)
def an_yMust_yBetween_yVariable:An:=.s .l (.c .l .l)
def C_yMust_yBetween_yVariable:CKt:=inlT ⟨Tryd.prog,eU,[(106,C_yRefuse)],eS,noP⟩ Tryd.f68 an_yMust_yBetween_yVariable
def an_yBetween_yVariable:An:=.l
def C_yBetween_yVariable:CKt:=inlT ⟨Tryd.prog,eU,[(68,C_yMust_yBetween_yVariable),(69,C_yHas)],eS,noP⟩ Tryd.f40 an_yBetween_yVariable
def an_yMust_yVariable:An:=.s .l (.c .l .l)
def C_yMust_yVariable:CKt:=inlT ⟨Tryd.prog,eU,[(106,C_yRefuse)],eS,noP⟩ Tryd.f68 an_yMust_yVariable
def an_yWithin_yVariable:An:=.s .l (.c .l .l)
def C_yWithin_yVariable:CKt:=inlT ⟨Tryd.prog,eU,[(106,C_yRefuse)],eS,noP⟩ Tryd.f123 an_yWithin_yVariable
def an_yFun_yVariable:An:=.s .l (.s .l .l)
def C_yFun_yVariable:CKt:=inlT ⟨Tryd.prog,eU,[],eS,noP⟩ Tryd.f126 an_yFun_yVariable
def an_yVariable:An:=.s .l (.s .l (.j ⟨[0],[.out 0],[(4,.loc 4,0)],[.rt (.loc 4) [.fr,.fr] (.st .Var)]⟩ .l (.s .l (.s .l (.j ⟨[0],[],[],[.rt (.out 0) sh0 (.st .Reader)]⟩ .l .l)))))
abbrev t_yVariable:CTt:=[(40,C_yBetween_yVariable),(68,C_yMust_yVariable),(102,C_yName),(123,C_yWithin_yVariable),(124,C_yKind),(126,C_yFun_yVariable)]
theorem walk_yVariable (a0_r:Lt.Reader) (a1_l:List (List UInt8)) (KK:((Unit)×Lt.Reader)->Prop) (KP:Value->Lt.Reader->Prop):F_yVariable a0_r a1_l KK KP=bodyPXT ⟨Tryd.prog,eU,t_yVariable,eS,noP⟩ Tryd.f96 an_yVariable sh0 (.st .Reader) [(.sl .s)] [] a0_r a1_l KK KP:=by kernel_rfl
theorem c_yVariable:Cont Tryd.prog 96 C_yVariable:=k5 ⟨Tryd.prog,eU,t_yVariable,eS,noP⟩ (En.okc (Cont_inl (En.okc (Cont_inl (En.okc c_yRefuse En.ok0) mixed (fn:=Tryd.f68) (by kernel_rfl) (by kernel_rfl) (by kernel_rfl) (by kernel_rfl) (by kernel_rfl)) (En.okc c_yHas En.ok0)) mixed (fn:=Tryd.f40) (by kernel_rfl) (by kernel_rfl) (by kernel_rfl) (by kernel_rfl) (by kernel_rfl)) (En.okc (Cont_inl (En.okc c_yRefuse En.ok0) mixed (fn:=Tryd.f68) (by kernel_rfl) (by kernel_rfl) (by kernel_rfl) (by kernel_rfl) (by kernel_rfl)) (En.okc c_yName (En.okc (Cont_inl (En.okc c_yRefuse En.ok0) mixed (fn:=Tryd.f123) (by kernel_rfl) (by kernel_rfl) (by kernel_rfl) (by kernel_rfl) (by kernel_rfl)) (En.okc c_yKind (En.okc (Cont_inl En.ok0 mixed (fn:=Tryd.f126) (by kernel_rfl) (by kernel_rfl) (by kernel_rfl) (by kernel_rfl) (by kernel_rfl)) En.ok0)))))) mixed (fn:=Tryd.f96) an_yVariable (by kernel_rfl) (by kernel_rfl) (fun a0_r a1_l hp KK KP h=>Eq.mp (walk_yVariable a0_r a1_l KK KP) (law_yVariable a0_r a1_l hp KK KP h))
def C_yStart:CKt:=ptrXT sh0 (.st .Reader) [(.sl .s)] [] (fun x y=>Lt.preReader x y) (fun x y=>Lt.yStart x y)
def an_yMust_yStart:An:=.s .l (.c .l .l)
def C_yMust_yStart:CKt:=inlT ⟨Tryd.prog,eU,[(106,C_yRefuse)],eS,noP⟩ Tryd.f68 an_yMust_yStart
def an_yWithin_yStart:An:=.s .l (.c .l .l)
def C_yWithin_yStart:CKt:=inlT ⟨Tryd.prog,eU,[(106,C_yRefuse)],eS,noP⟩ Tryd.f123 an_yWithin_yStart
def an_yFun_yStart:An:=.s .l (.s .l .l)
def C_yFun_yStart:CKt:=inlT ⟨Tryd.prog,eU,[],eS,noP⟩ Tryd.f126 an_yFun_yStart
def an_yOpen_yStart:An:=.s .l (.s .l .l)
def C_yOpen_yStart:CKt:=inlT ⟨Tryd.prog,eU,[],eS,noP⟩ Tryd.f127 an_yOpen_yStart
def an_yStart:An:=.j ⟨[0,1],[.out 0],[],[]⟩ .l (.s .l (.s .l (.s .l (.s .l (.j ⟨[0],[],[],[.rt (.out 0) sh0 (.st .Reader)]⟩ .l .l)))))
abbrev t_yStart:CTt:=[(68,C_yMust_yStart),(102,C_yName),(123,C_yWithin_yStart),(126,C_yFun_yStart),(127,C_yOpen_yStart)]
theorem walk_yStart (a0_r:Lt.Reader) (a1_l:List (List UInt8)) (KK:((Unit)×Lt.Reader)->Prop) (KP:Value->Lt.Reader->Prop):F_yStart a0_r a1_l KK KP=bodyPXT ⟨Tryd.prog,eU,t_yStart,eS,noP⟩ Tryd.f97 an_yStart sh0 (.st .Reader) [(.sl .s)] [] a0_r a1_l KK KP:=by kernel_rfl
theorem c_yStart:Cont Tryd.prog 97 C_yStart:=k5 ⟨Tryd.prog,eU,t_yStart,eS,noP⟩ (En.okc (Cont_inl (En.okc c_yRefuse En.ok0) mixed (fn:=Tryd.f68) (by kernel_rfl) (by kernel_rfl) (by kernel_rfl) (by kernel_rfl) (by kernel_rfl)) (En.okc c_yName (En.okc (Cont_inl (En.okc c_yRefuse En.ok0) mixed (fn:=Tryd.f123) (by kernel_rfl) (by kernel_rfl) (by kernel_rfl) (by kernel_rfl) (by kernel_rfl)) (En.okc (Cont_inl En.ok0 mixed (fn:=Tryd.f126) (by kernel_rfl) (by kernel_rfl) (by kernel_rfl) (by kernel_rfl) (by kernel_rfl)) (En.okc (Cont_inl En.ok0 mixed (fn:=Tryd.f127) (by kernel_rfl) (by kernel_rfl) (by kernel_rfl) (by kernel_rfl) (by kernel_rfl)) En.ok0))))) mixed (fn:=Tryd.f97) an_yStart (by kernel_rfl) (by kernel_rfl) (fun a0_r a1_l hp KK KP h=>Eq.mp (walk_yStart a0_r a1_l KK KP) (law_yStart a0_r a1_l hp KK KP h))
def C_yPhi:CKt:=ptrXT sh0 (.st .Reader) [(.sl .s)] [] (fun x y=>Lt.preReader x y) (fun x y=>Lt.yPhi x y)
def an_yMust_yBetween_yPhi:An:=.s .l (.c .l .l)
def C_yMust_yBetween_yPhi:CKt:=inlT ⟨Tryd.prog,eU,[(106,C_yRefuse)],eS,noP⟩ Tryd.f68 an_yMust_yBetween_yPhi
def an_yBetween_yPhi:An:=.l
def C_yBetween_yPhi:CKt:=inlT ⟨Tryd.prog,eU,[(68,C_yMust_yBetween_yPhi),(69,C_yHas)],eS,noP⟩ Tryd.f40 an_yBetween_yPhi
def an_yMust_yPhi:An:=.s .l (.c .l .l)
def C_yMust_yPhi:CKt:=inlT ⟨Tryd.prog,eU,[(106,C_yRefuse)],eS,noP⟩ Tryd.f68 an_yMust_yPhi
def an_yWithin_yMore_yPhi:An:=.s .l (.c .l .l)
def C_yWithin_yMore_yPhi:CKt:=inlT ⟨Tryd.prog,eU,[(106,C_yRefuse)],eS,noP⟩ Tryd.f123 an_yWithin_yMore_yPhi
def an_yMore_yPhi:An:=.s .l .l
def C_yMore_yPhi:CKt:=inlT ⟨Tryd.prog,eU,[(123,C_yWithin_yMore_yPhi)],eS,noP⟩ Tryd.f104 an_yMore_yPhi
def an_yFun_yBlock_yPhi:An:=.s .l (.s .l .l)
def C_yFun_yBlock_yPhi:CKt:=inlT ⟨Tryd.prog,eU,[],eS,noP⟩ Tryd.f126 an_yFun_yBlock_yPhi
def an_yBlock_yPhi:An:=.s .l (.s .l (.s .l .l))
def C_yBlock_yPhi:CKt:=inlT ⟨Tryd.prog,eU,[(126,C_yFun_yBlock_yPhi)],eS,noP⟩ Tryd.f105 an_yBlock_yPhi
def an_yWithin_yPhi:An:=.s .l (.c .l .l)
def C_yWithin_yPhi:CKt:=inlT ⟨Tryd.prog,eU,[(106,C_yRefuse)],eS,noP⟩ Tryd.f123 an_yWithin_yPhi
def an_yPhi:An:=.s .l (.j ⟨[0,1],[.out 0],[],[]⟩ .l (.s .l (.s (.s .l (.b (.lp ⟨[0,1,4],[.out 0],[],[.sl 5 (.i .i64),.rt (.loc 4) [.fr,.ow [.fr,.fr,.fr,.fr]] (.st .Phi)]⟩ (.s (.s .l (.c .l .l)) (.j ⟨[0,1,4,5],[.out 0],[],[.rt (.loc 4) [.fr,.ow [.fr,.fr,.fr,.fr]] (.st .Phi)]⟩ (.b .l) .l))))) (.s .l (.s .l (.s .l .l))))))
abbrev t_yPhi:CTt:=[(40,C_yBetween_yPhi),(68,C_yMust_yPhi),(102,C_yName),(104,C_yMore_yPhi),(105,C_yBlock_yPhi),(123,C_yWithin_yPhi),(128,C_yArg)]
theorem walk_yPhi (a0_r:Lt.Reader) (a1_l:List (List UInt8)) (KK:((Unit)×Lt.Reader)->Prop) (KP:Value->Lt.Reader->Prop):F_yPhi a0_r a1_l KK KP=bodyPXT ⟨Tryd.prog,eU,t_yPhi,eS,noP⟩ Tryd.f98 an_yPhi sh0 (.st .Reader) [(.sl .s)] [] a0_r a1_l KK KP:=by kernel_rfl
theorem c_yPhi:Cont Tryd.prog 98 C_yPhi:=k5 ⟨Tryd.prog,eU,t_yPhi,eS,noP⟩ (En.okc (Cont_inl (En.okc (Cont_inl (En.okc c_yRefuse En.ok0) mixed (fn:=Tryd.f68) (by kernel_rfl) (by kernel_rfl) (by kernel_rfl) (by kernel_rfl) (by kernel_rfl)) (En.okc c_yHas En.ok0)) mixed (fn:=Tryd.f40) (by kernel_rfl) (by kernel_rfl) (by kernel_rfl) (by kernel_rfl) (by kernel_rfl)) (En.okc (Cont_inl (En.okc c_yRefuse En.ok0) mixed (fn:=Tryd.f68) (by kernel_rfl) (by kernel_rfl) (by kernel_rfl) (by kernel_rfl) (by kernel_rfl)) (En.okc c_yName (En.okc (Cont_inl (En.okc (Cont_inl (En.okc c_yRefuse En.ok0) mixed (fn:=Tryd.f123) (by kernel_rfl) (by kernel_rfl) (by kernel_rfl) (by kernel_rfl) (by kernel_rfl)) En.ok0) mixed (fn:=Tryd.f104) (by kernel_rfl) (by kernel_rfl) (by kernel_rfl) (by kernel_rfl) (by kernel_rfl)) (En.okc (Cont_inl (En.okc (Cont_inl En.ok0 mixed (fn:=Tryd.f126) (by kernel_rfl) (by kernel_rfl) (by kernel_rfl) (by kernel_rfl) (by kernel_rfl)) En.ok0) mixed (fn:=Tryd.f105) (by kernel_rfl) (by kernel_rfl) (by kernel_rfl) (by kernel_rfl) (by kernel_rfl)) (En.okc (Cont_inl (En.okc c_yRefuse En.ok0) mixed (fn:=Tryd.f123) (by kernel_rfl) (by kernel_rfl) (by kernel_rfl) (by kernel_rfl) (by kernel_rfl)) (En.okc c_yArg En.ok0))))))) mixed (fn:=Tryd.f98) an_yPhi (by kernel_rfl) (by kernel_rfl) (fun a0_r a1_l hp KK KP h=>Eq.mp (walk_yPhi a0_r a1_l KK KP) (law_yPhi a0_r a1_l hp KK KP h))
def C_yFrame:CKt:=ptrXT sh0 (.st .Reader) [(.sl .s)] [] (fun x y=>Lt.preReader x y) (fun x y=>Lt.yFrame x y)
def an_yMust_yBetween_yFrame:An:=.s .l (.c .l .l)
def C_yMust_yBetween_yFrame:CKt:=inlT ⟨Tryd.prog,eU,[(106,C_yRefuse)],eS,noP⟩ Tryd.f68 an_yMust_yBetween_yFrame
def an_yBetween_yFrame:An:=.l
def C_yBetween_yFrame:CKt:=inlT ⟨Tryd.prog,eU,[(68,C_yMust_yBetween_yFrame),(69,C_yHas)],eS,noP⟩ Tryd.f40 an_yBetween_yFrame
def an_yMust_yFrame:An:=.s .l (.c .l .l)
def C_yMust_yFrame:CKt:=inlT ⟨Tryd.prog,eU,[(106,C_yRefuse)],eS,noP⟩ Tryd.f68 an_yMust_yFrame
def an_yWithin_yFrame:An:=.s .l (.c .l .l)
def C_yWithin_yFrame:CKt:=inlT ⟨Tryd.prog,eU,[(106,C_yRefuse)],eS,noP⟩ Tryd.f123 an_yWithin_yFrame
def an_yFun_yBlock_yLast_yFrame:An:=.s .l (.s .l .l)
def C_yFun_yBlock_yLast_yFrame:CKt:=inlT ⟨Tryd.prog,eU,[],eS,noP⟩ Tryd.f126 an_yFun_yBlock_yLast_yFrame
def an_yBlock_yLast_yFrame:An:=.s .l (.s .l (.s .l .l))
def C_yBlock_yLast_yFrame:CKt:=inlT ⟨Tryd.prog,eU,[(126,C_yFun_yBlock_yLast_yFrame)],eS,noP⟩ Tryd.f105 an_yBlock_yLast_yFrame
def an_yLast_yFrame:An:=.s .l (.s .l (.s .l .l))
def C_yLast_yFrame:CKt:=inlT ⟨Tryd.prog,eU,[(105,C_yBlock_yLast_yFrame)],eS,noP⟩ Tryd.f129 an_yLast_yFrame
def an_yFrame:An:=.s .l (.j ⟨[0,1],[.out 0],[],[]⟩ .l (.j ⟨[0,1],[.out 0],[(4,.loc 4,0)],[.rt (.loc 4) [.fr,.fr,.fr,.ow []] (.st .Frame)]⟩ .l (.s (.s .l (.b (.lp ⟨[0,1,4],[.out 0],[],[.sl 5 (.i .i64),.rt (.loc 4) sh4 (.st .Frame)]⟩ (.s (.s .l (.c .l .l)) (.j ⟨[0,1,4,5],[.out 0],[],[.rt (.loc 4) sh4 (.st .Frame)]⟩ (.b .l) .l))))) (.s .l (.s .l (.s .l .l))))))
abbrev t_yFrame:CTt:=[(40,C_yBetween_yFrame),(68,C_yMust_yFrame),(102,C_yName),(123,C_yWithin_yFrame),(125,C_yNumber),(128,C_yArg),(129,C_yLast_yFrame)]
theorem walk_yFrame (a0_r:Lt.Reader) (a1_l:List (List UInt8)) (KK:((Unit)×Lt.Reader)->Prop) (KP:Value->Lt.Reader->Prop):F_yFrame a0_r a1_l KK KP=bodyPXT ⟨Tryd.prog,eU,t_yFrame,eS,noP⟩ Tryd.f99 an_yFrame sh0 (.st .Reader) [(.sl .s)] [] a0_r a1_l KK KP:=by kernel_rfl
theorem c_yFrame:Cont Tryd.prog 99 C_yFrame:=k5 ⟨Tryd.prog,eU,t_yFrame,eS,noP⟩ (En.okc (Cont_inl (En.okc (Cont_inl (En.okc c_yRefuse En.ok0) mixed (fn:=Tryd.f68) (by kernel_rfl) (by kernel_rfl) (by kernel_rfl) (by kernel_rfl) (by kernel_rfl)) (En.okc c_yHas En.ok0)) mixed (fn:=Tryd.f40) (by kernel_rfl) (by kernel_rfl) (by kernel_rfl) (by kernel_rfl) (by kernel_rfl)) (En.okc (Cont_inl (En.okc c_yRefuse En.ok0) mixed (fn:=Tryd.f68) (by kernel_rfl) (by kernel_rfl) (by kernel_rfl) (by kernel_rfl) (by kernel_rfl)) (En.okc c_yName (En.okc (Cont_inl (En.okc c_yRefuse En.ok0) mixed (fn:=Tryd.f123) (by kernel_rfl) (by kernel_rfl) (by kernel_rfl) (by kernel_rfl) (by kernel_rfl)) (En.okc c_yNumber (En.okc c_yArg (En.okc (Cont_inl (En.okc (Cont_inl (En.okc (Cont_inl En.ok0 mixed (fn:=Tryd.f126) (by kernel_rfl) (by kernel_rfl) (by kernel_rfl) (by kernel_rfl) (by kernel_rfl)) En.ok0) mixed (fn:=Tryd.f105) (by kernel_rfl) (by kernel_rfl) (by kernel_rfl) (by kernel_rfl) (by kernel_rfl)) En.ok0) mixed (fn:=Tryd.f129) (by kernel_rfl) (by kernel_rfl) (by kernel_rfl) (by kernel_rfl) (by kernel_rfl)) En.ok0))))))) mixed (fn:=Tryd.f99) an_yFrame (by kernel_rfl) (by kernel_rfl) (fun a0_r a1_l hp KK KP h=>Eq.mp (walk_yFrame a0_r a1_l KK KP) (law_yFrame a0_r a1_l hp KK KP h))
def C_yObject:CKt:=ptrXT sh0 (.st .Reader) [(.sl .s)] [] (fun x y=>Lt.preReader x y) (fun x y=>Lt.yObject x y)
def an_yMust_yBetween_yObject:An:=.s .l (.c .l .l)
def C_yMust_yBetween_yObject:CKt:=inlT ⟨Tryd.prog,eU,[(106,C_yRefuse)],eS,noP⟩ Tryd.f68 an_yMust_yBetween_yObject
def an_yBetween_yObject:An:=.l
def C_yBetween_yObject:CKt:=inlT ⟨Tryd.prog,eU,[(68,C_yMust_yBetween_yObject),(69,C_yHas)],eS,noP⟩ Tryd.f40 an_yBetween_yObject
def an_yMust_yObject:An:=.s .l (.c .l .l)
def C_yMust_yObject:CKt:=inlT ⟨Tryd.prog,eU,[(106,C_yRefuse)],eS,noP⟩ Tryd.f68 an_yMust_yObject
def an_yWithin_yObject:An:=.s .l (.c .l .l)
def C_yWithin_yObject:CKt:=inlT ⟨Tryd.prog,eU,[(106,C_yRefuse)],eS,noP⟩ Tryd.f123 an_yWithin_yObject
def an_yFun_yBlock_yLast_yObject:An:=.s .l (.s .l .l)
def C_yFun_yBlock_yLast_yObject:CKt:=inlT ⟨Tryd.prog,eU,[],eS,noP⟩ Tryd.f126 an_yFun_yBlock_yLast_yObject
def an_yBlock_yLast_yObject:An:=.s .l (.s .l (.s .l .l))
def C_yBlock_yLast_yObject:CKt:=inlT ⟨Tryd.prog,eU,[(126,C_yFun_yBlock_yLast_yObject)],eS,noP⟩ Tryd.f105 an_yBlock_yLast_yObject
def an_yLast_yObject:An:=.s .l (.s .l (.s .l .l))
def C_yLast_yObject:CKt:=inlT ⟨Tryd.prog,eU,[(105,C_yBlock_yLast_yObject)],eS,noP⟩ Tryd.f129 an_yLast_yObject
def an_yObject:An:=.s .l (.j ⟨[0,1],[.out 0],[],[]⟩ .l (.j ⟨[0],[.out 0],[(4,.loc 4,0)],[.rt (.loc 4) [.fr,.fr] (.st .Virt)]⟩ .l (.s .l (.s .l (.j ⟨[0],[],[],[.rt (.out 0) sh0 (.st .Reader)]⟩ .l .l)))))
abbrev t_yObject:CTt:=[(40,C_yBetween_yObject),(68,C_yMust_yObject),(102,C_yName),(103,C_yArgs),(123,C_yWithin_yObject),(129,C_yLast_yObject)]
theorem walk_yObject (a0_r:Lt.Reader) (a1_l:List (List UInt8)) (KK:((Unit)×Lt.Reader)->Prop) (KP:Value->Lt.Reader->Prop):F_yObject a0_r a1_l KK KP=bodyPXT ⟨Tryd.prog,eU,t_yObject,eS,noP⟩ Tryd.f100 an_yObject sh0 (.st .Reader) [(.sl .s)] [] a0_r a1_l KK KP:=by kernel_rfl
theorem c_yObject:Cont Tryd.prog 100 C_yObject:=k5 ⟨Tryd.prog,eU,t_yObject,eS,noP⟩ (En.okc (Cont_inl (En.okc (Cont_inl (En.okc c_yRefuse En.ok0) mixed (fn:=Tryd.f68) (by kernel_rfl) (by kernel_rfl) (by kernel_rfl) (by kernel_rfl) (by kernel_rfl)) (En.okc c_yHas En.ok0)) mixed (fn:=Tryd.f40) (by kernel_rfl) (by kernel_rfl) (by kernel_rfl) (by kernel_rfl) (by kernel_rfl)) (En.okc (Cont_inl (En.okc c_yRefuse En.ok0) mixed (fn:=Tryd.f68) (by kernel_rfl) (by kernel_rfl) (by kernel_rfl) (by kernel_rfl) (by kernel_rfl)) (En.okc c_yName (En.okc c_yArgs (En.okc (Cont_inl (En.okc c_yRefuse En.ok0) mixed (fn:=Tryd.f123) (by kernel_rfl) (by kernel_rfl) (by kernel_rfl) (by kernel_rfl) (by kernel_rfl)) (En.okc (Cont_inl (En.okc (Cont_inl (En.okc (Cont_inl En.ok0 mixed (fn:=Tryd.f126) (by kernel_rfl) (by kernel_rfl) (by kernel_rfl) (by kernel_rfl) (by kernel_rfl)) En.ok0) mixed (fn:=Tryd.f105) (by kernel_rfl) (by kernel_rfl) (by kernel_rfl) (by kernel_rfl) (by kernel_rfl)) En.ok0) mixed (fn:=Tryd.f129) (by kernel_rfl) (by kernel_rfl) (by kernel_rfl) (by kernel_rfl) (by kernel_rfl)) En.ok0)))))) mixed (fn:=Tryd.f100) an_yObject (by kernel_rfl) (by kernel_rfl) (fun a0_r a1_l hp KK KP h=>Eq.mp (walk_yObject a0_r a1_l KK KP) (law_yObject a0_r a1_l hp KK KP h))
def C_yEnd:CKt:=ptrXT sh0 (.st .Reader) [(.sl .s)] [] (fun x y=>Lt.preReader x y) (fun x y=>Lt.yEnd x y)
def an_yMust_yBetween_yEnd:An:=.s .l (.c .l .l)
def C_yMust_yBetween_yEnd:CKt:=inlT ⟨Tryd.prog,eU,[(106,C_yRefuse)],eS,noP⟩ Tryd.f68 an_yMust_yBetween_yEnd
def an_yBetween_yEnd:An:=.l
def C_yBetween_yEnd:CKt:=inlT ⟨Tryd.prog,eU,[(68,C_yMust_yBetween_yEnd),(69,C_yHas)],eS,noP⟩ Tryd.f40 an_yBetween_yEnd
def an_yMust_yEnd:An:=.s .l (.c .l .l)
def C_yMust_yEnd:CKt:=inlT ⟨Tryd.prog,eU,[(106,C_yRefuse)],eS,noP⟩ Tryd.f68 an_yMust_yEnd
def an_yFun_yBlock_yEnd:An:=.s .l (.s .l .l)
def C_yFun_yBlock_yEnd:CKt:=inlT ⟨Tryd.prog,eU,[],eS,noP⟩ Tryd.f126 an_yFun_yBlock_yEnd
def an_yBlock_yEnd:An:=.s .l (.s .l (.s .l .l))
def C_yBlock_yEnd:CKt:=inlT ⟨Tryd.prog,eU,[(126,C_yFun_yBlock_yEnd)],eS,noP⟩ Tryd.f105 an_yBlock_yEnd
def an_yEnd:An:=.s .l (.s .l (.j ⟨[0,4],[.out 0],[],[.rt (.loc 4) [.fr,.fr,.fr,.fr,.ow [.fr],.fr] (.st .Term)]⟩ (.s .l (.b (.s .l (.c (.s .l .l) (.s .l (.c (.s .l .l) (.s .l (.c (.s .l .l) (.s .l (.s .l (.s .l .l))))))))))) (.j ⟨[0],[],[],[.rt (.out 0) sh0 (.st .Reader)]⟩ .l .l)))
abbrev t_yEnd:CTt:=[(40,C_yBetween_yEnd),(68,C_yMust_yEnd),(102,C_yName),(105,C_yBlock_yEnd),(128,C_yArg),(130,C_numGet)]
theorem walk_yEnd (a0_r:Lt.Reader) (a1_l:List (List UInt8)) (KK:((Unit)×Lt.Reader)->Prop) (KP:Value->Lt.Reader->Prop):F_yEnd a0_r a1_l KK KP=bodyPXT ⟨Tryd.prog,eU,t_yEnd,eS,noP⟩ Tryd.f101 an_yEnd sh0 (.st .Reader) [(.sl .s)] [] a0_r a1_l KK KP:=by kernel_rfl
theorem c_yEnd:Cont Tryd.prog 101 C_yEnd:=k5 ⟨Tryd.prog,eU,t_yEnd,eS,noP⟩ (En.okc (Cont_inl (En.okc (Cont_inl (En.okc c_yRefuse En.ok0) mixed (fn:=Tryd.f68) (by kernel_rfl) (by kernel_rfl) (by kernel_rfl) (by kernel_rfl) (by kernel_rfl)) (En.okc c_yHas En.ok0)) mixed (fn:=Tryd.f40) (by kernel_rfl) (by kernel_rfl) (by kernel_rfl) (by kernel_rfl) (by kernel_rfl)) (En.okc (Cont_inl (En.okc c_yRefuse En.ok0) mixed (fn:=Tryd.f68) (by kernel_rfl) (by kernel_rfl) (by kernel_rfl) (by kernel_rfl) (by kernel_rfl)) (En.okc c_yName (En.okc (Cont_inl (En.okc (Cont_inl En.ok0 mixed (fn:=Tryd.f126) (by kernel_rfl) (by kernel_rfl) (by kernel_rfl) (by kernel_rfl) (by kernel_rfl)) En.ok0) mixed (fn:=Tryd.f105) (by kernel_rfl) (by kernel_rfl) (by kernel_rfl) (by kernel_rfl) (by kernel_rfl)) (En.okc c_yArg (En.okc c_numGet En.ok0)))))) mixed (fn:=Tryd.f101) an_yEnd (by kernel_rfl) (by kernel_rfl) (fun a0_r a1_l hp KK KP h=>Eq.mp (walk_yEnd a0_r a1_l KK KP) (law_yEnd a0_r a1_l hp KK KP h))
def C_yLine:CKt:=ptrXT sh0 (.st .Reader) [(.sl .s)] [] (fun x y=>Lt.preReader x y) (fun x y=>Lt.yLine x y)
def an_yLine:An:=.s .l (.s (.j ⟨[0,1,4],[.out 0],[],[.sl 18 .bo]⟩ .l (.c .l .l)) (.s .l (.s .l (.j ⟨[0],[],[],[.rt (.out 0) sh0 (.st .Reader)]⟩ (.s .l (.c .l .l)) .l))))
abbrev t_yLine:CTt:=[(66,C_yReaders),(67,C_yCode),(89,C_ySsa),(90,C_yClass),(91,C_yField),(92,C_yGlobal),(93,C_yExtern),(94,C_yFunction),(95,C_yParam),(96,C_yVariable),(97,C_yStart),(98,C_yPhi),(99,C_yFrame),(100,C_yObject),(101,C_yEnd)]
theorem walk_yLine (a0_r:Lt.Reader) (a1_l:List (List UInt8)) (KK:((Unit)×Lt.Reader)->Prop) (KP:Value->Lt.Reader->Prop):F_yLine a0_r a1_l KK KP=bodyPXT ⟨Tryd.prog,eU,t_yLine,eS,noP⟩ Tryd.f39 an_yLine sh0 (.st .Reader) [(.sl .s)] [] a0_r a1_l KK KP:=by kernel_rfl
theorem c_yLine:Cont Tryd.prog 39 C_yLine:=k5 ⟨Tryd.prog,eU,t_yLine,eS,noP⟩ (En.okc c_yReaders (En.okc c_yCode (En.okc c_ySsa (En.okc c_yClass (En.okc c_yField (En.okc c_yGlobal (En.okc c_yExtern (En.okc c_yFunction (En.okc c_yParam (En.okc c_yVariable (En.okc c_yStart (En.okc c_yPhi (En.okc c_yFrame (En.okc c_yObject (En.okc c_yEnd En.ok0))))))))))))))) mixed (fn:=Tryd.f39) an_yLine (by kernel_rfl) (by kernel_rfl) (fun a0_r a1_l hp KK KP h=>Eq.mp (walk_yLine a0_r a1_l KK KP) (law_yLine a0_r a1_l hp KK KP h))
def C_yParse:CKt:=pureT0 [.s] [(.st .Program),(.i .i64),(.i .i64)] (fun x=>Lt.yParse x)
def an_yMust_yBetween_yParse:An:=.s .l (.c .l .l)
def C_yMust_yBetween_yParse:CKt:=inlT ⟨Tryd.prog,eU,[(106,C_yRefuse)],eS,noP⟩ Tryd.f68 an_yMust_yBetween_yParse
def an_yBetween_yParse:An:=.l
def C_yBetween_yParse:CKt:=inlT ⟨Tryd.prog,eU,[(68,C_yMust_yBetween_yParse),(69,C_yHas)],eS,noP⟩ Tryd.f40 an_yBetween_yParse
def an_yParse:An:=.s (.s .l (.b (.lp ⟨[2,3,4,6,23,24],[.out 2,.out 3,.out 4,.out 6],[],[.sl 25 (.i .i64),.rt (.out 21) sh0 (.st .Reader)]⟩ (.s .l (.s (.c .l .l) (.s (.b (.s .l (.s .l .l))) .l)))))) (.s .l (.s .l (.s .l .l)))
abbrev t_yParse:CTt:=[(23,C_lSplit),(39,C_yLine),(40,C_yBetween_yParse)]
theorem walk_yParse (a0_s:List UInt8) (KK:(Lt.Program×Int×Int)->Prop):F_yParse a0_s KK=bodyDT ⟨Tryd.prog,eU,t_yParse,eS,noP⟩ Tryd.f18 Tryd.f38 [(.l,kL (Tryd.f18.body.getD .skip)),(.l,kL (kR (Tryd.f18.body.getD .skip))),(.s .l (.c (.j ⟨[2,3,4],[],[],[.rt (.loc 2) sh5 (.st .Program),.rt (.loc 3) [.fr] (.i .i64),.rt (.loc 4) [.fr] (.i .i64)]⟩ .l .l) .l),kL (kR (kR (Tryd.f18.body.getD .skip)))),(.l,kL (kR (kR (kR (Tryd.f18.body.getD .skip)))))] an_yParse .l (kR (kR (kR (kR (kR (Tryd.f18.body.getD .skip)))))) [.s] [(.st .Program),(.i .i64),(.i .i64)] a0_s KK:=by kernel_rfl
theorem c_yParse:Cont Tryd.prog 18 C_yParse:=Cont_T0 (Cont_defer (En.okc c_lSplit (En.okc c_yLine (En.okc (Cont_inl (En.okc (Cont_inl (En.okc c_yRefuse En.ok0) mixed (fn:=Tryd.f68) (by kernel_rfl) (by kernel_rfl) (by kernel_rfl) (by kernel_rfl) (by kernel_rfl)) (En.okc c_yHas En.ok0)) mixed (fn:=Tryd.f40) (by kernel_rfl) (by kernel_rfl) (by kernel_rfl) (by kernel_rfl) (by kernel_rfl)) En.ok0))) mixed (fn:=Tryd.f18) (l:=[(.l,kL (Tryd.f18.body.getD .skip)),(.l,kL (kR (Tryd.f18.body.getD .skip))),(.s .l (.c (.j ⟨[2,3,4],[],[],[.rt (.loc 2) sh5 (.st .Program),.rt (.loc 3) [.fr] (.i .i64),.rt (.loc 4) [.fr] (.i .i64)]⟩ .l .l) .l),kL (kR (kR (Tryd.f18.body.getD .skip)))),(.l,kL (kR (kR (kR (Tryd.f18.body.getD .skip)))))]) (an2:=an_yParse) (anC:=.l) (id:=rgI (kL (kR (kR (kR (kR (Tryd.f18.body.getD .skip))))))) (o1:=rgO (kL (kR (kR (kR (kR (Tryd.f18.body.getD .skip)))))) 0) (o2:=rgO (kL (kR (kR (kR (kR (Tryd.f18.body.getD .skip)))))) 1) (rest:=kR (kR (kR (kR (kR (Tryd.f18.body.getD .skip)))))) (by kernel_rfl) (by kernel_rfl) (by kernel_rfl) (by kernel_rfl) (by kernel_rfl) (by kernel_rfl) (by kernel_rfl) (by kernel_rfl) (by kernel_rfl) (by kernel_rfl) (by kernel_rfl) (by kernel_rfl) (by kernel_rfl) (fun a0_s _ KK h=>Eq.mp (walk_yParse a0_s KK) (law_yParse a0_s KK h)))
def C_awake5:CKt:=pureT0 [] [.bo] (fun x=>Lt.awake5 )
def an_awake5:An:=.s .l (.s .l (.s .l (.s .l (.s (.j ⟨[1],[.loc 1],[],[.sl 58 .bo]⟩ .l (.c (.s .l .l) .l)) (.s .l (.j ⟨[],[],[],[.sl 0 .bo]⟩ .l .l))))))
abbrev t_awake5:CTt:=[(18,C_yParse)]
theorem walk_awake5 (KK:Bool->Prop):F_awake5 KK=bodyT ⟨Tryd.prog,eU,t_awake5,[],noP⟩ Tryd.f17 an_awake5 [] [.bo] () KK:=by kernel_rfl
theorem c_awake5:Cont Tryd.prog 17 C_awake5:=k0 ⟨Tryd.prog,eU,t_awake5,[],noP⟩ (En.okc c_yParse En.ok0) mixed (fn:=Tryd.f17) an_awake5 (by kernel_rfl) (by kernel_rfl) (fun _ KK h=>Eq.mp (walk_awake5 KK) (law_awake5 KK h))
def an_SyntaxFront:An:=.s .l (.s .l (.s .l (.s .l (.s (.j ⟨[1,6,7,8],[],[],[.sl 68 .bo]⟩ .l (.c (.s .l .l) .l)) (.s .l (.s .l (.j ⟨[1,7],[],[],[.sl 14 .s,.sl 15 (.i .i64)]⟩ (.s .l (.b (.lp ⟨[1,6,7,8],[],[],[.sl 14 .s,.sl 15 (.i .i64),.sl 16 (.i .i64)]⟩ (.s (.s .l (.c .l .l)) (.s (.b (.s (.s .l (.c .l .l)) (.s .l .l))) .l))))) (.s .l (.s .l (.j ⟨[],[],[],[.sl 4 .bo]⟩ .l .l))))))))))
abbrev t_SyntaxFront:CTt:=[(17,C_awake5),(18,C_yParse),(23,C_lSplit),(24,C_Join)]
theorem walk_SyntaxFront (a0_s:List UInt8) (a1_t:List UInt8) (KK:Bool->Prop):F_SyntaxFront a0_s a1_t KK=bodyT ⟨Tryd.prog,eU,t_SyntaxFront,[],noP⟩ Tryd.f7 an_SyntaxFront [.s,.s] [.bo] (a0_s,a1_t) KK:=by kernel_rfl
theorem en_SyntaxFront:En.ok ⟨Tryd.prog,eU,t_SyntaxFront,[],noP⟩:=(En.okc c_awake5 (En.okc c_yParse (En.okc c_lSplit (En.okc c_Join En.ok0))))
end Go.Am
end

section
namespace Go.Am
theorem AW_bodyT {e:En} (he:e.ok) (hm:e.P.follows .mixedOrders=true) {fn:Func} {an:An} {ps rs:List U} {g:G} (hg:g.nt=fn.ntmps) (hc:chkC fn.ntmps (fn.body.getD .skip)=true) {x:Fl ps} {KK:Fl rs->Prop} {K:AV->Prop}
  (hK:∀ r,KK r->K (resA rs r).toV) (h:bodyT e fn an ps rs x KK):AW e.P g (fn.body.getD .skip) (retQ e.P fn.results.toList K) ⟨entryT 0 (avs0 ps x),[]⟩:=by
 have h1:=AW_wpT (e:=⟨e.P,e.E,e.cs,e.sh,fun _ _=>False⟩) he hm (g:=g) _ an (entS ps x) _ (by rw [hg]; exact hc) h
 have e0:(entS ps x).toS=⟨entryT 0 (avs0 ps x),[]⟩:=drop_toS.S_ext (entT_toS 0 ps x) rfl
 rw [e0] at h1
 refine AW_postR h1 (fun ex s' a w h' hR=>?_)
 cases ex with
 | normal=>
  obtain ⟨t,rfl,ht⟩:=h'
  exact retT_ok hK ht hR
 | ret=>
  obtain ⟨t,rfl,ht⟩:=h'
  exact retT_ok hK ht hR
 | exit i=>exact h'.elim (fun t ht=>ht.2.elim)
 | panic c=>obtain ⟨_,_,_,_,hf⟩:=h'; exact hf.elim
 | _=>exact h'.elim
end Go.Am
end
