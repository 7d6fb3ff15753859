/-
  Part 17: AmRd · AmKP.
-/
import Derived.Test.YtlikflolhhlgjaaGreatDoorKe16
import Derived.MapFrom
set_option linter.unusedSimpArgs false
set_option linter.unusedVariables false
set_option linter.unusedSectionVars false
set_option linter.unnecessarySimpa false
section
namespace Go.Am
open Go Go.RowKit Go.Proofs Go.MapKept
def ov (w:List UInt8) (df:Nat):List (List UInt8×Nat)->Nat
 | []=>df
 | (w0,f)::r=>if decide (w=w0)=true then f else ov w df r
theorem u5 (w:List UInt8) (K:Nat->Prop) (df:Nat):∀ tab,swP w K df tab=K (ov w df tab)
 | []=>rfl
 | (w0,f)::r=>by
  rw [swP,ov,u5 w K df r];split <;> rfl
section
variable {P:Program}
theorem OK {o:Oper} {a:Act} {next:Act->World->Prop} {Q:Exit->Act->World->Prop} {mt kt et:TypeId} {r:Nat} {es:Array MapEntry} {clock:Nat} {k:ByteArray} {v:Value} {w:World}
  (hm:P.underlying mt=some (.map kt et)) (hd:P.underlying kt=some .string) (hb:w.heap[r]? = some (.map es clock)) (hf:Instr.findNow .string (.string k) es.toList 0=some none)
  (h:∀ w2,w2.heap[r]? = some (.map (es.push { key:=.string k,val:=v,born:=clock }) (clock+1))->Below r w w2->next (a.put o.dst undef) w2) :
  o.upon P a next Q (((Instr.mapUpdate mt (.map (some r)) (.string k) v).run P w).andThen fun _ w'=>.ok Next.skip w'):=by
 have hrun:(Instr.mapUpdate mt (.map (some r)) (.string k) v).run P w=.ok () { w with heap:=w.heap.setIfInBounds r (.map (es.push { key:=.string k,val:=v,born:=clock }) (clock+1)) }:=by
  simp [Instr.mapUpdate,run_underlying hm,MapKept.run_getObj_map hb,run_checkKey hd (k:=.string k) trivial,run_findKey hd hf,run_setObj_map _ hb,Result.andThen]
 rw [hrun];exact h _ (heap_set hb).1 ⟨rfl,rfl,rfl,by simp,fun j hj=>(heap_set hb).2 j (by omega)⟩
theorem E1 (s:ByteArray):∀ (es:List MapEntry) (tab:List (List UInt8×Nat)) (i:Nat),es.map (fun e=>(e.key,e.val))=tab.map (fun x=>(Value.string ⟨x.1.toArray⟩,Value.func (.func x.2) #[] #[])) ->
  (∃ x∈tab,(∃ j,Instr.findNow .string (.string s) es i=some (some (j,.func (.func x.2) #[] #[])))/\∀ df,ov s.data.toList df tab=x.2)\/(Instr.findNow .string (.string s) es i=some none/\∀ df,ov s.data.toList df tab=df)
 | [],[],i,_=>.inr ⟨rfl,fun _=>rfl⟩
 | [],_::_,i,h=>by simp at h
 | _::_,[],i,h=>by simp at h
 | e::es,(k,f)::tab,i,h=>by
  obtain ⟨ek,ev,eb⟩:=e;simp only [List.map_cons,List.cons.injEq,Prod.mk.injEq] at h;obtain ⟨⟨rfl,rfl⟩,h⟩:=h;unfold Instr.findNow;simp only [Instr.sameNow];by_cases hc:s=⟨k.toArray⟩
  ·have e1:(s==⟨k.toArray⟩)=true:=(bytes_beq _ _).2 hc
   rw [e1];refine .inl ⟨(k,f),by simp,⟨i,rfl⟩,fun df=>?_⟩;have:s.data.toList=k:=by rw [hc]
   rw [ov,if_pos (by simp [this])]
  ·have e1:(s==⟨k.toArray⟩)=false:=by
    rw [Wn]; exact fun e=>hc ((bytes_beq _ _).1 e)
   rw [e1];have n1:¬ s.data.toList=k:=by
    rintro rfl
    exact hc (by obtain ⟨x⟩:=s; simp)
   rcases E1 s es tab (i+1) h with ⟨x,hx,hj,hp⟩ | ⟨h1,h2⟩
   ·exact .inl ⟨x,by simp [hx],hj,fun df=>by rw [ov,if_neg (by simpa using n1)]; exact hp df⟩
   ·exact .inr ⟨h1,fun df=>by rw [ov,if_neg (by simpa using n1)]; exact h2 df⟩
theorem D8 {mt kt et:TypeId} {r:Nat} {es:Array MapEntry} {clock:Nat} {s:ByteArray} {w:World} (hm:P.underlying mt=some (.map kt et)) (hd:P.underlying kt=some .string) (hz:(zeroValue et).run P w=.ok .nilFunc w)
  (hb:w.heap[r]? = some (.map es clock)) {x:Option (Nat×Value)} (hf:Instr.findNow .string (.string s) es.toList 0=some x) :
  (Instr.lookup mt (.map (some r)) (.string s) false).run P w=.ok (match x with | some (_,v)=>v | none=>.nilFunc) w:=by
 cases x with
 | none=>simp [Instr.lookup,run_underlying hm,MapKept.run_getObj_map hb,run_checkKey hd (k:=.string s) trivial,run_findKey hd hf,hz,Result.andThen]
 | some y=>obtain ⟨j,v⟩:=y; simp [Instr.lookup,run_underlying hm,MapKept.run_getObj_map hb,run_checkKey hd (k:=.string s) trivial,run_findKey hd hf,Result.andThen]
end
theorem SG {P:Program} {t:TypeId} {ps rs:Array TypeId} {va:Bool} {f:Fn} {a b:Array Value} (h:P.underlying t=some (.func ps rs va)) (w:World):(Op.equal t (.func f a b) .nilFunc).run P w=.ok false w:=by
 unfold Op.equal Op.maxDepth;rw [show (10000:Nat)=9999+1 from rfl];unfold Op.equalIn;simp only [Sem.run_bind,run_underlying h,Result.andThen];rfl
theorem Jk {P:Program} {t:TypeId} {ps rs:Array TypeId} {va:Bool} (h:P.underlying t=some (.func ps rs va)) (w:World):(Op.equal t .nilFunc .nilFunc).run P w=.ok true w:=by
 unfold Op.equal Op.maxDepth;rw [show (10000:Nat)=9999+1 from rfl];unfold Op.equalIn;simp only [Sem.run_bind,run_underlying h,Result.andThen];rfl
theorem Oz {P:Program} {t:TypeId} {ps rs:Array TypeId} {va:Bool} {f:Fn} {a b:Array Value} (h:P.underlying t=some (.func ps rs va)) (w:World):(binOp .neq t (.func f a b) .nilFunc).run P w=.ok (.bool true) w:=by
 show (do pure (.bool (!(<- Op.equal t (.func f a b) .nilFunc))):Sem Value).run P w=_
 simp only [Sem.run_bind,SG h,Result.andThen];rfl
theorem Fv {P:Program} {t:TypeId} {ps rs:Array TypeId} {va:Bool} (h:P.underlying t=some (.func ps rs va)) (w:World):(binOp .neq t .nilFunc .nilFunc).run P w=.ok (.bool false) w:=by
 show (do pure (.bool (!(<- Op.equal t .nilFunc .nilFunc))):Sem Value).run P w=_
 simp only [Sem.run_bind,Jk h,Result.andThen];rfl
theorem T9 {es0:Array MapEntry} {c0:Nat} {f:Option Obj} (hb:f=some (.map es0 c0)) {L:List (Value×Value)} (he:es0.toList.map (fun e=>(e.key,e.val))=L):∃ es c,f=some (.map es c)/\es.toList.map (fun e=>(e.key,e.val))=L:=⟨es0,c0,hb,he⟩
def Pp:List (List UInt8×Nat):=[([115,115,97],57),([99,108,97,115,115],58),([102,105,101,108,100],59),([103,108,111,98,97,108],60),([101,120,116,101,114,110],61),([102,117,110,99],62),([112,97,114,97,109],63),([118,97,114],64),([98,108,111,99,107],65),([112,104,105],66),([97,116],67),([111,98,106],68),([106,117,109,112],69),([98,114,97,110,99,104],69),([114,101,116],69),([116,114,97,112],69)]
set_option maxRecDepth 100000 in
theorem AP (s:ByteArray) (w:World) :
  Calls Tryz.prog 34 #[.string s] w fun e w'=>e=.returned (.func (.func (ov s.data.toList 35 Pp)) #[] #[])/\Below w.heap.size w w':=by
 have hmm:=@run_makeMap Tryz.prog
 have hm:=Tryz.underlying136
 have hd:=Tryz.underlying9
 have hz:∀ w,(zeroValue 101).run Tryz.prog w=.ok .nilFunc w:=Tryz.zeroValue101
 have hb:(w.alloc (.map #[] 0)).heap[w.heap.size]? = some (.map #[] 0):=(heap_alloc w _).1
 have hB:Below w.heap.size w (w.alloc (.map #[] 0)):=(Below.refl _ w).alloc (Wb _) _
 go_enter Tryz.func34,Tryz.ntmps34
 go_wp2
 iterate 16
  refine OK hm hd hb (by kernel_rfl) (fun w2 hb2 hB2=>?_)
  replace hB:=hB.trans hB2
  replace hb:=hb2
  clear hB2 hb2
  go_wp2
 obtain ⟨es,c,hb,he⟩:=T9 hb (L:=Pp.map (fun x=>(Value.string ⟨x.1.toArray⟩,Value.func (.func x.2) #[] #[]))) (by kernel_rfl);rcases E1 s es.toList Pp 0 he with ⟨x,hx,⟨j,hj⟩,hp⟩ | ⟨h1,hp⟩
 ·rw [D8 hm hd (hz _) hb hj];simp only [Result.andThen];rw [Oper.upon_value]
  go_wp2
  rw [Oz Tryz.underlying101];simp only [Result.andThen];rw [Oper.upon_value]
  go_wp2
  go_ret
  exact ⟨by rw [hp]; rfl,hB⟩
 ·rw [D8 hm hd (hz _) hb h1];simp only [Result.andThen];rw [Oper.upon_value]
  go_wp2
  rw [Fv Tryz.underlying101];simp only [Result.andThen];rw [Oper.upon_value]
  go_wp2
  go_ret
  exact ⟨by rw [hp]; rfl,hB⟩
theorem Tw {v:At} {x:List UInt8} (h:bS [.s] [v]=some x):v.noRf=true/\v.toV.isFz=true/\v.toV.map T.canon=.one (.c (.d (.str x))):=by
 obtain ⟨h1,h2,h3⟩:=eE h;refine ⟨by simpa using h1,by simpa using h2,?_⟩;have:[v.toV.map T.canon]=[AV.one (.c (.d (.str x)))]:=h3
 simpa using this
def lO:CKt:=swT Pp 35
theorem GC:Cont Tryz.prog 34 lO:=by
 refine ⟨jr (fn:=Tryz.f34) (by kernel_rfl) (by kernel_rfl) (by kernel_rfl),fun pk s ops k k' hk hc=>?_,fun g pk s a w H γ F1 ops k hX hops hc=>?_⟩
 ·unfold lO swT at hc ⊢;dsimp only at hc ⊢;split at hc
  ·rw [u5] at hc ⊢;exact hk _ _ (cv _ _) hc
  ·exact hc.elim
 ·unfold lO swT at hc;dsimp only at hc;obtain ⟨H1,F2,h1⟩:=db (ops.map (evA s)) s H F1 hX;generalize b9 s (ops.map (evA s))=s1 at hc h1;split at hc
  ·rename_i x hx;rw [u5] at hc
   match ops,hx with
   | [],hx=>simp [bS] at hx
   | [o],hx=>
    obtain ⟨_,hz,hcn⟩:=Tw hx;have hop:aX o=true:=by simpa using hops
    have hv:=bg h1 hop
    rw [ax hop] at hv;have hv2:=dT ch (jo (w':=w) (γ':=γ) (m':=[]) (fun _ _ _ h=>h) hz hv)
    rw [hcn] at hv2;obtain ⟨e1,_⟩:=jj hv2;show Calls _ _ #[a.eval o] w _
    rw [e1];refine (AP ⟨x.toArray⟩ w).mono ?_;rintro e w' ⟨rfl,hb⟩
    rw [nk];have hsame:∀ b,tot F2 s1.toS.m b≠0->w'.heap[b]? = w.heap[b]? := fun b hb'=>hb.block b (h1.mem.lt b hb')
    have hKp:=cP (w':=w') h1.mem hsame
    have hmem:Mem w' H1 γ s1.toS.m F2:=by
     refine ⟨fun b o y hy=>?_,fun x hx=>aM hKp (fun _ _ _ h=>h) rfl (fun b hb'=>hsame b (by have:=bI (F:=F2) hx b; omega)) (h1.mem.roots x hx),h1.mem.keys,h1.mem.le1,fun b hb'=>by have:=h1.mem.lt b hb'; have:=hb.size; omega,h1.mem.nofz⟩;have hlt:b<w.heap.size:=World.block_lt_of_cell? _ _ (h1.mem.agree b o y hy)
     rw [hb.cell hlt];exact h1.mem.agree b o y hy
    have hFr:Fr w H1 (tot F2 s1.toS.m) w' H1 (tot F2 s1.toS.m):=
     ⟨hb.size,hb.os,hb.tape,hb.output,fun b hb' _=>hb.block b hb',fun _ _ _ h=>h,fun b o h2 h3=>absurd h3 h2,fun b hb=>.inl hb,fun b h0=>h0.of_block (hb.block b h0.lt),kZ.2⟩
    exact .inl ⟨_,s1,sct (.v (.func (.func (ov x 35 Pp)) #[] #[])),H1,γ,F2,rfl,hc,⟨fun _=>rfl,0,rfl,rfl⟩,gj h1 hmem hFr (fun i=>cE hKp (fun _ _ _ h=>h) (h1.t i)) (fun _=>rfl)⟩
   | _::_::_,hx=>simp [bS] at hx
  ·exact hc.elim
end Go.Am
end

section
namespace Go.Am
open Go Go.Proofs
set_option maxRecDepth 100000
theorem En.ok0 {P:Program} {u:Ut} {sh:List (TypeId×List Sh)} {pk:PKt}:En.ok ⟨P,u,[],sh,pk⟩:=fun _ h=>by cases h
theorem En.okc {P:Program} {u:Ut} {sh:List (TypeId×List Sh)} {pk:PKt} {f:Nat} {C:CKt} {cs:CTt} (h:Cont P f C) (hs:En.ok ⟨P,u,cs,sh,pk⟩):En.ok ⟨P,u,(f,C)::cs,sh,pk⟩:=by
 intro x hx;rcases Wk.1 hx with rfl | hx
 ·exact h
 ·exact hs x hx
theorem mixed:Tryz.prog.follows .mixedOrders=true:=by kernel_rfl
def okF (n:Nat) (fn:Func):Bool:=fn.name != "runtime.NumGoroutine" && (fn.body.isSome&&(Nat.ble n fn.ntmps&&jf fn.ntmps (fn.body.getD .skip)))
theorem dE {n:Nat} {fn:Func} (h:okF n fn=true):(fn.name == "runtime.NumGoroutine")=false/\fn.body.isSome=true/\Nat.ble n fn.ntmps=true/\jf fn.ntmps (fn.body.getD .skip)=true:=by
 unfold okF at h;simp only [V7,bne,WH] at h;exact h
theorem k0 (e:En) (he:e.ok) (hm:e.P.follows .mixedOrders=true) {f:Nat} {fn:Func} (an:An) {ps rs:List U} {F:Fl ps->Fl rs} (hf:e.P.funcs[f]? = some fn) (hb:okF ps.length fn=true) (law:∀ x,∀ KK:Fl rs->Prop,KK (F x)->bc e fn an ps rs x KK):Cont e.P f (aE ps rs F):=
 I3 he hm hf (dE hb).1 (dE hb).2.1 (dE hb).2.2.1 (dE hb).2.2.2 law
theorem k1 (e:En) (he:e.ok) (hm:e.P.follows .mixedOrders=true) {f:Nat} {fn:Func} (an:An) {ps rs:List U} {pre:Fl ps->Prop} {F:Fl ps->Fl rs} (hf:e.P.funcs[f]? = some fn) (hb:okF ps.length fn=true) (law:∀ x,pre x->∀ KK:Fl rs->Prop,KK (F x)->bc e fn an ps rs x KK):Cont e.P f (fe ps rs pre F):=
 zG he hm hf (dE hb).1 (dE hb).2.1 (dE hb).2.2.1 (dE hb).2.2.2 law
theorem k2 (e:En) (he:e.ok) (hm:e.P.follows .mixedOrders=true) {f:Nat} {fn:Func} (an:An) {sh:List Sh} {u:U} {ps rs:List U} {pre:El u->Fl ps->Prop} {Fn:El u->Fl ps->Fl rs×El u} (hf:e.P.funcs[f]? = some fn) (hb:okF (ps.length+1) fn=true) (law:∀ x y,pre x y->∀ KK:Fl rs×El u->Prop,KK (Fn x y)->oz e fn an sh u ps rs x y KK):Cont e.P f (Bf sh u ps rs pre Fn):=
 Oc he hm hf (dE hb).1 (dE hb).2.1 (dE hb).2.2.1 (dE hb).2.2.2 law
theorem k3 (e:En) (he:e.ok) (hm:e.P.follows .mixedOrders=true) {f:Nat} {fn:Func} (an:An) {u:U} {ps:List U} {pre:List (El u)->Fl ps->Prop} {Fn:List (El u)->Fl ps->List (El u)} (hf:e.P.funcs[f]? = some fn) (hb:okF (ps.length+1) fn=true) (law:∀ x y,pre x y->∀ KK:List (El u)->Prop,KK (Fn x y)->No e fn an u ps x y KK):Cont e.P f (RE u ps pre Fn):=
 NW he hm hf (dE hb).1 (dE hb).2.1 (dE hb).2.2.1 (dE hb).2.2.2 law
theorem k4 (e:En) (he:e.ok) (hm:e.P.follows .mixedOrders=true) {f:Nat} {fn:Func} (an:An) {ps rs:List U} {pre:Fl ps->Prop} {F:Fl ps->Except Value (Fl rs)} (hf:e.P.funcs[f]? = some fn) (hb:okF ps.length fn=true) (law:∀ x,pre x->∀ (KK:Fl rs->Prop) (KP:Value->Prop),exQ (F x) KK KP->pi e fn an ps rs x KK KP):Cont e.P f (kQ ps rs pre F):=
 I0 he hm hf (dE hb).1 (dE hb).2.1 (dE hb).2.2.1 (dE hb).2.2.2 law
theorem k5 (e:En) (he:e.ok) (hm:e.P.follows .mixedOrders=true) {f:Nat} {fn:Func} (an:An) {sh:List Sh} {u:U} {ps rs:List U} {pre:El u->Fl ps->Prop} {Fn:El u->Fl ps->Except Value (Fl rs)×El u} (hf:e.P.funcs[f]? = some fn) (hb:okF (ps.length+1) fn=true) (law:∀ x y,pre x y->∀ (KK:Fl rs×El u->Prop) (KP:Value->El u->Prop),exP (Fn x y) (fun z x'=>KK (z,x')) KP->cH e fn an sh u ps rs x y KK KP):Cont e.P f (fx sh u ps rs pre Fn):=
 MJ he hm hf (dE hb).1 (dE hb).2.1 (dE hb).2.2.1 (dE hb).2.2.2 law
def rgI:Code->Nat
 | .region id _ _=>id
 | _=>0
def rgO (c:Code) (i:Nat):Oper:=match c with
 | .region _ l _=>l.getD i default
 | _=>default
def af:CKt:=UO Lt.flt
theorem ah:Cont Tryz.prog 76 af:=Nz
abbrev sh7:List Sh:=[.fr,.ow [],.ow [],.ow [],.ow []]
abbrev sh6:List Sh:=[.fr,.fr,.fr,.ow [.fr,.fr,.fr,.fr]]
abbrev sh5:List Sh:=[.fr,.fr,.fr,.ow [],.ow [],.ow []]
abbrev sh4:List Sh:=[.fr,.fr,.fr,.fr,.ow [.fr,.fr,.fr,.fr],.ow [.fr,.fr]]
abbrev sh3:List Sh:=[.fr,.ow [.fr,.fr,.fr,.fr]]
abbrev sh0:List Sh:=[.fr,.fr,.ow [.fr,.fr],.ow [.fr,.fr],.ow [.fr,.ow [.fr,.fr],.ow sh4,.fr,.fr,.fr,.fr,.fr,.fr]]
abbrev sh2:List Sh:=[.fr,.ow [.fr,.ow [.fr,.fr]],.ow [.fr,.fr],.ow [.fr,.fr],.ow sh0,.fr,.fr]
abbrev sh1:List Sh:=[.fr,.ow [.fr,.ow [.fr,.fr]],.ow [.fr,.fr],.ow [.fr,.fr],.ow sh0,.fr,.fr,.fr,.fr]
def eU:Ut:=[(80,(.st .Class)),(111,(.st .Var)),(82,(.st .Extern)),(38,(.st .Func)),(47,(.st .Block)),(119,(.st .Phi)),(52,(.st .Instr)),(9,.s),(42,(.st .Arg)),(166,(.st .Frame)),(168,(.st .Virt)),(67,(.st .Line)),(77,(.st .RLine)),(3,(.i .i64)),(5,.b8),(121,(.st .In)),(163,(.st .Bind))]
def eS:List (TypeId×List Sh):=[(27,[.fr,.ow [.fr,.ow [.fr,.fr]],.ow [.fr,.fr],.ow [.fr,.fr],.ow sh0]),(38,sh0),(47,[.fr,.ow [.fr,.fr],.ow sh4,.fr,.fr,.fr,.fr,.fr,.fr]),(52,sh4),(61,sh1),(62,sh1),(74,sh2),(75,sh2),(80,[.fr,.ow [.fr,.fr]])]
def Kb:CKt:=aE [.b8] [.bo] (fun x=>Lt.blank x)
def Ej:An:=.s .l (.s .l .l)
theorem GO (a0_c:UInt8) (KK:Bool->Prop):B5 a0_c KK=bc ⟨Tryz.prog,eU,[],[],noP⟩ Tryz.f56 Ej [.b8] [.bo] a0_c KK:=by kernel_rfl
theorem SM:Cont Tryz.prog 56 Kb:=k0 ⟨Tryz.prog,eU,[],[],noP⟩ En.ok0 mixed (fn:=Tryz.f56) Ej (by kernel_rfl) (by kernel_rfl) (fun a0_c KK h=>Eq.mp (GO a0_c KK) (L2 a0_c KK h))
def EB:CKt:=fe [.s] [(.sl .s),.bo] (fun x=>Lt.rK x) (fun x=>Lt.bO x)
def zn:An:=.s .l (.s .l (.s .l (.s (.s .l (.b (.lp ⟨[0],[],[],[.ow 4 [.fr] .s,.sl 5 (.i .i64),.sl 6 (.i .i64)]⟩ (.s (.s .l (.c .l .l)) (.j ⟨[0,6],[],[],[.ow 4 [.fr] .s,.sl 5 (.i .i64)]⟩ (.b (.b (.j ⟨[0,4,5,6],[.gh 900004],[],[.sl 13 .bo]⟩ .l (.c (.j ⟨[0,6],[],[],[.ow 4 [.fr] .s]⟩ (.s .l (.c .l .l)) .l) (.j ⟨[0,4,5,6],[.gh 900004],[],[.sl 33 .bo]⟩ .l (.c (.s .l .l) (.s .l (.c .l .l)))))))) .l))))) (.s .l .l))))
abbrev FN:CTt:=[(56,Kb)]
theorem F6 (a0_s:List UInt8) (KK:(List (List UInt8)×Bool)->Prop):w9 a0_s KK=bc ⟨Tryz.prog,eU,FN,[],noP⟩ Tryz.f33 zn [.s] [(.sl .s),.bo] a0_s KK:=by kernel_rfl
theorem QE:Cont Tryz.prog 33 EB:=k1 ⟨Tryz.prog,eU,FN,[],noP⟩ (En.okc SM En.ok0) mixed (fn:=Tryz.f33) zn (by kernel_rfl) (by kernel_rfl) (fun a0_s hp KK h=>Eq.mp (F6 a0_s KK) (Iv a0_s hp KK h))
def EE:CKt:=aE [.s] [(.sl (.st .Line)),(.i .i64),(.i .i64)] (fun x=>Lt.dN x)
def zF:An:=.s .l (.s (.s .l (.c (.s .l .l) .l)) (.s .l (.s (.s .l (.b (.lp ⟨[14,15],[],[],[.ow 5 [.fr,.fr] (.st .Line),.sl 16 (.i .i64)]⟩ (.s .l (.s (.c .l .l) (.j ⟨[14,15,16],[],[],[.ow 5 [.fr,.fr] (.st .Line)]⟩ (.b (.s .l (.s .l (.s .l (.s (.s .l (.c (.s .l .l) .l)) (.s .l (.c .l .l))))))) .l)))))) (.s .l .l))))
abbrev Ek:CTt:=[(31,CP),(32,Nx),(33,EB)]
theorem Cu (a0_s:List UInt8) (KK:(List Lt.Line×Int×Int)->Prop):yf a0_s KK=bc ⟨Tryz.prog,eU,Ek,[],noP⟩ Tryz.f13 zF [.s] [(.sl (.st .Line)),(.i .i64),(.i .i64)] a0_s KK:=by kernel_rfl
theorem Pa:Cont Tryz.prog 13 EE:=k0 ⟨Tryz.prog,eU,Ek,[],noP⟩ (En.okc QR (En.okc Uk (En.okc QE En.ok0))) mixed (fn:=Tryz.f13) zF (by kernel_rfl) (by kernel_rfl) (fun a0_s KK h=>Eq.mp (Cu a0_s KK) (G3 a0_s KK h))
def fE:CKt:=aE [(.sl (.i .i64)),(.i .i64)] [.bo] (fun x=>Lt.fw x.1 x.2)
def KE:An:=.s .l (.s (.s .l (.b (.lp ⟨[1,7,8],[],[],[.sl 9 (.i .i64)]⟩ (.s .l (.s (.c .l .l) (.s (.b (.s .l (.s .l (.c (.s .l .l) .l)))) .l)))))) (.s .l .l))
theorem MK (a0_l:List Int) (a1_n:Int) (KK:Bool->Prop):IQ a0_l a1_n KK=bc ⟨Tryz.prog,eU,[],[],noP⟩ Tryz.f37 KE [(.sl (.i .i64)),(.i .i64)] [.bo] (a0_l,a1_n) KK:=by kernel_rfl
theorem fN:Cont Tryz.prog 37 fE:=k0 ⟨Tryz.prog,eU,[],[],noP⟩ En.ok0 mixed (fn:=Tryz.f37) KE (by kernel_rfl) (by kernel_rfl) (fun (a0_l,a1_n) KK h=>Eq.mp (MK a0_l a1_n KK) (N3 a0_l a1_n KK h))
def De:CKt:=aE [.b8] [.bo] (fun x=>Lt.letter x)
def Af:An:=.s .l (.j ⟨[],[],[],[.sl 2 .bo]⟩ .l .l)
theorem Em (a0_c:UInt8) (KK:Bool->Prop):we a0_c KK=bc ⟨Tryz.prog,eU,[],[],noP⟩ Tryz.f90 Af [.b8] [.bo] a0_c KK:=by kernel_rfl
theorem Pi:Cont Tryz.prog 90 De:=k0 ⟨Tryz.prog,eU,[],[],noP⟩ En.ok0 mixed (fn:=Tryz.f90) Af (by kernel_rfl) (by kernel_rfl) (fun a0_c KK h=>Eq.mp (Em a0_c KK) (GR a0_c KK h))
def PE:CKt:=aE [.s] [.bo] (fun x=>Lt.kept x)
def JK:An:=.s .l (.j ⟨[],[],[],[.sl 2 .bo]⟩ .l .l)
theorem Mg (a0_s:List UInt8) (KK:Bool->Prop):Jj a0_s KK=bc ⟨Tryz.prog,eU,[],[],noP⟩ Tryz.f91 JK [.s] [.bo] a0_s KK:=by kernel_rfl
theorem UH:Cont Tryz.prog 91 PE:=k0 ⟨Tryz.prog,eU,[],[],noP⟩ En.ok0 mixed (fn:=Tryz.f91) JK (by kernel_rfl) (by kernel_rfl) (fun a0_s KK h=>Eq.mp (Mg a0_s KK) (Qm a0_s KK h))
def tL:CKt:=aE [.b8] [.bo] (fun x=>Lt.fh x)
def rm:An:=.s .l (.s .l .l)
theorem xV (a0_c:UInt8) (KK:Bool->Prop):mY a0_c KK=bc ⟨Tryz.prog,eU,[],[],noP⟩ Tryz.f92 rm [.b8] [.bo] a0_c KK:=by kernel_rfl
theorem DR:Cont Tryz.prog 92 tL:=k0 ⟨Tryz.prog,eU,[],[],noP⟩ En.ok0 mixed (fn:=Tryz.f92) rm (by kernel_rfl) (by kernel_rfl) (fun a0_c KK h=>Eq.mp (xV a0_c KK) (yy a0_c KK h))
def A7:CKt:=aE [.s] [.bo] (fun x=>Lt.Name x)
def Kn:An:=.s .l (.s (.j ⟨[0],[],[],[.sl 20 .bo]⟩ .l (.c (.s .l .l) .l)) (.s (.s .l (.b (.lp ⟨[0,22],[],[],[.sl 23 (.i .i64)]⟩ (.s .l (.s (.c .l .l) (.s (.b (.s .l (.j ⟨[0,22,23],[],[],[.sl 37 .bo]⟩ .l (.c (.s .l .l) .l)))) .l)))))) (.s .l .l)))
abbrev Py:CTt:=[(90,De),(91,PE),(92,tL)]
theorem M7 (a0_s:List UInt8) (KK:Bool->Prop):Jm a0_s KK=bc ⟨Tryz.prog,eU,Py,[],noP⟩ Tryz.f45 Kn [.s] [.bo] a0_s KK:=by kernel_rfl
theorem Gd:Cont Tryz.prog 45 A7:=k0 ⟨Tryz.prog,eU,Py,[],noP⟩ (En.okc Pi (En.okc UH (En.okc DR En.ok0))) mixed (fn:=Tryz.f45) Kn (by kernel_rfl) (by kernel_rfl) (fun a0_s KK h=>Eq.mp (M7 a0_s KK) (QN a0_s KK h))
def dC:CKt:=kQ [.s] [.s] (fun x=>True) (fun x=>Lt.bP x)
def xT:An:=.s .l (.c .l .l)
def yD:CKt:=aN ⟨Tryz.prog,eU,[(76,af)],[],noP⟩ Tryz.f36 xT
def Ep:An:=.s .l (.s .l (.s .l .l))
abbrev JS:CTt:=[(36,yD),(45,A7)]
theorem IN (a0_w:List UInt8) (KK:(List UInt8)->Prop) (KP:Value->Prop):Cg a0_w KK KP=pi ⟨Tryz.prog,eU,JS,[],noP⟩ Tryz.f70 Ep [.s] [.s] a0_w KK KP:=by kernel_rfl
theorem dX:Cont Tryz.prog 70 dC:=k4 ⟨Tryz.prog,eU,JS,[],noP⟩ (En.okc (ab (En.okc ah En.ok0) mixed (fn:=Tryz.f36) (by kernel_rfl) (by kernel_rfl) (by kernel_rfl) (by kernel_rfl) (by kernel_rfl)) (En.okc Gd En.ok0)) mixed (fn:=Tryz.f70) Ep (by kernel_rfl) (by kernel_rfl) (fun a0_w hp KK KP h=>Eq.mp (IN a0_w KK KP) (LN a0_w KK KP h))
def S7:CKt:=aE [.s,(.i .i64)] [.s] (fun x=>Lt.nth x.1 x.2)
def Qr:An:=.s .l (.s .l (.s (.s .l (.b (.lp ⟨[0],[],[],[.sl 1 (.i .i64),.sl 5 (.i .i64),.sl 6 (.i .i64)]⟩ (.s (.s .l (.c .l .l)) (.j ⟨[0,6],[],[],[.sl 1 (.i .i64),.sl 5 (.i .i64)]⟩ (.b (.s (.s .l (.c .l .l)) (.s (.s .l (.s .l (.c (.s .l .l) .l))) .l))) .l))))) (.s .l .l)))
theorem OG (a0_list:List UInt8) (a1_n:Int) (KK:(List UInt8)->Prop):On a0_list a1_n KK=bc ⟨Tryz.prog,eU,[],[],noP⟩ Tryz.f111 Qr [.s,(.i .i64)] [.s] (a0_list,a1_n) KK:=by kernel_rfl
theorem VM:Cont Tryz.prog 111 S7:=k0 ⟨Tryz.prog,eU,[],[],noP⟩ En.ok0 mixed (fn:=Tryz.f111) Qr (by kernel_rfl) (by kernel_rfl) (fun (a0_list,a1_n) KK h=>Eq.mp (OG a0_list a1_n KK) (SU a0_list a1_n KK h))
def Tu:CKt:=aE [(.i .i64)] [(.st .Form),.bo] (fun x=>Lt.Of x)
def Tn:An:=.s .l (.s (.b (.j ⟨[0,2],[.loc 2],[],[.sl 4 .bo]⟩ .l (.c (.s .l .l) (.j ⟨[0,2],[.loc 2],[],[.sl 14 .bo]⟩ .l (.c (.s .l .l) .l))))) (.s (.s .l (.b (.s .l (.c (.s .l .l) (.s .l (.c (.s .l .l) (.s .l (.c (.s .l .l) (.s .l (.c (.s .l .l) (.s .l (.c (.s .l .l) (.s .l (.c (.s .l .l) (.s .l (.c (.s .l .l) (.s .l (.c (.s .l .l) (.s .l (.c (.s .l .l) (.s .l (.c (.s .l .l) .l)))))))))))))))))))))) (.s .l .l)))
abbrev Vw:CTt:=[(111,S7)]
theorem RR (a0_op:Int) (KK:(Lt.Form×Bool)->Prop):Uf a0_op KK=bc ⟨Tryz.prog,eU,Vw,[],noP⟩ Tryz.f72 Tn [(.i .i64)] [(.st .Form),.bo] a0_op KK:=by kernel_rfl
theorem Vp:Cont Tryz.prog 72 Tu:=k0 ⟨Tryz.prog,eU,Vw,[],noP⟩ (En.okc VM En.ok0) mixed (fn:=Tryz.f72) Tn (by kernel_rfl) (by kernel_rfl) (fun a0_op KK h=>Eq.mp (RR a0_op KK) (UD a0_op KK h))
def S5:CKt:=aE [.s] [(.i .i64),.bo] (fun x=>Lt.yOp x)
def O7:An:=.s .l (.s (.s .l (.b (.lp ⟨[0],[],[],[.sl 4 (.i .i64)]⟩ (.s (.s .l (.c .l .l)) (.s (.b (.s .l (.s .l (.c (.s .l .l) .l)))) .l))))) (.s .l .l))
abbrev Tb:CTt:=[(72,Tu)]
theorem QB (a0_w:List UInt8) (KK:(Int×Bool)->Prop):NZ a0_w KK=bc ⟨Tryz.prog,eU,Tb,[],noP⟩ Tryz.f71 O7 [.s] [(.i .i64),.bo] a0_w KK:=by kernel_rfl
theorem U7:Cont Tryz.prog 71 S5:=k0 ⟨Tryz.prog,eU,Tb,[],noP⟩ (En.okc Vp En.ok0) mixed (fn:=Tryz.f71) O7 (by kernel_rfl) (by kernel_rfl) (fun a0_w KK h=>Eq.mp (QB a0_w KK) (Ru a0_w KK h))
def mN:CKt:=aE [.s] [(.i .i64),.bo] (fun x=>Lt.dc x)
def Au:An:=.s .l (.s (.j ⟨[0],[],[],[.sl 13 .bo]⟩ .l (.c (.s .l .l) .l)) (.s .l (.j ⟨[0],[],[],[.sl 4 (.i .i64)]⟩ (.s .l (.c .l .l)) (.s .l (.s (.s .l (.b (.lp ⟨[0,4],[],[],[.sl 5 (.i .i64),.sl 6 (.i .i64)]⟩ (.s (.s .l (.c .l .l)) (.s (.b (.s (.j ⟨[0,4,5,6],[],[],[.sl 33 .bo]⟩ .l (.c (.s .l .l) .l)) .l)) .l))))) (.j ⟨[0],[],[],[.sl 5 (.i .i64)]⟩ (.s .l (.c .l .l)) (.s (.s .l (.c (.s .l .l) .l)) (.s .l .l))))))))
abbrev DP:CTt:=[(47,DL)]
theorem D2 (a0_s:List UInt8) (KK:(Int×Bool)->Prop):wW a0_s KK=bc ⟨Tryz.prog,eU,DP,[],noP⟩ Tryz.f110 Au [.s] [(.i .i64),.bo] a0_s KK:=by kernel_rfl
theorem pN:Cont Tryz.prog 110 mN:=k0 ⟨Tryz.prog,eU,DP,[],noP⟩ (En.okc O5 En.ok0) mixed (fn:=Tryz.f110) Au (by kernel_rfl) (by kernel_rfl) (fun a0_s KK h=>Eq.mp (D2 a0_s KK) (Ix a0_s KK h))
def JB:CKt:=aE [(.i .i64)] [(.i .i64)] (fun x=>Lt.Plain x)
def Fy:An:=.s .l (.s (.j ⟨[0],[],[],[.sl 10 .bo]⟩ .l (.c (.s .l .l) .l)) (.s .l .l))
theorem G6 (a0_n:Int) (KK:Int->Prop):BT a0_n KK=bc ⟨Tryz.prog,eU,[],[],noP⟩ Tryz.f122 Fy [(.i .i64)] [(.i .i64)] a0_n KK:=by kernel_rfl
theorem Sy:Cont Tryz.prog 122 JB:=k0 ⟨Tryz.prog,eU,[],[],noP⟩ En.ok0 mixed (fn:=Tryz.f122) Fy (by kernel_rfl) (by kernel_rfl) (fun a0_n KK h=>Eq.mp (G6 a0_n KK) (MU a0_n KK h))
def Fj:CKt:=aE [.s] [(.i .i64),.bo] (fun x=>Lt.sT x)
def zp:An:=.s .l (.s .l (.s (.j ⟨[4],[],[],[.sl 21 .bo]⟩ .l (.c (.s .l .l) .l)) (.s .l (.s (.s .l (.b (.lp ⟨[4,23],[],[],[.sl 6 (.i .u64),.sl 24 (.i .i64)]⟩ (.s .l (.s (.c .l .l) (.s (.b (.s .l (.s .l (.s (.s .l (.c (.s .l .l) .l)) .l)))) .l)))))) (.s .l (.s (.s .l (.c (.s .l .l) .l)) (.s .l .l)))))))
abbrev DS:CTt:=[(122,JB),(146,JV),(147,F8)]
theorem Cz (a0_s:List UInt8) (KK:(Int×Bool)->Prop):mQ a0_s KK=bc ⟨Tryz.prog,eU,DS,[],noP⟩ Tryz.f144 zp [.s] [(.i .i64),.bo] a0_s KK:=by kernel_rfl
theorem PG:Cont Tryz.prog 144 Fj:=k0 ⟨Tryz.prog,eU,DS,[],noP⟩ (En.okc Sy (En.okc Q2 (En.okc Qp En.ok0))) mixed (fn:=Tryz.f144) zp (by kernel_rfl) (by kernel_rfl) (fun a0_s KK h=>Eq.mp (Cz a0_s KK) (GM a0_s KK h))
def pZ:CKt:=aE [.s] [(.st .Arg),.bo] (fun x=>Lt.fV x)
def ol:An:=.s .l (.s (.s .l (.s .l (.c (.s .l .l) .l))) (.s .l (.s (.s .l (.c (.s .l .l) .l)) (.s .l .l))))
abbrev pK:CTt:=[(110,mN),(144,Fj)]
theorem uw (a0_s:List UInt8) (KK:(Lt.Arg×Bool)->Prop):lK a0_s KK=bc ⟨Tryz.prog,eU,pK,[],noP⟩ Tryz.f141 ol [.s] [(.st .Arg),.bo] a0_s KK:=by kernel_rfl
theorem BR:Cont Tryz.prog 141 pZ:=k0 ⟨Tryz.prog,eU,pK,[],noP⟩ (En.okc pN (En.okc PG En.ok0)) mixed (fn:=Tryz.f141) ol (by kernel_rfl) (by kernel_rfl) (fun a0_s KK h=>Eq.mp (uw a0_s KK) (xP a0_s KK h))
def zu:CKt:=aE [.s] [(.st .Arg),.bo] (fun x=>Lt.kS x)
def vv:An:=.s .l (.s (.b (.s .l (.c (.s .l .l) (.s .l (.c (.s .l .l) (.s .l (.c (.s .l .l) (.s .l (.c (.s .l (.s (.j ⟨[2,4],[.loc 2],[],[.sl 38 .bo]⟩ .l (.c (.s .l .l) .l)) (.s .l .l))) .l))))))))) (.s .l .l))
abbrev AK:CTt:=[(45,A7),(110,mN),(141,pZ)]
theorem BK (a0_s:List UInt8) (KK:(Lt.Arg×Bool)->Prop):sG a0_s KK=bc ⟨Tryz.prog,eU,AK,[],noP⟩ Tryz.f131 vv [.s] [(.st .Arg),.bo] a0_s KK:=by kernel_rfl
theorem LX:Cont Tryz.prog 131 zu:=k0 ⟨Tryz.prog,eU,AK,[],noP⟩ (En.okc Gd (En.okc pN (En.okc BR En.ok0))) mixed (fn:=Tryz.f131) vv (by kernel_rfl) (by kernel_rfl) (fun a0_s KK h=>Eq.mp (BK a0_s KK) (Df a0_s KK h))
def sS:CKt:=kQ [.s,.bo] [(.st .Arg)] (fun x=>True) (fun x=>Lt.tX x.1 x.2)
def yG:An:=.s .l (.c .l .l)
def Ba:CKt:=aN ⟨Tryz.prog,eU,[(76,af)],[],noP⟩ Tryz.f36 yG
def KO:An:=.s .l (.s .l (.j ⟨[4,5],[.loc 4,.loc 5],[],[]⟩ .l (.s .l .l)))
abbrev Om:CTt:=[(36,Ba),(131,zu)]
theorem MN (a0_w:List UInt8) (a1_objs:Bool) (KK:Lt.Arg->Prop) (KP:Value->Prop):Gi a0_w a1_objs KK KP=pi ⟨Tryz.prog,eU,Om,[],noP⟩ Tryz.f108 KO [.s,.bo] [(.st .Arg)] (a0_w,a1_objs) KK KP:=by kernel_rfl
theorem xE:Cont Tryz.prog 108 sS:=k4 ⟨Tryz.prog,eU,Om,[],noP⟩ (En.okc (ab (En.okc ah En.ok0) mixed (fn:=Tryz.f36) (by kernel_rfl) (by kernel_rfl) (by kernel_rfl) (by kernel_rfl) (by kernel_rfl)) (En.okc LX En.ok0)) mixed (fn:=Tryz.f108) KO (by kernel_rfl) (by kernel_rfl) (fun (a0_w,a1_objs) hp KK KP h=>Eq.mp (MN a0_w a1_objs KK KP) (N9 a0_w a1_objs KK KP h))
def Cb:CKt:=kQ [(.sl .s),.bo] [(.sl (.st .Arg))] (fun x=>Lt.bU x.1 x.2) (fun x=>Lt.mV x.1 x.2)
def FJ:An:=.s .l (.s .l (.s (.s .l (.b (.lp ⟨[1,8,9],[],[],[.ow 5 [.fr,.fr,.fr] (.st .Arg),.sl 10 (.i .i64)]⟩ (.s .l (.s (.c .l .l) (.s (.b (.s .l .l)) .l)))))) (.s .l .l)))
abbrev JU:CTt:=[(108,sS)]
theorem Gk (a0_l:List (List UInt8)) (a1_objs:Bool) (KK:(List Lt.Arg)->Prop) (KP:Value->Prop):A3 a0_l a1_objs KK KP=pi ⟨Tryz.prog,eU,JU,[],noP⟩ Tryz.f73 FJ [(.sl .s),.bo] [(.sl (.st .Arg))] (a0_l,a1_objs) KK KP:=by kernel_rfl
theorem Km:Cont Tryz.prog 73 Cb:=k4 ⟨Tryz.prog,eU,JU,[],noP⟩ (En.okc xE En.ok0) mixed (fn:=Tryz.f73) FJ (by kernel_rfl) (by kernel_rfl) (fun (a0_l,a1_objs) hp KK KP h=>Eq.mp (Gk a0_l a1_objs KK KP) (Mz a0_l a1_objs hp KK KP h))
def Ka:CKt:=fx sh1 (.st .Reader) [(.sl .s)] [] (fun x y=>Lt.ap x y) (fun x y=>Lt.qM x y)
def kw:An:=.s .l (.c .l .l)
def lP:CKt:=aN ⟨Tryz.prog,eU,[(76,af)],eS,noP⟩ Tryz.f36 kw
def qJ:An:=.l
def rN:CKt:=aN ⟨Tryz.prog,eU,[(36,lP),(37,fE)],eS,noP⟩ Tryz.f16 qJ
def vE:An:=.s .l (.c .l .l)
def yq:CKt:=aN ⟨Tryz.prog,eU,[(76,af)],eS,noP⟩ Tryz.f36 vE
def wJ:An:=.s .l (.s .l (.s (.s .l (.b (.lp ⟨[1,8,9,100000,100004,100005,100007,100009,100059,100066,100067,100068,100069,100070,100071,100072,100073,100074,100075,100076,100078,100079],[.loc 4,.loc 7,.out 0],[],[.ow 5 [.fr,.fr,.fr] (.st .Arg),.sl 10 (.i .i64)]⟩ (.s .l (.s (.c .l .l) (.s (.b (.s .l .l)) .l)))))) (.s .l .l)))
def yJ:CKt:=aN ⟨Tryz.prog,eU,[(108,sS)],eS,noP⟩ Tryz.f73 wJ
def lN:An:=.s .l (.c .l .l)
def l9:CKt:=aN ⟨Tryz.prog,eU,[(76,af)],eS,noP⟩ Tryz.f103 lN
def vH:An:=.s .l .l
def yK:CKt:=aN ⟨Tryz.prog,eU,[(103,l9)],eS,noP⟩ Tryz.f74 vH
def mU:An:=.s .l (.s .l .l)
def oe:CKt:=aN ⟨Tryz.prog,eU,[],eS,noP⟩ Tryz.f106 mU
def ue:An:=.s .l (.s .l (.s .l .l))
def xm:CKt:=aN ⟨Tryz.prog,eU,[(106,oe)],eS,noP⟩ Tryz.f75 ue
def D5:An:=.s .l (.s .l (.j ⟨[0,4],[.out 0],[],[.sl 1 (.sl .s),.rt (.loc 4) sh5 (.st .Instr)]⟩ (.j ⟨[0,1,4],[.loc 4,.out 0],[],[.sl 23 .bo]⟩ .l (.c (.s .l .l) .l)) (.s .l (.s .l (.s .l (.s .l (.s .l (.s .l (.j ⟨[0,4,5,7],[.loc 7,.out 0],[],[.rt (.loc 4) [.fr,.fr,.fr,.fr,.ow [],.ow []] (.st .Instr)]⟩ (.b (.j ⟨[0,4,5,7,9],[.loc 4,.loc 7,.out 0],[],[.sl 59 .bo]⟩ .l (.c (.s .l (.s .l .l)) (.s .l (.c (.s .l (.s .l .l)) .l))))) (.j ⟨[0,4,5],[.loc 4,.out 0],[],[]⟩ .l (.s .l (.s .l (.j ⟨[0,5],[],[],[.rt (.out 0) sh1 (.st .Reader)]⟩ .l (.s .l (.j ⟨[0],[.out 0],[],[.sl 136 .bo]⟩ .l (.c .l .l))))))))))))))))
abbrev JQ:CTt:=[(16,rN),(36,yq),(70,dC),(71,S5),(72,Tu),(73,(Q4 76 yJ Cb)),(74,yK),(75,xm)]
theorem Gl (a0_r:Lt.Reader) (a1_l:List (List UInt8)) (KK:((Unit)×Lt.Reader)->Prop) (KP:Value->Lt.Reader->Prop):A2 a0_r a1_l KK KP=cH ⟨Tryz.prog,eU,JQ,eS,noP⟩ Tryz.f35 D5 sh1 (.st .Reader) [(.sl .s)] [] a0_r a1_l KK KP:=by kernel_rfl
theorem Sa:Cont Tryz.prog 35 Ka:=k5 ⟨Tryz.prog,eU,JQ,eS,noP⟩ (En.okc (ab (En.okc (ab (En.okc ah En.ok0) mixed (fn:=Tryz.f36) (by kernel_rfl) (by kernel_rfl) (by kernel_rfl) (by kernel_rfl) (by kernel_rfl)) (En.okc fN En.ok0)) mixed (fn:=Tryz.f16) (by kernel_rfl) (by kernel_rfl) (by kernel_rfl) (by kernel_rfl) (by kernel_rfl)) (En.okc (ab (En.okc ah En.ok0) mixed (fn:=Tryz.f36) (by kernel_rfl) (by kernel_rfl) (by kernel_rfl) (by kernel_rfl) (by kernel_rfl)) (En.okc dX (En.okc U7 (En.okc Vp (En.okc (OW (ab (En.okc xE En.ok0) mixed (fn:=Tryz.f73) (by kernel_rfl) (by kernel_rfl) (by kernel_rfl) (by kernel_rfl) (by kernel_rfl)) Km) (En.okc (ab (En.okc (ab (En.okc ah En.ok0) mixed (fn:=Tryz.f103) (by kernel_rfl) (by kernel_rfl) (by kernel_rfl) (by kernel_rfl) (by kernel_rfl)) En.ok0) mixed (fn:=Tryz.f74) (by kernel_rfl) (by kernel_rfl) (by kernel_rfl) (by kernel_rfl) (by kernel_rfl)) (En.okc (ab (En.okc (ab En.ok0 mixed (fn:=Tryz.f106) (by kernel_rfl) (by kernel_rfl) (by kernel_rfl) (by kernel_rfl) (by kernel_rfl)) En.ok0) mixed (fn:=Tryz.f75) (by kernel_rfl) (by kernel_rfl) (by kernel_rfl) (by kernel_rfl) (by kernel_rfl)) En.ok0)))))))) mixed (fn:=Tryz.f35) D5 (by kernel_rfl) (by kernel_rfl) (fun a0_r a1_l hp KK KP h=>Eq.mp (Gl a0_r a1_l KK KP) (Nd a0_r a1_l hp KK KP h))
def NP:CKt:=fx sh1 (.st .Reader) [(.sl .s)] [] (fun x y=>Lt.ap x y) (fun x y=>Lt.Qn x y)
def yk:An:=.s .l (.c .l .l)
def Cp:CKt:=aN ⟨Tryz.prog,eU,[(76,af)],eS,noP⟩ Tryz.f36 yk
def Lh:An:=.j ⟨[0],[.out 0],[],[]⟩ .l .l
abbrev P9:CTt:=[(36,Cp)]
theorem MS (a0_r:Lt.Reader) (a1_l:List (List UInt8)) (KK:((Unit)×Lt.Reader)->Prop) (KP:Value->Lt.Reader->Prop):GN a0_r a1_l KK KP=cH ⟨Tryz.prog,eU,P9,eS,noP⟩ Tryz.f57 Lh sh1 (.st .Reader) [(.sl .s)] [] a0_r a1_l KK KP:=by kernel_rfl
theorem UY:Cont Tryz.prog 57 NP:=k5 ⟨Tryz.prog,eU,P9,eS,noP⟩ (En.okc (ab (En.okc ah En.ok0) mixed (fn:=Tryz.f36) (by kernel_rfl) (by kernel_rfl) (by kernel_rfl) (by kernel_rfl) (by kernel_rfl)) En.ok0) mixed (fn:=Tryz.f57) Lh (by kernel_rfl) (by kernel_rfl) (fun a0_r a1_l hp KK KP h=>Eq.mp (MS a0_r a1_l KK KP) (P6 a0_r a1_l hp KK KP h))
def FM:CKt:=fx sh1 (.st .Reader) [(.sl .s)] [] (fun x y=>Lt.ap x y) (fun x y=>Lt.xx x y)
def jK:An:=.s .l (.c .l .l)
def kH:CKt:=aN ⟨Tryz.prog,eU,[(76,af)],eS,noP⟩ Tryz.f36 jK
def o8:An:=.l
def p9:CKt:=aN ⟨Tryz.prog,eU,[(36,kH),(37,fE)],eS,noP⟩ Tryz.f16 o8
def um:An:=.s .l (.c .l .l)
def wK:CKt:=aN ⟨Tryz.prog,eU,[(76,af)],eS,noP⟩ Tryz.f36 um
def qw:An:=.s .l (.c .l .l)
def se:CKt:=aN ⟨Tryz.prog,eU,[(76,af)],eS,noP⟩ Tryz.f103 qw
def yX:An:=.s .l (.s .l (.s .l (.s .l (.j ⟨[0],[],[],[.rt (.out 0) sh1 (.st .Reader)]⟩ .l .l))))
abbrev C6:CTt:=[(16,p9),(36,wK),(70,dC),(103,se)]
theorem EN (a0_r:Lt.Reader) (a1_l:List (List UInt8)) (KK:((Unit)×Lt.Reader)->Prop) (KP:Value->Lt.Reader->Prop):vQ a0_r a1_l KK KP=cH ⟨Tryz.prog,eU,C6,eS,noP⟩ Tryz.f58 yX sh1 (.st .Reader) [(.sl .s)] [] a0_r a1_l KK KP:=by kernel_rfl
theorem O3:Cont Tryz.prog 58 FM:=k5 ⟨Tryz.prog,eU,C6,eS,noP⟩ (En.okc (ab (En.okc (ab (En.okc ah En.ok0) mixed (fn:=Tryz.f36) (by kernel_rfl) (by kernel_rfl) (by kernel_rfl) (by kernel_rfl) (by kernel_rfl)) (En.okc fN En.ok0)) mixed (fn:=Tryz.f16) (by kernel_rfl) (by kernel_rfl) (by kernel_rfl) (by kernel_rfl) (by kernel_rfl)) (En.okc (ab (En.okc ah En.ok0) mixed (fn:=Tryz.f36) (by kernel_rfl) (by kernel_rfl) (by kernel_rfl) (by kernel_rfl) (by kernel_rfl)) (En.okc dX (En.okc (ab (En.okc ah En.ok0) mixed (fn:=Tryz.f103) (by kernel_rfl) (by kernel_rfl) (by kernel_rfl) (by kernel_rfl) (by kernel_rfl)) En.ok0)))) mixed (fn:=Tryz.f58) yX (by kernel_rfl) (by kernel_rfl) (fun a0_r a1_l hp KK KP h=>Eq.mp (EN a0_r a1_l KK KP) (Jn a0_r a1_l hp KK KP h))
def np:CKt:=kQ [.s] [.s] (fun x=>True) (fun x=>Lt.fa x)
def vT:An:=.s .l (.c .l .l)
def yI:CKt:=aN ⟨Tryz.prog,eU,[(76,af)],[],noP⟩ Tryz.f36 vT
def Eh:An:=.s .l (.j ⟨[0],[],[],[]⟩ .l (.s .l .l))
abbrev Jv:CTt:=[(36,yI),(45,A7)]
theorem Je (a0_w:List UInt8) (KK:(List UInt8)->Prop) (KP:Value->Prop):BQ a0_w KK KP=pi ⟨Tryz.prog,eU,Jv,[],noP⟩ Tryz.f104 Eh [.s] [.s] a0_w KK KP:=by kernel_rfl
theorem pT:Cont Tryz.prog 104 np:=k4 ⟨Tryz.prog,eU,Jv,[],noP⟩ (En.okc (ab (En.okc ah En.ok0) mixed (fn:=Tryz.f36) (by kernel_rfl) (by kernel_rfl) (by kernel_rfl) (by kernel_rfl) (by kernel_rfl)) (En.okc Gd En.ok0)) mixed (fn:=Tryz.f104) Eh (by kernel_rfl) (by kernel_rfl) (fun a0_w hp KK KP h=>Eq.mp (Je a0_w KK KP) (MI a0_w KK KP h))
def Dp:CKt:=fx sh1 (.st .Reader) [(.sl .s)] [] (fun x y=>Lt.ap x y) (fun x y=>Lt.vG x y)
def jH:An:=.s .l (.c .l .l)
def kj:CKt:=aN ⟨Tryz.prog,eU,[(76,af)],eS,noP⟩ Tryz.f36 jH
def pg:An:=.l
def pV:CKt:=aN ⟨Tryz.prog,eU,[(36,kj),(37,fE)],eS,noP⟩ Tryz.f16 pg
def ub:An:=.s .l (.c .l .l)
def wu:CKt:=aN ⟨Tryz.prog,eU,[(76,af)],eS,noP⟩ Tryz.f36 ub
def qW:An:=.s .l (.c .l .l)
def sY:CKt:=aN ⟨Tryz.prog,eU,[(76,af)],eS,noP⟩ Tryz.f103 qW
def yU:An:=.s .l (.s .l (.j ⟨[0],[.out 0],[(4,.loc 4,0)],[.rt (.loc 4) [.fr,.fr] (.st .Var)]⟩ .l (.s .l (.s .l .l))))
abbrev EC:CTt:=[(16,pV),(36,wu),(70,dC),(103,sY),(104,np)]
theorem EO (a0_r:Lt.Reader) (a1_l:List (List UInt8)) (KK:((Unit)×Lt.Reader)->Prop) (KP:Value->Lt.Reader->Prop):xA a0_r a1_l KK KP=cH ⟨Tryz.prog,eU,EC,eS,noP⟩ Tryz.f59 yU sh1 (.st .Reader) [(.sl .s)] [] a0_r a1_l KK KP:=by kernel_rfl
theorem QD:Cont Tryz.prog 59 Dp:=k5 ⟨Tryz.prog,eU,EC,eS,noP⟩ (En.okc (ab (En.okc (ab (En.okc ah En.ok0) mixed (fn:=Tryz.f36) (by kernel_rfl) (by kernel_rfl) (by kernel_rfl) (by kernel_rfl) (by kernel_rfl)) (En.okc fN En.ok0)) mixed (fn:=Tryz.f16) (by kernel_rfl) (by kernel_rfl) (by kernel_rfl) (by kernel_rfl) (by kernel_rfl)) (En.okc (ab (En.okc ah En.ok0) mixed (fn:=Tryz.f36) (by kernel_rfl) (by kernel_rfl) (by kernel_rfl) (by kernel_rfl) (by kernel_rfl)) (En.okc dX (En.okc (ab (En.okc ah En.ok0) mixed (fn:=Tryz.f103) (by kernel_rfl) (by kernel_rfl) (by kernel_rfl) (by kernel_rfl) (by kernel_rfl)) (En.okc pT En.ok0))))) mixed (fn:=Tryz.f59) yU (by kernel_rfl) (by kernel_rfl) (fun a0_r a1_l hp KK KP h=>Eq.mp (EO a0_r a1_l KK KP) (IP a0_r a1_l hp KK KP h))
def Ai:CKt:=fx sh1 (.st .Reader) [(.sl .s)] [] (fun x y=>Lt.ap x y) (fun x y=>Lt.p6 x y)
def ja:An:=.s .l (.c .l .l)
def jS:CKt:=aN ⟨Tryz.prog,eU,[(76,af)],eS,noP⟩ Tryz.f36 ja
def nT:An:=.l
def oY:CKt:=aN ⟨Tryz.prog,eU,[(36,jS),(37,fE)],eS,noP⟩ Tryz.f16 nT
def sW:An:=.s .l (.c .l .l)
def uh:CKt:=aN ⟨Tryz.prog,eU,[(76,af)],eS,noP⟩ Tryz.f36 sW
def oK:An:=.s .l (.c .l .l)
def qH:CKt:=aN ⟨Tryz.prog,eU,[(76,af)],eS,noP⟩ Tryz.f103 oK
def xO:An:=.s .l (.s .l (.j ⟨[0],[.out 0],[(4,.loc 4,0)],[.rt (.loc 4) [.fr,.fr] (.st .Var)]⟩ .l (.s .l (.j ⟨[0],[],[],[.rt (.out 0) sh1 (.st .Reader)]⟩ .l .l))))
abbrev AF:CTt:=[(16,oY),(36,uh),(70,dC),(103,qH),(104,np)]
theorem Be (a0_r:Lt.Reader) (a1_l:List (List UInt8)) (KK:((Unit)×Lt.Reader)->Prop) (KP:Value->Lt.Reader->Prop):sn a0_r a1_l KK KP=cH ⟨Tryz.prog,eU,AF,eS,noP⟩ Tryz.f60 xO sh1 (.st .Reader) [(.sl .s)] [] a0_r a1_l KK KP:=by kernel_rfl
theorem MX:Cont Tryz.prog 60 Ai:=k5 ⟨Tryz.prog,eU,AF,eS,noP⟩ (En.okc (ab (En.okc (ab (En.okc ah En.ok0) mixed (fn:=Tryz.f36) (by kernel_rfl) (by kernel_rfl) (by kernel_rfl) (by kernel_rfl) (by kernel_rfl)) (En.okc fN En.ok0)) mixed (fn:=Tryz.f16) (by kernel_rfl) (by kernel_rfl) (by kernel_rfl) (by kernel_rfl) (by kernel_rfl)) (En.okc (ab (En.okc ah En.ok0) mixed (fn:=Tryz.f36) (by kernel_rfl) (by kernel_rfl) (by kernel_rfl) (by kernel_rfl) (by kernel_rfl)) (En.okc dX (En.okc (ab (En.okc ah En.ok0) mixed (fn:=Tryz.f103) (by kernel_rfl) (by kernel_rfl) (by kernel_rfl) (by kernel_rfl) (by kernel_rfl)) (En.okc pT En.ok0))))) mixed (fn:=Tryz.f60) xO (by kernel_rfl) (by kernel_rfl) (fun a0_r a1_l hp KK KP h=>Eq.mp (Be a0_r a1_l KK KP) (Fm a0_r a1_l hp KK KP h))
def sB:CKt:=kQ [.s,(.i .i64),(.i .i64)] [(.i .i64)] (fun x=>True) (fun x=>Lt.kW x.1 x.2.1 x.2.2)
def sD:An:=.s .l (.c .l .l)
def tT:CKt:=aN ⟨Tryz.prog,eU,[(76,af)],[],noP⟩ Tryz.f36 sD
def vP:An:=.s .l (.s .l (.j ⟨[7],[],[],[]⟩ .l (.s .l .l)))
abbrev Aj:CTt:=[(36,tT),(110,mN)]
theorem BY (a0_w:List UInt8) (a1_least:Int) (a2_most:Int) (KK:Int->Prop) (KP:Value->Prop):rY a0_w a1_least a2_most KK KP=pi ⟨Tryz.prog,eU,Aj,[],noP⟩ Tryz.f105 vP [.s,(.i .i64),(.i .i64)] [(.i .i64)] (a0_w,a1_least,a2_most) KK KP:=by kernel_rfl
theorem zg:Cont Tryz.prog 105 sB:=k4 ⟨Tryz.prog,eU,Aj,[],noP⟩ (En.okc (ab (En.okc ah En.ok0) mixed (fn:=Tryz.f36) (by kernel_rfl) (by kernel_rfl) (by kernel_rfl) (by kernel_rfl) (by kernel_rfl)) (En.okc pN En.ok0)) mixed (fn:=Tryz.f105) vP (by kernel_rfl) (by kernel_rfl) (fun (a0_w,a1_least,a2_most) hp KK KP h=>Eq.mp (BY a0_w a1_least a2_most KK KP) (Dg a0_w a1_least a2_most KK KP h))
def As:CKt:=fx sh1 (.st .Reader) [(.sl .s)] [] (fun x y=>Lt.ap x y) (fun x y=>Lt.q7 x y)
def jc:An:=.s .l (.c .l .l)
def jT:CKt:=aN ⟨Tryz.prog,eU,[(76,af)],eS,noP⟩ Tryz.f36 jc
def nS:An:=.l
def oU:CKt:=aN ⟨Tryz.prog,eU,[(36,jT),(37,fE)],eS,noP⟩ Tryz.f16 nS
def r8:An:=.s .l (.c .l .l)
def tZ:CKt:=aN ⟨Tryz.prog,eU,[(76,af)],eS,noP⟩ Tryz.f36 r8
def pq:An:=.s .l (.c .l .l)
def pI:CKt:=aN ⟨Tryz.prog,eU,[(76,af)],eS,noP⟩ Tryz.f103 pq
def x9:An:=.s .l (.s .l (.j ⟨[0],[.out 0],[(4,.loc 4,0)],[.rt (.loc 4) [.fr,.fr] (.st .Extern)]⟩ .l (.s .l (.j ⟨[0],[],[],[.rt (.out 0) sh1 (.st .Reader)]⟩ .l .l))))
abbrev zd:CTt:=[(16,oU),(36,tZ),(70,dC),(103,pI),(105,sB)]
theorem BJ (a0_r:Lt.Reader) (a1_l:List (List UInt8)) (KK:((Unit)×Lt.Reader)->Prop) (KP:Value->Lt.Reader->Prop):sm a0_r a1_l KK KP=cH ⟨Tryz.prog,eU,zd,eS,noP⟩ Tryz.f61 x9 sh1 (.st .Reader) [(.sl .s)] [] a0_r a1_l KK KP:=by kernel_rfl
theorem Mw:Cont Tryz.prog 61 As:=k5 ⟨Tryz.prog,eU,zd,eS,noP⟩ (En.okc (ab (En.okc (ab (En.okc ah En.ok0) mixed (fn:=Tryz.f36) (by kernel_rfl) (by kernel_rfl) (by kernel_rfl) (by kernel_rfl) (by kernel_rfl)) (En.okc fN En.ok0)) mixed (fn:=Tryz.f16) (by kernel_rfl) (by kernel_rfl) (by kernel_rfl) (by kernel_rfl) (by kernel_rfl)) (En.okc (ab (En.okc ah En.ok0) mixed (fn:=Tryz.f36) (by kernel_rfl) (by kernel_rfl) (by kernel_rfl) (by kernel_rfl) (by kernel_rfl)) (En.okc dX (En.okc (ab (En.okc ah En.ok0) mixed (fn:=Tryz.f103) (by kernel_rfl) (by kernel_rfl) (by kernel_rfl) (by kernel_rfl) (by kernel_rfl)) (En.okc zg En.ok0))))) mixed (fn:=Tryz.f61) x9 (by kernel_rfl) (by kernel_rfl) (fun a0_r a1_l hp KK KP h=>Eq.mp (BJ a0_r a1_l KK KP) (Eu a0_r a1_l hp KK KP h))
def tk:CKt:=fx sh1 (.st .Reader) [(.sl .s)] [] (fun x y=>Lt.ap x y) (fun x y=>Lt.km x y)
def ik:An:=.s .l (.c .l .l)
def iL:CKt:=aN ⟨Tryz.prog,eU,[(76,af)],eS,noP⟩ Tryz.f36 ik
def lW:An:=.l
def mL:CKt:=aN ⟨Tryz.prog,eU,[(36,iL),(37,fE)],eS,noP⟩ Tryz.f16 lW
def oP:An:=.s .l (.c .l .l)
def pS:CKt:=aN ⟨Tryz.prog,eU,[(76,af)],eS,noP⟩ Tryz.f36 oP
def mA:An:=.s .l (.c .l .l)
def nV:CKt:=aN ⟨Tryz.prog,eU,[(76,af)],eS,noP⟩ Tryz.f103 mA
def qD:An:=.s .l (.s .l (.j ⟨[0],[.out 0],[(4,.loc 4,0)],[.rt (.loc 4) [.fr,.fr,.ow [],.ow [],.ow []] (.st .Func)]⟩ .l (.s .l (.j ⟨[0],[],[],[.rt (.out 0) sh1 (.st .Reader)]⟩ .l .l))))
abbrev ta:CTt:=[(16,mL),(36,pS),(70,dC),(103,nV),(104,np)]
theorem wo (a0_r:Lt.Reader) (a1_l:List (List UInt8)) (KK:((Unit)×Lt.Reader)->Prop) (KP:Value->Lt.Reader->Prop):m6 a0_r a1_l KK KP=cH ⟨Tryz.prog,eU,ta,eS,noP⟩ Tryz.f62 qD sh1 (.st .Reader) [(.sl .s)] [] a0_r a1_l KK KP:=by kernel_rfl
theorem FU:Cont Tryz.prog 62 tk:=k5 ⟨Tryz.prog,eU,ta,eS,noP⟩ (En.okc (ab (En.okc (ab (En.okc ah En.ok0) mixed (fn:=Tryz.f36) (by kernel_rfl) (by kernel_rfl) (by kernel_rfl) (by kernel_rfl) (by kernel_rfl)) (En.okc fN En.ok0)) mixed (fn:=Tryz.f16) (by kernel_rfl) (by kernel_rfl) (by kernel_rfl) (by kernel_rfl) (by kernel_rfl)) (En.okc (ab (En.okc ah En.ok0) mixed (fn:=Tryz.f36) (by kernel_rfl) (by kernel_rfl) (by kernel_rfl) (by kernel_rfl) (by kernel_rfl)) (En.okc dX (En.okc (ab (En.okc ah En.ok0) mixed (fn:=Tryz.f103) (by kernel_rfl) (by kernel_rfl) (by kernel_rfl) (by kernel_rfl) (by kernel_rfl)) (En.okc pT En.ok0))))) mixed (fn:=Tryz.f62) qD (by kernel_rfl) (by kernel_rfl) (fun a0_r a1_l hp KK KP h=>Eq.mp (wo a0_r a1_l KK KP) (yl a0_r a1_l hp KK KP h))
def FT:CKt:=fx sh1 (.st .Reader) [(.sl .s)] [] (fun x y=>Lt.ap x y) (fun x y=>Lt.vO x y)
def jI:An:=.s .l (.c .l .l)
def j7:CKt:=aN ⟨Tryz.prog,eU,[(76,af)],eS,noP⟩ Tryz.f36 jI
def pB:An:=.l
def p8:CKt:=aN ⟨Tryz.prog,eU,[(36,j7),(37,fE)],eS,noP⟩ Tryz.f16 pB
def tW:An:=.s .l (.c .l .l)
def wS:CKt:=aN ⟨Tryz.prog,eU,[(76,af)],eS,noP⟩ Tryz.f36 tW
def pH:An:=.s .l (.c .l .l)
def sJ:CKt:=aN ⟨Tryz.prog,eU,[(76,af)],eS,noP⟩ Tryz.f103 pH
def xR:An:=.s .l (.s .l .l)
def yE:CKt:=aN ⟨Tryz.prog,eU,[],eS,noP⟩ Tryz.f106 xR
def Av:An:=.s .l (.s .l (.j ⟨[0],[.out 0],[(4,.loc 4,0)],[.rt (.loc 4) [.fr,.fr] (.st .Var)]⟩ .l (.s .l (.s .l .l))))
abbrev DY:CTt:=[(16,p8),(36,wS),(70,dC),(103,sJ),(104,np),(106,yE)]
theorem Da (a0_r:Lt.Reader) (a1_l:List (List UInt8)) (KK:((Unit)×Lt.Reader)->Prop) (KP:Value->Lt.Reader->Prop):xh a0_r a1_l KK KP=cH ⟨Tryz.prog,eU,DY,eS,noP⟩ Tryz.f63 Av sh1 (.st .Reader) [(.sl .s)] [] a0_r a1_l KK KP:=by kernel_rfl
theorem P8:Cont Tryz.prog 63 FT:=k5 ⟨Tryz.prog,eU,DY,eS,noP⟩ (En.okc (ab (En.okc (ab (En.okc ah En.ok0) mixed (fn:=Tryz.f36) (by kernel_rfl) (by kernel_rfl) (by kernel_rfl) (by kernel_rfl) (by kernel_rfl)) (En.okc fN En.ok0)) mixed (fn:=Tryz.f16) (by kernel_rfl) (by kernel_rfl) (by kernel_rfl) (by kernel_rfl) (by kernel_rfl)) (En.okc (ab (En.okc ah En.ok0) mixed (fn:=Tryz.f36) (by kernel_rfl) (by kernel_rfl) (by kernel_rfl) (by kernel_rfl) (by kernel_rfl)) (En.okc dX (En.okc (ab (En.okc ah En.ok0) mixed (fn:=Tryz.f103) (by kernel_rfl) (by kernel_rfl) (by kernel_rfl) (by kernel_rfl) (by kernel_rfl)) (En.okc pT (En.okc (ab En.ok0 mixed (fn:=Tryz.f106) (by kernel_rfl) (by kernel_rfl) (by kernel_rfl) (by kernel_rfl) (by kernel_rfl)) En.ok0)))))) mixed (fn:=Tryz.f63) Av (by kernel_rfl) (by kernel_rfl) (fun a0_r a1_l hp KK KP h=>Eq.mp (Da a0_r a1_l KK KP) (Iz a0_r a1_l hp KK KP h))
def tM:CKt:=fx sh1 (.st .Reader) [(.sl .s)] [] (fun x y=>Lt.ap x y) (fun x y=>Lt.jZ x y)
def gS:An:=.s .l (.c .l .l)
def iM:CKt:=aN ⟨Tryz.prog,eU,[(76,af)],eS,noP⟩ Tryz.f36 gS
def l7:An:=.l
def mz:CKt:=aN ⟨Tryz.prog,eU,[(36,iM),(37,fE)],eS,noP⟩ Tryz.f16 l7
def pE:An:=.s .l (.c .l .l)
def qq:CKt:=aN ⟨Tryz.prog,eU,[(76,af)],eS,noP⟩ Tryz.f36 pE
def mM:An:=.s .l (.c .l .l)
def od:CKt:=aN ⟨Tryz.prog,eU,[(76,af)],eS,noP⟩ Tryz.f103 mM
def q8:An:=.s .l (.s .l .l)
def rT:CKt:=aN ⟨Tryz.prog,eU,[],eS,noP⟩ Tryz.f106 q8
def qu:An:=.s .l (.s .l (.j ⟨[0],[.out 0],[(4,.loc 4,0)],[.rt (.loc 4) [.fr,.fr] (.st .Var)]⟩ .l (.s .l (.s .l (.j ⟨[0],[],[],[.rt (.out 0) sh1 (.st .Reader)]⟩ .l .l)))))
abbrev tP:CTt:=[(16,mz),(36,qq),(70,dC),(103,od),(104,np),(106,rT)]
theorem xN (a0_r:Lt.Reader) (a1_l:List (List UInt8)) (KK:((Unit)×Lt.Reader)->Prop) (KP:Value->Lt.Reader->Prop):mi a0_r a1_l KK KP=cH ⟨Tryz.prog,eU,tP,eS,noP⟩ Tryz.f64 qu sh1 (.st .Reader) [(.sl .s)] [] a0_r a1_l KK KP:=by kernel_rfl
theorem DZ:Cont Tryz.prog 64 tM:=k5 ⟨Tryz.prog,eU,tP,eS,noP⟩ (En.okc (ab (En.okc (ab (En.okc ah En.ok0) mixed (fn:=Tryz.f36) (by kernel_rfl) (by kernel_rfl) (by kernel_rfl) (by kernel_rfl) (by kernel_rfl)) (En.okc fN En.ok0)) mixed (fn:=Tryz.f16) (by kernel_rfl) (by kernel_rfl) (by kernel_rfl) (by kernel_rfl) (by kernel_rfl)) (En.okc (ab (En.okc ah En.ok0) mixed (fn:=Tryz.f36) (by kernel_rfl) (by kernel_rfl) (by kernel_rfl) (by kernel_rfl) (by kernel_rfl)) (En.okc dX (En.okc (ab (En.okc ah En.ok0) mixed (fn:=Tryz.f103) (by kernel_rfl) (by kernel_rfl) (by kernel_rfl) (by kernel_rfl) (by kernel_rfl)) (En.okc pT (En.okc (ab En.ok0 mixed (fn:=Tryz.f106) (by kernel_rfl) (by kernel_rfl) (by kernel_rfl) (by kernel_rfl) (by kernel_rfl)) En.ok0)))))) mixed (fn:=Tryz.f64) qu (by kernel_rfl) (by kernel_rfl) (fun a0_r a1_l hp KK KP h=>Eq.mp (xN a0_r a1_l KK KP) (yB a0_r a1_l hp KK KP h))
def FV:CKt:=fx sh1 (.st .Reader) [(.sl .s)] [] (fun x y=>Lt.ap x y) (fun x y=>Lt.xG x y)
def uq:An:=.s .l (.c .l .l)
def vI:CKt:=aN ⟨Tryz.prog,eU,[(76,af)],eS,noP⟩ Tryz.f36 uq
def qg:An:=.s .l (.c .l .l)
def sj:CKt:=aN ⟨Tryz.prog,eU,[(76,af)],eS,noP⟩ Tryz.f103 qg
def xX:An:=.s .l (.s .l .l)
def ym:CKt:=aN ⟨Tryz.prog,eU,[],eS,noP⟩ Tryz.f106 xX
def uo:An:=.s .l (.s .l .l)
def x8:CKt:=aN ⟨Tryz.prog,eU,[],eS,noP⟩ Tryz.f107 uo
def Ab:An:=.j ⟨[0,1],[.out 0],[],[]⟩ .l (.s .l (.s .l (.s .l (.s .l (.j ⟨[0],[],[],[.rt (.out 0) sh1 (.st .Reader)]⟩ .l .l)))))
abbrev Cy:CTt:=[(36,vI),(70,dC),(103,sj),(106,ym),(107,x8)]
theorem Ei (a0_r:Lt.Reader) (a1_l:List (List UInt8)) (KK:((Unit)×Lt.Reader)->Prop) (KP:Value->Lt.Reader->Prop):xS a0_r a1_l KK KP=cH ⟨Tryz.prog,eU,Cy,eS,noP⟩ Tryz.f65 Ab sh1 (.st .Reader) [(.sl .s)] [] a0_r a1_l KK KP:=by kernel_rfl
theorem OM:Cont Tryz.prog 65 FV:=k5 ⟨Tryz.prog,eU,Cy,eS,noP⟩ (En.okc (ab (En.okc ah En.ok0) mixed (fn:=Tryz.f36) (by kernel_rfl) (by kernel_rfl) (by kernel_rfl) (by kernel_rfl) (by kernel_rfl)) (En.okc dX (En.okc (ab (En.okc ah En.ok0) mixed (fn:=Tryz.f103) (by kernel_rfl) (by kernel_rfl) (by kernel_rfl) (by kernel_rfl) (by kernel_rfl)) (En.okc (ab En.ok0 mixed (fn:=Tryz.f106) (by kernel_rfl) (by kernel_rfl) (by kernel_rfl) (by kernel_rfl) (by kernel_rfl)) (En.okc (ab En.ok0 mixed (fn:=Tryz.f107) (by kernel_rfl) (by kernel_rfl) (by kernel_rfl) (by kernel_rfl) (by kernel_rfl)) En.ok0))))) mixed (fn:=Tryz.f65) Ab (by kernel_rfl) (by kernel_rfl) (fun a0_r a1_l hp KK KP h=>Eq.mp (Ei a0_r a1_l KK KP) (GV a0_r a1_l hp KK KP h))
def Pc:CKt:=fx sh1 (.st .Reader) [(.sl .s)] [] (fun x y=>Lt.ap x y) (fun x y=>Lt.NB x y)
def kN:An:=.s .l (.c .l .l)
def l6:CKt:=aN ⟨Tryz.prog,eU,[(76,af)],eS,noP⟩ Tryz.f36 kN
def rE:An:=.l
def tS:CKt:=aN ⟨Tryz.prog,eU,[(36,l6),(37,fE)],eS,noP⟩ Tryz.f16 rE
def yQ:An:=.s .l (.c .l .l)
def Co:CKt:=aN ⟨Tryz.prog,eU,[(76,af)],eS,noP⟩ Tryz.f36 yQ
def lY:An:=.s .l (.c .l .l)
def mu:CKt:=aN ⟨Tryz.prog,eU,[(76,af)],eS,noP⟩ Tryz.f103 lY
def yC:An:=.s .l .l
def Bk:CKt:=aN ⟨Tryz.prog,eU,[(103,mu)],eS,noP⟩ Tryz.f74 yC
def nZ:An:=.s .l (.s .l .l)
def o9:CKt:=aN ⟨Tryz.prog,eU,[],eS,noP⟩ Tryz.f106 nZ
def xI:An:=.s .l (.s .l (.s .l .l))
def yA:CKt:=aN ⟨Tryz.prog,eU,[(106,o9)],eS,noP⟩ Tryz.f75 xI
def tR:An:=.s .l (.c .l .l)
def yc:CKt:=aN ⟨Tryz.prog,eU,[(76,af)],eS,noP⟩ Tryz.f103 tR
def K0:An:=.s .l (.j ⟨[0,1],[.out 0],[],[]⟩ .l (.s .l (.s (.s .l (.b (.lp ⟨[0,1,4],[.out 0],[],[.sl 5 (.i .i64),.rt (.loc 4) sh3 (.st .Phi)]⟩ (.s (.s .l (.c .l .l)) (.j ⟨[0,1,4,5],[.out 0],[],[.rt (.loc 4) sh3 (.st .Phi)]⟩ (.b .l) .l))))) (.s .l (.s .l (.s .l .l))))))
abbrev OY:CTt:=[(16,tS),(36,Co),(70,dC),(74,Bk),(75,yA),(103,yc),(108,sS)]
theorem LK (a0_r:Lt.Reader) (a1_l:List (List UInt8)) (KK:((Unit)×Lt.Reader)->Prop) (KP:Value->Lt.Reader->Prop):Jg a0_r a1_l KK KP=cH ⟨Tryz.prog,eU,OY,eS,noP⟩ Tryz.f66 K0 sh1 (.st .Reader) [(.sl .s)] [] a0_r a1_l KK KP:=by kernel_rfl
theorem UT:Cont Tryz.prog 66 Pc:=k5 ⟨Tryz.prog,eU,OY,eS,noP⟩ (En.okc (ab (En.okc (ab (En.okc ah En.ok0) mixed (fn:=Tryz.f36) (by kernel_rfl) (by kernel_rfl) (by kernel_rfl) (by kernel_rfl) (by kernel_rfl)) (En.okc fN En.ok0)) mixed (fn:=Tryz.f16) (by kernel_rfl) (by kernel_rfl) (by kernel_rfl) (by kernel_rfl) (by kernel_rfl)) (En.okc (ab (En.okc ah En.ok0) mixed (fn:=Tryz.f36) (by kernel_rfl) (by kernel_rfl) (by kernel_rfl) (by kernel_rfl) (by kernel_rfl)) (En.okc dX (En.okc (ab (En.okc (ab (En.okc ah En.ok0) mixed (fn:=Tryz.f103) (by kernel_rfl) (by kernel_rfl) (by kernel_rfl) (by kernel_rfl) (by kernel_rfl)) En.ok0) mixed (fn:=Tryz.f74) (by kernel_rfl) (by kernel_rfl) (by kernel_rfl) (by kernel_rfl) (by kernel_rfl)) (En.okc (ab (En.okc (ab En.ok0 mixed (fn:=Tryz.f106) (by kernel_rfl) (by kernel_rfl) (by kernel_rfl) (by kernel_rfl) (by kernel_rfl)) En.ok0) mixed (fn:=Tryz.f75) (by kernel_rfl) (by kernel_rfl) (by kernel_rfl) (by kernel_rfl) (by kernel_rfl)) (En.okc (ab (En.okc ah En.ok0) mixed (fn:=Tryz.f103) (by kernel_rfl) (by kernel_rfl) (by kernel_rfl) (by kernel_rfl) (by kernel_rfl)) (En.okc xE En.ok0))))))) mixed (fn:=Tryz.f66) K0 (by kernel_rfl) (by kernel_rfl) (fun a0_r a1_l hp KK KP h=>Eq.mp (LK a0_r a1_l KK KP) (NL a0_r a1_l hp KK KP h))
def Fo:CKt:=fx sh1 (.st .Reader) [(.sl .s)] [] (fun x y=>Lt.ap x y) (fun x y=>Lt.wj x y)
def jU:An:=.s .l (.c .l .l)
def j9:CKt:=aN ⟨Tryz.prog,eU,[(76,af)],eS,noP⟩ Tryz.f36 jU
def pw:An:=.l
def qz:CKt:=aN ⟨Tryz.prog,eU,[(36,j9),(37,fE)],eS,noP⟩ Tryz.f16 pw
def uc:An:=.s .l (.c .l .l)
def wR:CKt:=aN ⟨Tryz.prog,eU,[(76,af)],eS,noP⟩ Tryz.f36 uc
def qm:An:=.s .l (.c .l .l)
def sV:CKt:=aN ⟨Tryz.prog,eU,[(76,af)],eS,noP⟩ Tryz.f103 qm
def gV:An:=.s .l (.s .l .l)
def iA:CKt:=aN ⟨Tryz.prog,eU,[],eS,noP⟩ Tryz.f106 gV
def kY:An:=.s .l (.s .l (.s .l .l))
def l4:CKt:=aN ⟨Tryz.prog,eU,[(106,iA)],eS,noP⟩ Tryz.f75 kY
def ut:An:=.s .l (.s .l (.s .l .l))
def wk:CKt:=aN ⟨Tryz.prog,eU,[(75,l4)],eS,noP⟩ Tryz.f109 ut
def Ae:An:=.s .l (.j ⟨[0,1],[.out 0],[],[]⟩ .l (.j ⟨[0,1],[.out 0],[(4,.loc 4,0)],[.rt (.loc 4) [.fr,.fr,.fr,.ow []] (.st .Frame)]⟩ .l (.s (.s .l (.b (.lp ⟨[0,1,4],[.out 0],[],[.sl 5 (.i .i64),.rt (.loc 4) sh6 (.st .Frame)]⟩ (.s (.s .l (.c .l .l)) (.j ⟨[0,1,4,5],[.out 0],[],[.rt (.loc 4) sh6 (.st .Frame)]⟩ (.b .l) .l))))) (.s .l (.s .l (.s .l .l))))))
abbrev CJ:CTt:=[(16,qz),(36,wR),(70,dC),(103,sV),(105,sB),(108,sS),(109,wk)]
theorem CZ (a0_r:Lt.Reader) (a1_l:List (List UInt8)) (KK:((Unit)×Lt.Reader)->Prop) (KP:Value->Lt.Reader->Prop):xi a0_r a1_l KK KP=cH ⟨Tryz.prog,eU,CJ,eS,noP⟩ Tryz.f67 Ae sh1 (.st .Reader) [(.sl .s)] [] a0_r a1_l KK KP:=by kernel_rfl
theorem OS:Cont Tryz.prog 67 Fo:=k5 ⟨Tryz.prog,eU,CJ,eS,noP⟩ (En.okc (ab (En.okc (ab (En.okc ah En.ok0) mixed (fn:=Tryz.f36) (by kernel_rfl) (by kernel_rfl) (by kernel_rfl) (by kernel_rfl) (by kernel_rfl)) (En.okc fN En.ok0)) mixed (fn:=Tryz.f16) (by kernel_rfl) (by kernel_rfl) (by kernel_rfl) (by kernel_rfl) (by kernel_rfl)) (En.okc (ab (En.okc ah En.ok0) mixed (fn:=Tryz.f36) (by kernel_rfl) (by kernel_rfl) (by kernel_rfl) (by kernel_rfl) (by kernel_rfl)) (En.okc dX (En.okc (ab (En.okc ah En.ok0) mixed (fn:=Tryz.f103) (by kernel_rfl) (by kernel_rfl) (by kernel_rfl) (by kernel_rfl) (by kernel_rfl)) (En.okc zg (En.okc xE (En.okc (ab (En.okc (ab (En.okc (ab En.ok0 mixed (fn:=Tryz.f106) (by kernel_rfl) (by kernel_rfl) (by kernel_rfl) (by kernel_rfl) (by kernel_rfl)) En.ok0) mixed (fn:=Tryz.f75) (by kernel_rfl) (by kernel_rfl) (by kernel_rfl) (by kernel_rfl) (by kernel_rfl)) En.ok0) mixed (fn:=Tryz.f109) (by kernel_rfl) (by kernel_rfl) (by kernel_rfl) (by kernel_rfl) (by kernel_rfl)) En.ok0))))))) mixed (fn:=Tryz.f67) Ae (by kernel_rfl) (by kernel_rfl) (fun a0_r a1_l hp KK KP h=>Eq.mp (CZ a0_r a1_l KK KP) (G2 a0_r a1_l hp KK KP h))
def Ag:CKt:=fx sh1 (.st .Reader) [(.sl .s)] [] (fun x y=>Lt.ap x y) (fun x y=>Lt.lF x y)
def jb:An:=.s .l (.c .l .l)
def jG:CKt:=aN ⟨Tryz.prog,eU,[(76,af)],eS,noP⟩ Tryz.f36 jb
def nW:An:=.l
def pb:CKt:=aN ⟨Tryz.prog,eU,[(36,jG),(37,fE)],eS,noP⟩ Tryz.f16 nW
def sg:An:=.s .l (.c .l .l)
def tV:CKt:=aN ⟨Tryz.prog,eU,[(76,af)],eS,noP⟩ Tryz.f36 sg
def oX:An:=.s .l (.c .l .l)
def qV:CKt:=aN ⟨Tryz.prog,eU,[(76,af)],eS,noP⟩ Tryz.f103 oX
def gM:An:=.s .l (.s .l .l)
def il:CKt:=aN ⟨Tryz.prog,eU,[],eS,noP⟩ Tryz.f106 gM
def ka:An:=.s .l (.s .l (.s .l .l))
def lc:CKt:=aN ⟨Tryz.prog,eU,[(106,il)],eS,noP⟩ Tryz.f75 ka
def rA:An:=.s .l (.s .l (.s .l .l))
def ug:CKt:=aN ⟨Tryz.prog,eU,[(75,lc)],eS,noP⟩ Tryz.f109 rA
def vM:An:=.s .l (.j ⟨[0,1],[.out 0],[],[]⟩ .l (.j ⟨[0],[.out 0],[(4,.loc 4,0)],[.rt (.loc 4) [.fr,.fr] (.st .Virt)]⟩ .l (.s .l (.s .l (.j ⟨[0],[],[],[.rt (.out 0) sh1 (.st .Reader)]⟩ .l .l)))))
abbrev zr:CTt:=[(16,pb),(36,tV),(70,dC),(73,Cb),(103,qV),(109,ug)]
theorem AM (a0_r:Lt.Reader) (a1_l:List (List UInt8)) (KK:((Unit)×Lt.Reader)->Prop) (KP:Value->Lt.Reader->Prop):sL a0_r a1_l KK KP=cH ⟨Tryz.prog,eU,zr,eS,noP⟩ Tryz.f68 vM sh1 (.st .Reader) [(.sl .s)] [] a0_r a1_l KK KP:=by kernel_rfl
theorem MC:Cont Tryz.prog 68 Ag:=k5 ⟨Tryz.prog,eU,zr,eS,noP⟩ (En.okc (ab (En.okc (ab (En.okc ah En.ok0) mixed (fn:=Tryz.f36) (by kernel_rfl) (by kernel_rfl) (by kernel_rfl) (by kernel_rfl) (by kernel_rfl)) (En.okc fN En.ok0)) mixed (fn:=Tryz.f16) (by kernel_rfl) (by kernel_rfl) (by kernel_rfl) (by kernel_rfl) (by kernel_rfl)) (En.okc (ab (En.okc ah En.ok0) mixed (fn:=Tryz.f36) (by kernel_rfl) (by kernel_rfl) (by kernel_rfl) (by kernel_rfl) (by kernel_rfl)) (En.okc dX (En.okc Km (En.okc (ab (En.okc ah En.ok0) mixed (fn:=Tryz.f103) (by kernel_rfl) (by kernel_rfl) (by kernel_rfl) (by kernel_rfl) (by kernel_rfl)) (En.okc (ab (En.okc (ab (En.okc (ab En.ok0 mixed (fn:=Tryz.f106) (by kernel_rfl) (by kernel_rfl) (by kernel_rfl) (by kernel_rfl) (by kernel_rfl)) En.ok0) mixed (fn:=Tryz.f75) (by kernel_rfl) (by kernel_rfl) (by kernel_rfl) (by kernel_rfl) (by kernel_rfl)) En.ok0) mixed (fn:=Tryz.f109) (by kernel_rfl) (by kernel_rfl) (by kernel_rfl) (by kernel_rfl) (by kernel_rfl)) En.ok0)))))) mixed (fn:=Tryz.f68) vM (by kernel_rfl) (by kernel_rfl) (fun a0_r a1_l hp KK KP h=>Eq.mp (AM a0_r a1_l KK KP) (CB a0_r a1_l hp KK KP h))
def NH:CKt:=fx sh1 (.st .Reader) [(.sl .s)] [] (fun x y=>Lt.ap x y) (fun x y=>Lt.yr x y)
def lx:An:=.s .l (.c .l .l)
def lX:CKt:=aN ⟨Tryz.prog,eU,[(76,af)],eS,noP⟩ Tryz.f36 lx
def sI:An:=.l
def ui:CKt:=aN ⟨Tryz.prog,eU,[(36,lX),(37,fE)],eS,noP⟩ Tryz.f16 sI
def yL:An:=.s .l (.c .l .l)
def Bc:CKt:=aN ⟨Tryz.prog,eU,[(76,af)],eS,noP⟩ Tryz.f36 yL
def nX:An:=.s .l (.s .l .l)
def pj:CKt:=aN ⟨Tryz.prog,eU,[],eS,noP⟩ Tryz.f106 nX
def vl:An:=.s .l (.s .l (.s .l .l))
def yt:CKt:=aN ⟨Tryz.prog,eU,[(106,pj)],eS,noP⟩ Tryz.f75 vl
def KF:An:=.s .l (.s .l (.j ⟨[0,4],[.out 0],[],[.rt (.loc 4) [.fr,.fr,.fr,.fr,.ow [.fr],.fr] (.st .Term)]⟩ (.s .l (.b (.s .l (.c (.s .l .l) (.s .l (.c (.s .l .l) (.s .l (.c (.s .l .l) (.s .l (.s .l (.s .l .l))))))))))) (.j ⟨[0],[],[],[.rt (.out 0) sh1 (.st .Reader)]⟩ .l .l)))
abbrev O0:CTt:=[(16,ui),(36,Bc),(70,dC),(75,yt),(108,sS),(110,mN)]
theorem MM (a0_r:Lt.Reader) (a1_l:List (List UInt8)) (KK:((Unit)×Lt.Reader)->Prop) (KP:Value->Lt.Reader->Prop):Ir a0_r a1_l KK KP=cH ⟨Tryz.prog,eU,O0,eS,noP⟩ Tryz.f69 KF sh1 (.st .Reader) [(.sl .s)] [] a0_r a1_l KK KP:=by kernel_rfl
theorem U1:Cont Tryz.prog 69 NH:=k5 ⟨Tryz.prog,eU,O0,eS,noP⟩ (En.okc (ab (En.okc (ab (En.okc ah En.ok0) mixed (fn:=Tryz.f36) (by kernel_rfl) (by kernel_rfl) (by kernel_rfl) (by kernel_rfl) (by kernel_rfl)) (En.okc fN En.ok0)) mixed (fn:=Tryz.f16) (by kernel_rfl) (by kernel_rfl) (by kernel_rfl) (by kernel_rfl) (by kernel_rfl)) (En.okc (ab (En.okc ah En.ok0) mixed (fn:=Tryz.f36) (by kernel_rfl) (by kernel_rfl) (by kernel_rfl) (by kernel_rfl) (by kernel_rfl)) (En.okc dX (En.okc (ab (En.okc (ab En.ok0 mixed (fn:=Tryz.f106) (by kernel_rfl) (by kernel_rfl) (by kernel_rfl) (by kernel_rfl) (by kernel_rfl)) En.ok0) mixed (fn:=Tryz.f75) (by kernel_rfl) (by kernel_rfl) (by kernel_rfl) (by kernel_rfl) (by kernel_rfl)) (En.okc xE (En.okc pN En.ok0)))))) mixed (fn:=Tryz.f69) KF (by kernel_rfl) (by kernel_rfl) (fun a0_r a1_l hp KK KP h=>Eq.mp (MM a0_r a1_l KK KP) (N4 a0_r a1_l hp KK KP h))
def Lp:CKt:=fx sh1 (.st .Reader) [(.sl .s)] [] (fun x y=>Lt.ap x y) (fun x y=>Lt.tz x y)
def E4:An:=.s .l (.s (.j ⟨[0,1,4],[.out 0],[],[.sl 18 .bo]⟩ .l (.c .l .l)) (.s .l (.s .l (.j ⟨[0],[],[],[.rt (.out 0) sh1 (.st .Reader)]⟩ (.s .l (.c .l .l)) .l))))
abbrev Lm:CTt:=[(34,lO),(35,Ka),(57,NP),(58,FM),(59,Dp),(60,Ai),(61,As),(62,tk),(63,FT),(64,tM),(65,FV),(66,Pc),(67,Fo),(68,Ag),(69,NH)]
theorem GP (a0_r:Lt.Reader) (a1_l:List (List UInt8)) (KK:((Unit)×Lt.Reader)->Prop) (KP:Value->Lt.Reader->Prop):Br a0_r a1_l KK KP=cH ⟨Tryz.prog,eU,Lm,eS,noP⟩ Tryz.f15 E4 sh1 (.st .Reader) [(.sl .s)] [] a0_r a1_l KK KP:=by kernel_rfl
theorem QW:Cont Tryz.prog 15 Lp:=k5 ⟨Tryz.prog,eU,Lm,eS,noP⟩ (En.okc GC (En.okc Sa (En.okc UY (En.okc O3 (En.okc QD (En.okc MX (En.okc Mw (En.okc FU (En.okc P8 (En.okc DZ (En.okc OM (En.okc UT (En.okc OS (En.okc MC (En.okc U1 En.ok0))))))))))))))) mixed (fn:=Tryz.f15) E4 (by kernel_rfl) (by kernel_rfl) (fun a0_r a1_l hp KK KP h=>Eq.mp (GP a0_r a1_l KK KP) (Mi a0_r a1_l hp KK KP h))
def wD:CKt:=aE [.s] [(.st .Program),(.i .i64),(.i .i64)] (fun x=>Lt.cR x)
def jL:An:=.s .l (.c .l .l)
def kl:CKt:=aN ⟨Tryz.prog,eU,[(76,af)],eS,noP⟩ Tryz.f36 jL
def pe:An:=.l
def qt:CKt:=aN ⟨Tryz.prog,eU,[(36,kl),(37,fE)],eS,noP⟩ Tryz.f16 pe
def zx:An:=.s (.s .l (.b (.lp ⟨[2,3,4,6,23,24],[.out 2,.out 3,.out 4,.out 6],[],[.sl 25 (.i .i64),.rt (.out 21) sh1 (.st .Reader)]⟩ (.s .l (.s (.c .l .l) (.s (.b (.s .l (.s .l .l))) .l)))))) (.s .l (.s .l (.s .l .l)))
abbrev Pj:CTt:=[(13,EE),(15,Lp),(16,qt)]
theorem D1 (a0_s:List UInt8) (KK:(Lt.Program×Int×Int)->Prop):vj a0_s KK=NU ⟨Tryz.prog,eU,Pj,eS,noP⟩ Tryz.f6 Tryz.f14 [(.l,kL (Tryz.f6.body.getD .skip)),(.l,kL (kR (Tryz.f6.body.getD .skip))),(.s .l (.c (.j ⟨[2,3,4],[],[],[.rt (.loc 2) sh7 (.st .Program),.rt (.loc 3) [.fr] (.i .i64),.rt (.loc 4) [.fr] (.i .i64)]⟩ .l .l) .l),kL (kR (kR (Tryz.f6.body.getD .skip)))),(.l,kL (kR (kR (kR (Tryz.f6.body.getD .skip)))))] zx .l (kR (kR (kR (kR (kR (Tryz.f6.body.getD .skip)))))) [.s] [(.st .Program),(.i .i64),(.i .i64)] a0_s KK:=by kernel_rfl
theorem C1:Cont Tryz.prog 6 wD:=uD (GU (En.okc Pa (En.okc QW (En.okc (ab (En.okc (ab (En.okc ah En.ok0) mixed (fn:=Tryz.f36) (by kernel_rfl) (by kernel_rfl) (by kernel_rfl) (by kernel_rfl) (by kernel_rfl)) (En.okc fN En.ok0)) mixed (fn:=Tryz.f16) (by kernel_rfl) (by kernel_rfl) (by kernel_rfl) (by kernel_rfl) (by kernel_rfl)) En.ok0))) mixed (fn:=Tryz.f6) (l:=[(.l,kL (Tryz.f6.body.getD .skip)),(.l,kL (kR (Tryz.f6.body.getD .skip))),(.s .l (.c (.j ⟨[2,3,4],[],[],[.rt (.loc 2) sh7 (.st .Program),.rt (.loc 3) [.fr] (.i .i64),.rt (.loc 4) [.fr] (.i .i64)]⟩ .l .l) .l),kL (kR (kR (Tryz.f6.body.getD .skip)))),(.l,kL (kR (kR (kR (Tryz.f6.body.getD .skip)))))]) (an2:=zx) (anC:=.l) (id:=rgI (kL (kR (kR (kR (kR (Tryz.f6.body.getD .skip))))))) (o1:=rgO (kL (kR (kR (kR (kR (Tryz.f6.body.getD .skip)))))) 0) (o2:=rgO (kL (kR (kR (kR (kR (Tryz.f6.body.getD .skip)))))) 1) (rest:=kR (kR (kR (kR (kR (Tryz.f6.body.getD .skip)))))) (by kernel_rfl) (by kernel_rfl) (by kernel_rfl) (by kernel_rfl) (by kernel_rfl) (by kernel_rfl) (by kernel_rfl) (by kernel_rfl) (by kernel_rfl) (by kernel_rfl) (by kernel_rfl) (by kernel_rfl) (by kernel_rfl) (fun a0_s _ KK h=>Eq.mp (D1 a0_s KK) (I5 a0_s KK h)))
def Ef:CKt:=aE [.s] [(.sl (.st .RLine)),(.i .i64),(.i .i64)] (fun x=>Lt.bV x)
def AE:An:=.s .l (.s (.s .l (.c (.s .l .l) .l)) (.s .l (.s .l (.s .l (.s .l (.s .l (.s .l (.s (.s .l (.b (.lp ⟨[0],[],[],[.ow 5 [.fr,.fr] (.st .RLine),.ow 6 [.fr] .s,.ow 7 [.fr] .b8,.sl 8 (.i .i64),.sl 9 .bo,.sl 10 .bo,.sl 11 (.i .i64)]⟩ (.s (.s .l (.c .l .l)) (.j ⟨[0,11],[],[],[.ow 5 [.fr,.fr] (.st .RLine),.ow 6 [.fr] .s,.ow 7 [.fr] .b8,.sl 8 (.i .i64),.sl 9 .bo,.sl 10 .bo]⟩ (.b (.j ⟨[0,5,6,7,8,9,10,11],[.gh 900005,.gh 900006,.gh 900007],[],[.sl 12 .bo]⟩ .l (.j ⟨[0,5,6,7,8,10,11,12],[.gh 900005,.gh 900006,.gh 900007],[],[.sl 9 .bo]⟩ (.j ⟨[0,5,6,7,8,9,10,11,12],[.gh 900005,.gh 900006,.gh 900007],[],[.sl 39 .bo]⟩ .l (.c .l .l)) (.j ⟨[0,5,8,9,11,12],[.gh 900005],[],[.ow 6 [.fr] .s,.ow 7 [.fr] .b8,.sl 10 .bo]⟩ (.j ⟨[0,5,6,7,8,9,10,11,12],[.gh 900005,.gh 900006,.gh 900007],[],[.sl 55 .bo]⟩ .l (.c (.j ⟨[0,5,8,9,10,11,12],[.gh 900005],[],[.ow 6 [.fr] .s]⟩ (.s .l (.c .l .l)) .l) (.j ⟨[0,5,6,7,8,9,11,12],[.gh 900005,.gh 900006,.gh 900007],[],[.sl 10 .bo]⟩ .l .l))) (.s .l (.c (.s (.s .l (.c (.s .l .l) .l)) (.j ⟨[0,7,8,10,11],[.gh 900007],[],[.ow 5 [.fr,.fr] (.st .RLine)]⟩ (.s .l (.c .l .l)) (.s .l (.s .l .l)))) .l)))))) .l))))) (.s .l .l)))))))))
theorem FK (a0_s:List UInt8) (KK:(List Lt.RLine×Int×Int)->Prop):xc a0_s KK=bc ⟨Tryz.prog,eU,[],[],noP⟩ Tryz.f17 AE [.s] [(.sl (.st .RLine)),(.i .i64),(.i .i64)] a0_s KK:=by kernel_rfl
theorem OL:Cont Tryz.prog 17 Ef:=k0 ⟨Tryz.prog,eU,[],[],noP⟩ En.ok0 mixed (fn:=Tryz.f17) AE (by kernel_rfl) (by kernel_rfl) (fun a0_s KK h=>Eq.mp (FK a0_s KK) (GF a0_s KK h))
def uB:CKt:=aE [.s] [.bo] (fun x=>Lt.az x)
def Ea:An:=.s .l (.s (.s .l (.b (.lp ⟨[0],[],[],[.sl 3 (.i .i64)]⟩ (.s (.s .l (.c .l .l)) (.s (.b (.s .l (.j ⟨[0,3,4],[],[],[.sl 5 .bo]⟩ .l (.j ⟨[0,3],[],[],[.sl 46 .bo]⟩ .l (.c (.s .l .l) .l))))) .l))))) (.j ⟨[],[],[],[.sl 2 .bo]⟩ .l .l))
theorem Ge (a0_s:List UInt8) (KK:Bool->Prop):Bj a0_s KK=bc ⟨Tryz.prog,eU,[],[],noP⟩ Tryz.f112 Ea [.s] [.bo] a0_s KK:=by kernel_rfl
theorem BA:Cont Tryz.prog 112 uB:=k0 ⟨Tryz.prog,eU,[],[],noP⟩ En.ok0 mixed (fn:=Tryz.f112) Ea (by kernel_rfl) (by kernel_rfl) (fun a0_s KK h=>Eq.mp (Ge a0_s KK) (MF a0_s KK h))
def gI:CKt:=aE [(.sl .s)] [.bo] (fun x=>Lt.dy x)
def Ao:An:=.s .l (.s (.s .l (.b (.lp ⟨[0],[],[],[.sl 3 (.i .i64)]⟩ (.s (.s .l (.c .l .l)) (.s (.b (.s .l (.c (.s .l .l) .l))) .l))))) (.s .l .l))
abbrev Cx:CTt:=[(112,uB)]
theorem EX (a0_l:List (List UInt8)) (KK:Bool->Prop):wA a0_l KK=bc ⟨Tryz.prog,eU,Cx,[],noP⟩ Tryz.f77 Ao [(.sl .s)] [.bo] a0_l KK:=by kernel_rfl
theorem iJ:Cont Tryz.prog 77 gI:=k0 ⟨Tryz.prog,eU,Cx,[],noP⟩ (En.okc BA En.ok0) mixed (fn:=Tryz.f77) Ao (by kernel_rfl) (by kernel_rfl) (fun a0_l KK h=>Eq.mp (EX a0_l KK) (GZ a0_l KK h))
def Tp:CKt:=aE [.s] [(.i .i64),.bo] (fun x=>Lt.sOp x)
def N1:An:=.s .l (.s (.s .l (.b (.lp ⟨[0],[],[],[.sl 4 (.i .i64)]⟩ (.s (.s .l (.c .l .l)) (.s (.b (.s .l (.c (.s .l .l) .l))) .l))))) (.s .l .l))
theorem Pq (a0_word:List UInt8) (KK:(Int×Bool)->Prop):OE a0_word KK=bc ⟨Tryz.prog,eU,[],[],noP⟩ Tryz.f78 N1 [.s] [(.i .i64),.bo] a0_word KK:=by kernel_rfl
theorem Vx:Cont Tryz.prog 78 Tp:=k0 ⟨Tryz.prog,eU,[],[],noP⟩ En.ok0 mixed (fn:=Tryz.f78) N1 (by kernel_rfl) (by kernel_rfl) (fun a0_word KK h=>Eq.mp (Pq a0_word KK) (Sf a0_word KK h))
def Tg:CKt:=aE [(.i .i64)] [(.st .RForm),.bo] (fun x=>Lt.rOf x)
def Oh:An:=.s .l (.s (.j ⟨[0,2],[.loc 2],[],[.sl 10 .bo]⟩ .l (.c (.s .l .l) .l)) (.j ⟨[0,2],[.loc 2],[(4,.loc 4,0)],[.rt (.loc 4) [.fr,.fr,.fr,.fr,.fr] (.st .RForm)]⟩ .l (.j ⟨[2,4],[.loc 2],[],[.rt (.loc 4) [.fr,.fr,.fr,.fr,.fr] (.st .RForm)]⟩ (.s .l (.b (.j ⟨[2,4,48],[.loc 2,.loc 4],[],[.sl 51 .bo]⟩ (.s .l (.c .l (.s .l (.c .l (.s .l (.c .l (.s .l (.c .l (.s .l (.c .l .l)))))))))) (.c (.s .l .l) (.j ⟨[2,4,48],[.loc 2,.loc 4],[],[.sl 60 .bo]⟩ (.s .l (.c .l (.s .l (.c .l .l)))) (.c .l (.j ⟨[2,4],[.loc 2,.loc 4],[],[.sl 65 .bo]⟩ (.s .l (.c .l .l)) (.c .l (.s .l .l))))))))) (.s .l .l))))
theorem Oo (a0_op:Int) (KK:(Lt.RForm×Bool)->Prop):J0 a0_op KK=bc ⟨Tryz.prog,eU,[],[],noP⟩ Tryz.f79 Oh [(.i .i64)] [(.st .RForm),.bo] a0_op KK:=by kernel_rfl
theorem Vh:Cont Tryz.prog 79 Tg:=k0 ⟨Tryz.prog,eU,[],[],noP⟩ En.ok0 mixed (fn:=Tryz.f79) Oh (by kernel_rfl) (by kernel_rfl) (fun a0_op KK h=>Eq.mp (Oo a0_op KK) (RW a0_op KK h))
def KN:CKt:=aE [(.i .i64)] [(.i .u64)] (fun x=>Lt.zH x)
def Dh:An:=.s .l (.s (.s .l (.c (.s .l .l) .l)) (.s .l .l))
theorem Gb (a0_n:Int) (KK:Int->Prop):Bg a0_n KK=bc ⟨Tryz.prog,eU,[],[],noP⟩ Tryz.f135 Dh [(.i .i64)] [(.i .u64)] a0_n KK:=by kernel_rfl
theorem Q1:Cont Tryz.prog 135 KN:=k0 ⟨Tryz.prog,eU,[],[],noP⟩ En.ok0 mixed (fn:=Tryz.f135) Dh (by kernel_rfl) (by kernel_rfl) (fun a0_n KK h=>Eq.mp (Gb a0_n KK) (MW a0_n KK h))
def Gr:CKt:=fe [(.i .i64)] [.s] (fun x=>Lt.gJ x) (fun x=>Lt.pU x)
def Ju:An:=.s .l (.s .l (.s .l (.j ⟨[0],[],[],[.ow 3 [.fr] .b8]⟩ (.b (.lp ⟨[0],[],[],[.ow 3 [.fr] .b8,.sl 4 (.i .u64)]⟩ (.b (.s .l (.s .l (.s .l (.c .l .l))))))) (.s (.s .l (.c (.s .l .l) .l)) (.s .l .l)))))
abbrev O4:CTt:=[(135,KN)]
theorem Mk (a0_n:Int) (KK:(List UInt8)->Prop):Il a0_n KK=bc ⟨Tryz.prog,eU,O4,[],noP⟩ Tryz.f115 Ju [(.i .i64)] [.s] a0_n KK:=by kernel_rfl
theorem Ou:Cont Tryz.prog 115 Gr:=k1 ⟨Tryz.prog,eU,O4,[],noP⟩ (En.okc Q1 En.ok0) mixed (fn:=Tryz.f115) Ju (by kernel_rfl) (by kernel_rfl) (fun a0_n hp KK h=>Eq.mp (Mk a0_n KK) (Ov a0_n hp KK h))
def JY:CKt:=aE [(.i .u64)] [(.i .i64)] (fun x=>Lt.pJ x)
def Dy:An:=.s .l (.s .l .l)
theorem Ig (a0_n:Int) (KK:Int->Prop):JG a0_n KK=bc ⟨Tryz.prog,eU,[],[],noP⟩ Tryz.f116 Dy [(.i .u64)] [(.i .i64)] a0_n KK:=by kernel_rfl
theorem Rl:Cont Tryz.prog 116 JY:=k0 ⟨Tryz.prog,eU,[],[],noP⟩ En.ok0 mixed (fn:=Tryz.f116) Dy (by kernel_rfl) (by kernel_rfl) (fun a0_n KK h=>Eq.mp (Ig a0_n KK) (MB a0_n KK h))
def ww:CKt:=aE [.s] [(.i .i64),.bo] (fun x=>Lt.aD x)
def Lq:An:=.s .l (.s .l (.s (.s .l (.b (.lp ⟨[0],[],[],[.sl 4 (.i .u64),.sl 5 (.i .i64)]⟩ (.s (.j ⟨[0,4,5],[],[],[.sl 13 .bo]⟩ .l (.c .l .l)) (.j ⟨[0,5],[],[],[.sl 4 (.i .u64)]⟩ (.b (.s (.j ⟨[0,4,5],[],[],[.sl 22 .bo]⟩ .l (.c .l .l)) .l)) .l))))) (.j ⟨[0],[],[],[.sl 4 (.i .u64)]⟩ (.j ⟨[0,4],[],[],[.sl 38 .bo]⟩ .l (.c .l .l)) (.s (.s .l (.c (.s .l .l) .l)) (.s .l .l)))))
abbrev QH:CTt:=[(115,Gr),(116,JY)]
theorem MQ (a0_s:List UInt8) (KK:(Int×Bool)->Prop):IR a0_s KK=bc ⟨Tryz.prog,eU,QH,[],noP⟩ Tryz.f84 Lq [.s] [(.i .i64),.bo] a0_s KK:=by kernel_rfl
theorem AX:Cont Tryz.prog 84 ww:=k0 ⟨Tryz.prog,eU,QH,[],noP⟩ (En.okc Ou (En.okc Rl En.ok0)) mixed (fn:=Tryz.f84) Lq (by kernel_rfl) (by kernel_rfl) (fun a0_s KK h=>Eq.mp (MQ a0_s KK) (OR a0_s KK h))
def DM:CKt:=aE [(.i .i64)] [.bo] (fun x=>Lt.oH x)
def yT:An:=.s .l (.s .l (.s .l .l))
theorem DW (a0_n:Int) (KK:Bool->Prop):xJ a0_n KK=bc ⟨Tryz.prog,eU,[],[],noP⟩ Tryz.f145 yT [(.i .i64)] [.bo] a0_n KK:=by kernel_rfl
theorem Qv:Cont Tryz.prog 145 DM:=k0 ⟨Tryz.prog,eU,[],[],noP⟩ En.ok0 mixed (fn:=Tryz.f145) yT (by kernel_rfl) (by kernel_rfl) (fun a0_n KK h=>Eq.mp (DW a0_n KK) (Ii a0_n KK h))
def wz:CKt:=aE [(.i .i64)] [(.i .i64)] (fun x=>Lt.bi x)
def zZ:An:=.s .l (.s (.s .l (.c (.s .l .l) .l)) (.s .l .l))
abbrev DN:CTt:=[(145,DM)]
theorem Di (a0_n:Int) (KK:Int->Prop):xz a0_n KK=bc ⟨Tryz.prog,eU,DN,[],noP⟩ Tryz.f143 zZ [(.i .i64)] [(.i .i64)] a0_n KK:=by kernel_rfl
theorem Dk:Cont Tryz.prog 143 wz:=k0 ⟨Tryz.prog,eU,DN,[],noP⟩ (En.okc Qv En.ok0) mixed (fn:=Tryz.f143) zZ (by kernel_rfl) (by kernel_rfl) (fun a0_n KK h=>Eq.mp (Di a0_n KK) (G1 a0_n KK h))
def Gm:CKt:=aE [(.i .i64)] [.s] (fun x=>Lt.jR x)
def Jt:An:=.s .l (.s .l (.s .l (.s (.s .l (.b (.lp ⟨[],[],[],[.sl 3 (.i .u64),.ow 4 [.fr] .b8,.sl 5 (.i .i64)]⟩ (.s (.s .l (.c .l .l)) (.s (.b (.s .l (.j ⟨[3,4,5],[.gh 900004],[],[.sl 6 .b8]⟩ (.s .l (.c .l .l)) (.s .l .l)))) .l))))) (.s .l .l))))
abbrev Qa:CTt:=[(143,wz)]
theorem LU (a0_n:Int) (KK:(List UInt8)->Prop):IF a0_n KK=bc ⟨Tryz.prog,eU,Qa,[],noP⟩ Tryz.f142 Jt [(.i .i64)] [.s] a0_n KK:=by kernel_rfl
theorem PO:Cont Tryz.prog 142 Gm:=k0 ⟨Tryz.prog,eU,Qa,[],noP⟩ (En.okc Dk En.ok0) mixed (fn:=Tryz.f142) Jt (by kernel_rfl) (by kernel_rfl) (fun a0_n KK h=>Eq.mp (LU a0_n KK) (P1 a0_n KK h))
def Ow:CKt:=aE [.s] [(.i .i64),.bo] (fun x=>Lt.eD x)
def JW:An:=.s .l (.s (.s .l (.c (.s .l .l) .l)) (.s .l (.s (.s .l (.b (.lp ⟨[0],[],[],[.sl 4 (.i .u64),.sl 5 (.i .i64)]⟩ (.s (.s .l (.c .l .l)) (.s (.b (.s .l (.j ⟨[0,4,5],[],[],[.sl 6 (.i .u64)]⟩ (.s .l (.c .l .l)) .l))) .l))))) (.s (.s .l (.c (.s .l .l) .l)) (.s .l .l)))))
abbrev Qz:CTt:=[(142,Gm)]
theorem M5 (a0_s:List UInt8) (KK:(Int×Bool)->Prop):GT a0_s KK=bc ⟨Tryz.prog,eU,Qz,[],noP⟩ Tryz.f132 JW [.s] [(.i .i64),.bo] a0_s KK:=by kernel_rfl
theorem Uh:Cont Tryz.prog 132 Ow:=k0 ⟨Tryz.prog,eU,Qz,[],noP⟩ (En.okc PO En.ok0) mixed (fn:=Tryz.f132) JW (by kernel_rfl) (by kernel_rfl) (fun a0_s KK h=>Eq.mp (M5 a0_s KK) (Oe a0_s KK h))
def wI:CKt:=aE [(.st .Arg)] [.bo] (fun x=>Lt.fX x)
def zb:An:=.s .l (.s (.s .l (.c (.s .l .l) .l)) (.s (.j ⟨[1],[.loc 1],[],[.sl 26 .bo]⟩ .l (.c (.s .l .l) .l)) (.j ⟨[],[],[],[.sl 2 .bo]⟩ .l .l)))
abbrev DG:CTt:=[(112,uB),(143,wz)]
theorem Ff (a0_a:Lt.Arg) (KK:Bool->Prop):vo a0_a KK=bc ⟨Tryz.prog,eU,DG,[],noP⟩ Tryz.f133 zb [(.st .Arg)] [.bo] a0_a KK:=by kernel_rfl
theorem Ex:Cont Tryz.prog 133 wI:=k0 ⟨Tryz.prog,eU,DG,[],noP⟩ (En.okc BA (En.okc Dk En.ok0)) mixed (fn:=Tryz.f133) zb (by kernel_rfl) (by kernel_rfl) (fun a0_a KK h=>Eq.mp (Ff a0_a KK) (GY a0_a KK h))
def Lk:CKt:=fe [(.st .Arg)] [.s] (fun x=>Lt.jV x) (fun x=>Lt.mJ x)
def Ds:An:=.s .l (.s (.s .l (.c (.s .l .l) .l)) (.s (.s .l (.c (.s .l .l) .l)) (.s (.s .l (.c (.s .l .l) .l)) (.s (.s .l (.c (.s .l .l) .l)) (.s (.s .l (.c (.s .l .l) .l)) (.s .l .l))))))
abbrev Lr:CTt:=[(115,Gr),(133,wI),(142,Gm)]
theorem Ij (a0_a:Lt.Arg) (KK:(List UInt8)->Prop):BF a0_a KK=bc ⟨Tryz.prog,eU,Lr,[],noP⟩ Tryz.f134 Ds [(.st .Arg)] [.s] a0_a KK:=by kernel_rfl
theorem RZ:Cont Tryz.prog 134 Lk:=k1 ⟨Tryz.prog,eU,Lr,[],noP⟩ (En.okc Ou (En.okc Ex (En.okc PO En.ok0))) mixed (fn:=Tryz.f134) Ds (by kernel_rfl) (by kernel_rfl) (fun a0_a hp KK h=>Eq.mp (Ij a0_a KK) (Mc a0_a hp KK h))
def ON:CKt:=aE [.s] [(.st .Arg),.bo] (fun x=>Lt.cM x)
def KZ:An:=.s .l (.s .l (.j ⟨[0,2],[.loc 2],[],[.sl 4 .s]⟩ (.s .l (.c .l .l)) (.s .l (.s .l (.s .l (.s .l (.j ⟨[2],[.loc 2],[],[]⟩ (.s .l (.b (.un 6 (.s (.s .l (.c .l .l)) (.s (.b (.j ⟨[0,2,11,12],[.loc 11,.loc 2],[],[.sl 58 .bo]⟩ .l (.c (.s .l .l) .l))) .l))))) (.s .l .l))))))))
abbrev OQ:CTt:=[(84,ww),(132,Ow),(133,wI),(134,Lk)]
theorem M1 (a0_s:List UInt8) (KK:(Lt.Arg×Bool)->Prop):Is a0_s KK=bc ⟨Tryz.prog,eU,OQ,[],noP⟩ Tryz.f113 KZ [.s] [(.st .Arg),.bo] a0_s KK:=by kernel_rfl
theorem UJ:Cont Tryz.prog 113 ON:=k0 ⟨Tryz.prog,eU,OQ,[],noP⟩ (En.okc AX (En.okc Uh (En.okc Ex (En.okc RZ En.ok0)))) mixed (fn:=Tryz.f113) KZ (by kernel_rfl) (by kernel_rfl) (fun a0_s KK h=>Eq.mp (M1 a0_s KK) (Pk a0_s KK h))
def qs:CKt:=fe [(.sl .s),.bo] [(.sl (.st .Arg)),.bo] (fun x=>Lt.bU x.1 x.2) (fun x=>Lt.aT x.1 x.2)
def FC:An:=.s .l (.s .l (.s (.s .l (.b (.lp ⟨[0,1],[],[],[.ow 6 [.fr,.fr,.fr] (.st .Arg),.sl 7 (.i .i64)]⟩ (.s (.s .l (.c .l .l)) (.s (.b (.s .l (.s (.j ⟨[0,1,6,7,8],[.gh 900006,.loc 8],[],[.sl 34 .bo]⟩ .l (.c (.s .l .l) .l)) .l))) .l))))) (.s .l .l)))
abbrev K8:CTt:=[(113,ON)]
theorem I6 (a0_l:List (List UInt8)) (a1_objs:Bool) (KK:(List Lt.Arg×Bool)->Prop):Bu a0_l a1_objs KK=bc ⟨Tryz.prog,eU,K8,[],noP⟩ Tryz.f81 FC [(.sl .s),.bo] [(.sl (.st .Arg)),.bo] (a0_l,a1_objs) KK:=by kernel_rfl
theorem uy:Cont Tryz.prog 81 qs:=k1 ⟨Tryz.prog,eU,K8,[],noP⟩ (En.okc UJ En.ok0) mixed (fn:=Tryz.f81) FC (by kernel_rfl) (by kernel_rfl) (fun (a0_l,a1_objs) hp KK h=>Eq.mp (I6 a0_l a1_objs KK) (MG a0_l a1_objs hp KK h))
def Fd:CKt:=Bf sh2 (.st .Read) [(.sl .s)] [(.i .i64)] (fun x y=>Lt.dj x y) (fun x y=>Lt.bt x y)
def qv:An:=.s .l (.s .l .l)
def sr:CKt:=aN ⟨Tryz.prog,eU,[],eS,noP⟩ Tryz.f80 qv
def Ak:An:=.s .l (.s .l (.j ⟨[0,5],[.out 0],[],[.sl 1 (.sl .s),.rt (.loc 5) sh5 (.st .Instr)]⟩ (.j ⟨[0,1,5],[.loc 5,.out 0],[],[.sl 24 .bo]⟩ .l (.c (.s (.s .l (.c (.s .l .l) .l)) (.s .l .l)) .l)) (.s .l (.s .l (.s (.j ⟨[0,1,5,6,8],[.loc 5,.loc 8,.out 0],[],[.sl 63 .bo]⟩ .l (.c (.s .l .l) .l)) (.s .l (.s .l (.j ⟨[0,5,6,8],[.loc 8,.out 0],[],[.sl 10 (.sl .s),.rt (.loc 5) sh5 (.st .Instr)]⟩ (.j ⟨[0,1,5,6,8,10],[.loc 5,.loc 8,.out 0],[],[.sl 71 .bo]⟩ .l (.c (.s (.s .l (.c (.s .l .l) .l)) (.s .l (.s .l .l))) (.s .l (.c (.s (.s .l (.c (.s .l .l) .l)) (.s .l .l)) .l)))) (.s .l (.s (.j ⟨[0,5,6,11],[.loc 5,.out 0],[],[.sl 133 .bo]⟩ .l (.c (.s .l .l) .l)) (.s (.s .l (.c (.s .l .l) .l)) (.s .l (.s .l (.s .l (.s .l (.j ⟨[0,6],[],[],[.rt (.out 0) sh2 (.st .Read)]⟩ .l (.s .l (.j ⟨[],[],[],[.rt (.out 0) sh2 (.st .Read)]⟩ (.j ⟨[0],[.out 0],[],[.sl 193 .bo]⟩ .l (.c .l .l)) (.s .l .l)))))))))))))))))))
abbrev FZ:CTt:=[(77,gI),(78,Tp),(79,Tg),(80,sr),(81,qs)]
theorem E0 (a0_r:Lt.Read) (a1_l:List (List UInt8)) (KK:((Int)×Lt.Read)->Prop):wa a0_r a1_l KK=oz ⟨Tryz.prog,eU,FZ,eS,noP⟩ Tryz.f38 Ak sh2 (.st .Read) [(.sl .s)] [(.i .i64)] a0_r a1_l KK:=by kernel_rfl
theorem QK:Cont Tryz.prog 38 Fd:=k2 ⟨Tryz.prog,eU,FZ,eS,noP⟩ (En.okc iJ (En.okc Vx (En.okc Vh (En.okc (ab En.ok0 mixed (fn:=Tryz.f80) (by kernel_rfl) (by kernel_rfl) (by kernel_rfl) (by kernel_rfl) (by kernel_rfl)) (En.okc uy En.ok0))))) mixed (fn:=Tryz.f38) Ak (by kernel_rfl) (by kernel_rfl) (fun a0_r a1_l hp KK h=>Eq.mp (E0 a0_r a1_l KK) (GK a0_r a1_l hp KK h))
def qa:CKt:=aE [(.i .i64),(.i .i64)] [(.i .i64)] (fun x=>Lt.bN x.1 x.2)
def zL:An:=.s .l (.s (.s .l (.c (.s .l .l) .l)) (.s .l .l))
theorem CC (a0_n:Int) (a1_most:Int) (KK:Int->Prop):uX a0_n a1_most KK=bc ⟨Tryz.prog,eU,[],[],noP⟩ Tryz.f82 zL [(.i .i64),(.i .i64)] [(.i .i64)] (a0_n,a1_most) KK:=by kernel_rfl
theorem uV:Cont Tryz.prog 82 qa:=k0 ⟨Tryz.prog,eU,[],[],noP⟩ En.ok0 mixed (fn:=Tryz.f82) zL (by kernel_rfl) (by kernel_rfl) (fun (a0_n,a1_most) KK h=>Eq.mp (CC a0_n a1_most KK) (Jo a0_n a1_most KK h))
def Kc:CKt:=aE [.s] [.bo] (fun x=>Lt.iI x)
def DK:An:=.s .l (.j ⟨[],[],[],[.sl 2 .bo]⟩ .l .l)
abbrev Kx:CTt:=[(112,uB)]
theorem IM (a0_w:List UInt8) (KK:Bool->Prop):BM a0_w KK=bc ⟨Tryz.prog,eU,Kx,[],noP⟩ Tryz.f114 DK [.s] [.bo] a0_w KK:=by kernel_rfl
theorem Rp:Cont Tryz.prog 114 Kc:=k0 ⟨Tryz.prog,eU,Kx,[],noP⟩ (En.okc BA En.ok0) mixed (fn:=Tryz.f114) DK (by kernel_rfl) (by kernel_rfl) (fun a0_w KK h=>Eq.mp (IM a0_w KK) (L3 a0_w KK h))
def wL:CKt:=aE [(.sl .s)] [.bo] (fun x=>Lt.bM x)
def zj:An:=.s .l (.j ⟨[],[],[],[.sl 2 .bo]⟩ .l .l)
abbrev DO:CTt:=[(77,gI),(114,Kc)]
theorem Ey (a0_l:List (List UInt8)) (KK:Bool->Prop):xD a0_l KK=bc ⟨Tryz.prog,eU,DO,[],noP⟩ Tryz.f83 zj [(.sl .s)] [.bo] a0_l KK:=by kernel_rfl
theorem E6:Cont Tryz.prog 83 wL:=k0 ⟨Tryz.prog,eU,DO,[],noP⟩ (En.okc iJ (En.okc Rp En.ok0)) mixed (fn:=Tryz.f83) zj (by kernel_rfl) (by kernel_rfl) (fun a0_l KK h=>Eq.mp (Ey a0_l KK) (G0 a0_l KK h))
def Dw:CKt:=Bf sh2 (.st .Read) [(.sl .s)] [.bo,(.i .i64)] (fun x y=>Lt.dj x y) (fun x y=>Lt.bD x y)
def pd:An:=.s .l (.s .l .l)
def qb:CKt:=aN ⟨Tryz.prog,eU,[],eS,noP⟩ Tryz.f19 pd
def yV:An:=.s .l (.s (.s .l (.b (.s .l (.c (.s (.j ⟨[0,1],[.out 0],[],[.sl 34 .bo]⟩ .l (.c (.s .l .l) .l)) (.s .l (.j ⟨[6],[],[],[.rt (.out 0) sh2 (.st .Read)]⟩ (.s .l (.c (.j ⟨[0,6],[],[],[.rt (.out 0) sh2 (.st .Read)]⟩ .l .l) .l)) (.s .l .l)))) (.s .l (.c (.s (.j ⟨[0,1],[.out 0],[],[.sl 74 .bo]⟩ .l (.c (.s .l .l) .l)) (.s .l (.s .l (.j ⟨[8],[],[],[.rt (.out 0) sh2 (.st .Read)]⟩ (.s .l (.c .l .l)) (.s .l .l))))) (.s .l (.c (.s (.j ⟨[0,1],[.out 0],[],[.sl 131 .bo]⟩ .l (.c (.s .l .l) .l)) (.s .l (.j ⟨[0,9],[],[],[.rt (.out 0) sh2 (.st .Read)]⟩ .l (.s .l (.s .l .l))))) (.s .l (.c (.s (.j ⟨[0,1],[.out 0],[],[.sl 178 .bo]⟩ .l (.c (.s .l .l) .l)) (.s .l (.s (.j ⟨[0,1,10],[.out 0],[],[.sl 195 .bo]⟩ .l (.c (.s .l .l) .l)) (.s .l (.j ⟨[0,12],[],[],[.rt (.out 0) sh2 (.st .Read)]⟩ .l (.s .l (.s .l .l))))))) (.s .l (.c (.s (.j ⟨[0,1],[.out 0],[],[.sl 232 .bo]⟩ .l (.c (.s .l .l) .l)) (.s .l (.j ⟨[0,13],[],[],[.rt (.out 0) sh2 (.st .Read)]⟩ .l (.s .l (.s .l (.s .l .l)))))) .l)))))))))))) (.s .l .l))
abbrev Eo:CTt:=[(19,qb),(77,gI),(82,qa),(83,wL),(84,ww)]
theorem EY (a0_r:Lt.Read) (a1_l:List (List UInt8)) (KK:((Bool×Int)×Lt.Read)->Prop):vC a0_r a1_l KK=oz ⟨Tryz.prog,eU,Eo,eS,noP⟩ Tryz.f39 yV sh2 (.st .Read) [(.sl .s)] [.bo,(.i .i64)] a0_r a1_l KK:=by kernel_rfl
theorem Pm:Cont Tryz.prog 39 Dw:=k2 ⟨Tryz.prog,eU,Eo,eS,noP⟩ (En.okc (ab En.ok0 mixed (fn:=Tryz.f19) (by kernel_rfl) (by kernel_rfl) (by kernel_rfl) (by kernel_rfl) (by kernel_rfl)) (En.okc iJ (En.okc uV (En.okc E6 (En.okc AX En.ok0))))) mixed (fn:=Tryz.f39) yV (by kernel_rfl) (by kernel_rfl) (fun a0_r a1_l hp KK h=>Eq.mp (EY a0_r a1_l KK) (Gj a0_r a1_l hp KK h))
def xw:CKt:=fe [(.sl .s),(.i .i64),.bo] [(.sl (.st .Bind)),.bo] (fun x=>Lt.j5 x.1 x.2.1 x.2.2) (fun x=>Lt.al x.1 x.2.1 x.2.2)
def zA:An:=.s .l (.s .l (.s (.j ⟨[0,1,2,8],[],[],[.sl 23 .bo]⟩ .l (.c (.s .l .l) .l)) (.s (.s .l (.b (.lp ⟨[0,2],[],[],[.ow 8 [.fr,.fr,.fr,.fr] (.st .Bind),.sl 9 (.i .i64)]⟩ (.s (.s .l (.c .l .l)) (.s (.b (.s .l (.s (.j ⟨[0,2,8,9,10],[.gh 900008],[],[.sl 52 .bo]⟩ .l (.c (.s .l .l) .l)) .l))) .l))))) (.s .l .l))))
abbrev D3:CTt:=[(77,gI),(81,qs)]
theorem C4 (a0_l:List (List UInt8)) (a1_from:Int) (a2_objs:Bool) (KK:(List Lt.Bind×Bool)->Prop):vA a0_l a1_from a2_objs KK=bc ⟨Tryz.prog,eU,D3,[],noP⟩ Tryz.f85 zA [(.sl .s),(.i .i64),.bo] [(.sl (.st .Bind)),.bo] (a0_l,a1_from,a2_objs) KK:=by kernel_rfl
theorem CR:Cont Tryz.prog 85 xw:=k1 ⟨Tryz.prog,eU,D3,[],noP⟩ (En.okc iJ (En.okc uy En.ok0)) mixed (fn:=Tryz.f85) zA (by kernel_rfl) (by kernel_rfl) (fun (a0_l,a1_from,a2_objs) hp KK h=>Eq.mp (C4 a0_l a1_from a2_objs KK) (Ih a0_l a1_from a2_objs hp KK h))
def FP:CKt:=Bf sh2 (.st .Read) [(.sl .s)] [.bo,(.i .i64)] (fun x y=>Lt.dj x y) (fun x y=>Lt.bH x y)
def zi:An:=.s .l (.s .l (.s (.s .l (.c .l .l)) (.a 6 (.out 0) (.s (.s .l (.b (.s .l (.c (.s (.j ⟨[1,6],[.out 0],[],[.sl 51 .bo]⟩ .l (.c (.s .l .l) .l)) (.s .l (.j ⟨[7],[],[],[.rt (.out 0) sh2 (.st .Read)]⟩ .l (.s .l .l)))) (.s .l (.c (.s (.j ⟨[0,1,6],[.out 0],[],[.sl 93 .bo]⟩ .l (.c (.s .l .l) .l)) (.s .l (.j ⟨[0,8],[],[],[.rt (.out 0) sh2 (.st .Read)]⟩ .l (.s .l (.s .l .l))))) (.s .l (.c (.s (.j ⟨[0,1,6],[.out 0],[],[.sl 153 .bo]⟩ .l (.c (.s .l .l) .l)) (.s .l (.j ⟨[0,9],[],[],[.rt (.out 0) sh2 (.st .Read)]⟩ .l (.s .l (.s .l .l))))) (.s .l (.c (.s .l (.s (.j ⟨[0,1,6,10],[.out 0],[],[.sl 205 .bo]⟩ .l (.c (.s .l .l) .l)) (.s (.j ⟨[0,1,6,10],[.out 0],[],[.sl 215 .bo]⟩ .l (.c (.s .l .l) .l)) (.s .l (.s (.s .l (.b (.lp ⟨[0,6,10,12],[.out 0],[],[.sl 13 (.i .i64),.rt (.loc 12) sh3 (.st .Phi)]⟩ (.s (.s .l (.c .l .l)) (.j ⟨[0,6,10,12,13],[.out 0],[],[.rt (.loc 12) sh3 (.st .Phi)]⟩ (.b .l) .l))))) (.s .l (.j ⟨[0],[],[],[.rt (.out 0) sh2 (.st .Read)]⟩ .l (.s .l (.s .l .l))))))))) .l)))))))))) (.s .l .l)) (.s (.s .l (.b (.s .l (.c (.s (.j ⟨[1,6],[.loc 16,.out 0],[],[.sl 51 .bo]⟩ .l (.c (.s .l .l) .l)) (.s .l (.j ⟨[7],[.out 0],[],[]⟩ .l (.s .l .l)))) (.s .l (.c (.s (.j ⟨[0,1,6],[.loc 16,.out 0],[],[.sl 93 .bo]⟩ .l (.c (.s .l .l) .l)) (.s .l (.j ⟨[0,8],[.out 0],[],[]⟩ .l (.s .l (.s .l .l))))) (.s .l (.c (.s (.j ⟨[0,1,6],[.loc 16,.out 0],[],[.sl 153 .bo]⟩ .l (.c (.s .l .l) .l)) (.s .l (.j ⟨[0,9],[.out 0],[],[]⟩ .l (.s .l (.s .l .l))))) (.s .l (.c (.s .l (.s (.j ⟨[0,1,6,10],[.loc 16,.out 0],[],[.sl 205 .bo]⟩ .l (.c (.s .l .l) .l)) (.s (.j ⟨[0,1,6,10],[.loc 16,.out 0],[],[.sl 215 .bo]⟩ .l (.c (.s .l .l) .l)) (.s .l (.s (.s .l (.b (.lp ⟨[0,6,10,12],[.loc 16,.out 0],[],[.sl 13 (.i .i64),.rt (.loc 12) sh3 (.st .Phi)]⟩ (.s (.s .l (.c .l .l)) (.j ⟨[0,6,10,12,13],[.loc 16,.out 0],[],[.rt (.loc 12) sh3 (.st .Phi)]⟩ (.b .l) .l))))) (.s .l (.s .l .l))))))) .l)))))))))) (.s .l .l)))))
abbrev E7:CTt:=[(77,gI),(82,qa),(83,wL),(85,xw)]
theorem Fq (a0_r:Lt.Read) (a1_l:List (List UInt8)) (KK:((Bool×Int)×Lt.Read)->Prop):xQ a0_r a1_l KK=oz ⟨Tryz.prog,eU,E7,eS,noP⟩ Tryz.f40 zi sh2 (.st .Read) [(.sl .s)] [.bo,(.i .i64)] a0_r a1_l KK:=by kernel_rfl
theorem OO:Cont Tryz.prog 40 FP:=k2 ⟨Tryz.prog,eU,E7,eS,noP⟩ (En.okc iJ (En.okc uV (En.okc E6 (En.okc CR En.ok0)))) mixed (fn:=Tryz.f40) zi (by kernel_rfl) (by kernel_rfl) (fun a0_r a1_l hp KK h=>Eq.mp (Fq a0_r a1_l KK) (Ja a0_r a1_l hp KK h))
def zq:CKt:=Bf sh2 (.st .Read) [(.sl .s)] [.bo,(.i .i64)] (fun x y=>Lt.dj x y) (fun x y=>Lt.bf x y)
def pu:An:=.s .l (.s .l .l)
def pM:CKt:=aN ⟨Tryz.prog,eU,[],eS,noP⟩ Tryz.f80 pu
def qC:An:=.s .l (.s .l (.s (.j ⟨[1,2,100000,100001,100006,100007,100029,100030,100031,100032,100033,100034,100035,100036,100037,100038,100039,100040,100041,100042,100043,100044,100045,100046,100047,100048,100049,100050,100051,100052,100053,100054,100055,100056,100057,100058,100141,100142,100209,100210,100211],[.out 0],[],[.sl 31 .bo]⟩ .l (.c (.s .l (.s .l .l)) .l)) (.j ⟨[1,2,100000,100001,100006,100007,100029,100030,100031,100032,100033,100034,100035,100036,100037,100038,100039,100040,100041,100042,100043,100044,100045,100046,100047,100048,100049,100050,100051,100052,100053,100054,100055,100056,100057,100058,100141,100142,100209,100210,100211],[.out 0],[],[]⟩ (.j ⟨[1,2,100000,100001,100006,100007,100029,100030,100031,100032,100033,100034,100035,100036,100037,100038,100039,100040,100041,100042,100043,100044,100045,100046,100047,100048,100049,100050,100051,100052,100053,100054,100055,100056,100057,100058,100141,100142,100209,100210,100211],[.out 0],[],[.sl 58 .bo]⟩ .l (.c (.s .l (.s .l (.c (.s .l (.s .l .l)) .l))) .l)) (.j ⟨[1,2,100000,100001,100006,100007,100029,100030,100031,100032,100033,100034,100035,100036,100037,100038,100039,100040,100041,100042,100043,100044,100045,100046,100047,100048,100049,100050,100051,100052,100053,100054,100055,100056,100057,100058,100141,100142,100209,100210,100211],[.out 0],[],[]⟩ (.j ⟨[1,2,100000,100001,100006,100007,100029,100030,100031,100032,100033,100034,100035,100036,100037,100038,100039,100040,100041,100042,100043,100044,100045,100046,100047,100048,100049,100050,100051,100052,100053,100054,100055,100056,100057,100058,100141,100142,100209,100210,100211],[.out 0],[],[.sl 88 .bo]⟩ .l (.c (.s .l (.s .l (.c (.s .l (.s .l .l)) .l))) .l)) (.j ⟨[100000,100001,100006,100007,100029,100030,100031,100032,100033,100034,100035,100036,100037,100038,100039,100040,100041,100042,100043,100044,100045,100046,100047,100048,100049,100050,100051,100052,100053,100054,100055,100056,100057,100058,100141,100142,100209,100210,100211],[.out 0],[],[]⟩ (.j ⟨[1,2,100000,100001,100006,100007,100029,100030,100031,100032,100033,100034,100035,100036,100037,100038,100039,100040,100041,100042,100043,100044,100045,100046,100047,100048,100049,100050,100051,100052,100053,100054,100055,100056,100057,100058,100141,100142,100209,100210,100211],[.out 0],[],[.sl 111 .bo]⟩ .l (.c (.s .l (.s .l (.c (.s .l (.s .l .l)) .l))) .l)) (.s .l .l))))))
def rG:CKt:=aN ⟨Tryz.prog,eU,[(77,gI),(81,qs),(84,ww)],eS,noP⟩ Tryz.f86 qC
def xd:An:=.s .l (.s (.s .l (.b (.j ⟨[0,1],[.out 0],[],[.sl 20 .bo]⟩ (.s .l (.c .l (.s .l (.c .l (.s .l (.c .l (.s .l (.c .l (.s .l (.c .l .l)))))))))) (.c .l (.s .l .l))))) (.s (.j ⟨[0,1],[.out 0],[],[.sl 29 .bo]⟩ .l (.c (.s .l .l) .l)) (.s .l (.s .l (.s (.s .l (.b (.s .l (.c (.s .l (.s (.j ⟨[1,7,8],[.out 0],[],[.sl 83 .bo]⟩ .l (.c (.s .l .l) .l)) (.s .l (.s (.j ⟨[1,7,8,10],[.out 0],[],[.sl 100 .bo]⟩ .l (.c (.s .l .l) .l)) (.s .l (.s (.j ⟨[1,8,10,12],[.out 0],[],[.sl 122 .bo]⟩ .l (.c (.s .l .l) .l)) (.j ⟨[],[],[],[.rt (.out 0) sh2 (.st .Read)]⟩ .l (.s .l .l)))))))) (.s .l (.c (.s (.j ⟨[0,1,7],[.out 0],[],[.sl 165 .bo]⟩ .l (.c (.s .l .l) .l)) (.s .l (.s (.s .l (.c (.s .l .l) .l)) (.s .l (.s .l (.j ⟨[0,16],[],[],[.rt (.out 0) sh2 (.st .Read)]⟩ .l (.s .l (.s .l .l)))))))) .l)))))) (.j ⟨[],[],[],[.sl 4 .bo,.sl 5 (.i .i64),.rt (.out 0) sh2 (.st .Read)]⟩ .l .l))))))
abbrev zw:CTt:=[(77,gI),(80,pM),(81,qs),(82,qa),(84,ww),(85,xw),(86,rG)]
theorem Bl (a0_r:Lt.Read) (a1_l:List (List UInt8)) (KK:((Bool×Int)×Lt.Read)->Prop):sQ a0_r a1_l KK=oz ⟨Tryz.prog,eU,zw,eS,noP⟩ Tryz.f41 xd sh2 (.st .Read) [(.sl .s)] [.bo,(.i .i64)] a0_r a1_l KK:=by kernel_rfl
theorem M9:Cont Tryz.prog 41 zq:=k2 ⟨Tryz.prog,eU,zw,eS,noP⟩ (En.okc iJ (En.okc (ab En.ok0 mixed (fn:=Tryz.f80) (by kernel_rfl) (by kernel_rfl) (by kernel_rfl) (by kernel_rfl) (by kernel_rfl)) (En.okc uy (En.okc uV (En.okc AX (En.okc CR (En.okc (ab (En.okc iJ (En.okc uy (En.okc AX En.ok0))) mixed (fn:=Tryz.f86) (by kernel_rfl) (by kernel_rfl) (by kernel_rfl) (by kernel_rfl) (by kernel_rfl)) En.ok0))))))) mixed (fn:=Tryz.f41) xd (by kernel_rfl) (by kernel_rfl) (fun a0_r a1_l hp KK h=>Eq.mp (Bl a0_r a1_l KK) (D7 a0_r a1_l hp KK h))
def Cr:CKt:=Bf sh2 (.st .Read) [(.sl .s),.bo] [(.i .i64)] (fun x y=>Lt.wV x y.1 y.2) (fun x y=>Lt.aO x y.1 y.2)
def ze:An:=.s .l (.s (.j ⟨[0,1,2],[.out 0],[],[.sl 17 .bo]⟩ .l (.c (.s .l .l) .l)) (.s (.s .l (.c (.s (.j ⟨[0],[.out 0],[],[.sl 31 .bo]⟩ .l (.c (.s .l .l) .l)) (.s .l (.s .l .l))) .l)) (.s .l (.j ⟨[0,1],[],[],[.sl 7 .bo,.sl 8 (.i .i64),.rt (.out 0) sh2 (.st .Read)]⟩ (.s .l (.c .l .l)) (.j ⟨[0,1],[],[],[.sl 7 .bo,.sl 8 (.i .i64),.rt (.out 0) sh2 (.st .Read)]⟩ (.s .l (.c .l .l)) (.j ⟨[],[],[],[.sl 8 (.i .i64),.rt (.out 0) sh2 (.st .Read)]⟩ (.s .l (.c .l .l)) (.s .l .l)))))))
abbrev FL:CTt:=[(38,Fd),(39,Dw),(40,FP),(41,zq)]
theorem EU (a0_r:Lt.Read) (a1_l:List (List UInt8)) (a2_first:Bool) (KK:((Int)×Lt.Read)->Prop):xn a0_r a1_l a2_first KK=oz ⟨Tryz.prog,eU,FL,eS,noP⟩ Tryz.f18 ze sh2 (.st .Read) [(.sl .s),.bo] [(.i .i64)] a0_r (a1_l,a2_first) KK:=by kernel_rfl
theorem Qy:Cont Tryz.prog 18 Cr:=k2 ⟨Tryz.prog,eU,FL,eS,noP⟩ (En.okc QK (En.okc Pm (En.okc OO (En.okc M9 En.ok0)))) mixed (fn:=Tryz.f18) ze (by kernel_rfl) (by kernel_rfl) (fun a0_r (a1_l,a2_first) hp KK h=>Eq.mp (EU a0_r a1_l a2_first KK) (Gg a0_r a1_l a2_first hp KK h))
def FSx:CKt:=aE [.s] [(.st .Program),(.i .i64),(.i .i64)] (fun x=>Lt.oA x)
def oQ:An:=.s .l (.s .l .l)
def qR:CKt:=aN ⟨Tryz.prog,eU,[],eS,noP⟩ Tryz.f19 oQ
def zP:An:=.s .l (.s .l (.s (.s .l (.c (.s .l .l) .l)) (.s .l (.s (.s .l (.b (.lp ⟨[2,5,8],[.loc 2],[],[.sl 9 (.i .i64),.rt (.loc 22) sh2 (.st .Read)]⟩ (.s (.s .l (.c .l .l)) (.s (.b (.s .l (.s .l (.c (.s .l .l) .l)))) .l))))) (.s (.j ⟨[2,8],[.loc 2,.loc 22],[],[.sl 49 .bo]⟩ .l (.c (.s .l .l) .l)) (.s .l .l))))))
abbrev DH:CTt:=[(17,Ef),(18,Cr),(19,qR)]
theorem DI (a0_s:List UInt8) (KK:(Lt.Program×Int×Int)->Prop):wb a0_s KK=bc ⟨Tryz.prog,eU,DH,eS,noP⟩ Tryz.f7 zP [.s] [(.st .Program),(.i .i64),(.i .i64)] a0_s KK:=by kernel_rfl
theorem PB:Cont Tryz.prog 7 FSx:=k0 ⟨Tryz.prog,eU,DH,eS,noP⟩ (En.okc OL (En.okc Qy (En.okc (ab En.ok0 mixed (fn:=Tryz.f19) (by kernel_rfl) (by kernel_rfl) (by kernel_rfl) (by kernel_rfl) (by kernel_rfl)) En.ok0))) mixed (fn:=Tryz.f7) zP (by kernel_rfl) (by kernel_rfl) (fun a0_s KK h=>Eq.mp (DI a0_s KK) (IU a0_s KK h))
def Fw:CKt:=aE [] [.bo] (fun x=>Lt.Cc )
def zT:An:=.s .l (.s .l (.s .l (.s .l (.s (.j ⟨[1],[.loc 1],[],[.sl 58 .bo]⟩ .l (.c (.s .l .l) .l)) (.s .l (.j ⟨[],[],[],[.sl 0 .bo]⟩ .l .l))))))
abbrev Fi:CTt:=[(6,wD)]
theorem Do (KK:Bool->Prop):vX KK=bc ⟨Tryz.prog,eU,Fi,[],noP⟩ Tryz.f8 zT [] [.bo] () KK:=by kernel_rfl
theorem PV:Cont Tryz.prog 8 Fw:=k0 ⟨Tryz.prog,eU,Fi,[],noP⟩ (En.okc C1 En.ok0) mixed (fn:=Tryz.f8) zT (by kernel_rfl) (by kernel_rfl) (fun _ KK h=>Eq.mp (Do KK) (IX KK h))
def pv:CKt:=aE [(.sl (.st .Var)),(.sl (.st .Var))] [.bo] (fun x=>Lt.fy x.1 x.2)
def tC:An:=.s .l (.s (.s .l (.c (.s .l .l) .l)) (.s (.s .l (.b (.lp ⟨[0,1],[],[],[.sl 5 (.i .i64)]⟩ (.s (.s .l (.c .l .l)) (.s (.b (.s .l (.c (.s .l .l) .l))) .l))))) (.s .l .l)))
theorem yP (a0_a:List Lt.Var) (a1_b:List Lt.Var) (KK:Bool->Prop):o5 a0_a a1_b KK=bc ⟨Tryz.prog,eU,[],[],noP⟩ Tryz.f20 tC [(.sl (.st .Var)),(.sl (.st .Var))] [.bo] (a0_a,a1_b) KK:=by kernel_rfl
theorem wc:Cont Tryz.prog 20 pv:=k0 ⟨Tryz.prog,eU,[],[],noP⟩ En.ok0 mixed (fn:=Tryz.f20) tC (by kernel_rfl) (by kernel_rfl) (fun (a0_a,a1_b) KK h=>Eq.mp (yP a0_a a1_b KK) (Ca a0_a a1_b KK h))
def wv:CKt:=aE [(.sl (.st .Arg)),(.sl (.st .Arg))] [.bo] (fun x=>Lt.kn x.1 x.2)
def tu:An:=.s .l (.s (.s .l (.c (.s .l .l) .l)) (.s (.s .l (.b (.lp ⟨[0,1],[],[],[.sl 5 (.i .i64)]⟩ (.s (.s .l (.c .l .l)) (.s (.b (.s .l (.c (.s .l .l) .l))) .l))))) (.s .l .l)))
theorem yM (a0_a:List Lt.Arg) (a1_b:List Lt.Arg) (KK:Bool->Prop):oT a0_a a1_b KK=bc ⟨Tryz.prog,eU,[],[],noP⟩ Tryz.f117 tu [(.sl (.st .Arg)),(.sl (.st .Arg))] [.bo] (a0_a,a1_b) KK:=by kernel_rfl
theorem G9:Cont Tryz.prog 117 wv:=k0 ⟨Tryz.prog,eU,[],[],noP⟩ En.ok0 mixed (fn:=Tryz.f117) tu (by kernel_rfl) (by kernel_rfl) (fun (a0_a,a1_b) KK h=>Eq.mp (yM a0_a a1_b KK) (BH a0_a a1_b KK h))
def tw:CKt:=aE [(.st .Instr),(.st .Instr)] [.bo] (fun x=>Lt.kG x.1 x.2)
def re:An:=.s .l (.s (.j ⟨[2,3],[.loc 2,.loc 3],[],[.sl 54 .bo]⟩ .l (.c (.s .l .l) .l)) (.s (.s .l (.b (.lp ⟨[2,3],[.loc 2,.loc 3],[],[.sl 5 (.i .i64)]⟩ (.s (.s .l (.c .l .l)) (.s (.b (.s .l (.s .l (.s (.j ⟨[2,3,5,6,7],[.loc 2,.loc 3,.loc 6,.loc 7],[],[.sl 99 .bo]⟩ .l (.c (.s .l .l) .l)) (.s .l (.b (.lp ⟨[2,3,5,6,7],[.loc 2,.loc 3,.loc 6,.loc 7],[],[.sl 8 (.i .i64)]⟩ (.s (.s .l (.c .l .l)) (.s (.b (.s .l (.c (.s .l .l) .l))) .l))))))))) .l))))) (.s (.s .l (.b (.lp ⟨[2,3],[.loc 2,.loc 3],[],[.sl 9 (.i .i64)]⟩ (.s (.s .l (.c .l .l)) (.s (.b (.j ⟨[2,3,9],[.loc 2,.loc 3],[],[.sl 153 .bo]⟩ .l (.c (.s .l .l) .l))) .l))))) (.s .l .l))))
abbrev tB:CTt:=[(117,wv)]
theorem vS (a0_a:Lt.Instr) (a1_b:Lt.Instr) (KK:Bool->Prop):m5 a0_a a1_b KK=bc ⟨Tryz.prog,eU,tB,[],noP⟩ Tryz.f87 re [(.st .Instr),(.st .Instr)] [.bo] (a0_a,a1_b) KK:=by kernel_rfl
theorem Er:Cont Tryz.prog 87 tw:=k0 ⟨Tryz.prog,eU,tB,[],noP⟩ (En.okc G9 En.ok0) mixed (fn:=Tryz.f87) re (by kernel_rfl) (by kernel_rfl) (fun (a0_a,a1_b) KK h=>Eq.mp (vS a0_a a1_b KK) (yw a0_a a1_b KK h))
def tO:CKt:=aE [(.st .Block),(.st .Block)] [.bo] (fun x=>Lt.kF x.1 x.2)
def p5:An:=.s .l (.s (.j ⟨[2,3],[.loc 2,.loc 3],[],[.sl 69 .bo]⟩ .l (.c (.s .l .l) .l)) (.s (.s .l (.b (.lp ⟨[2,3],[.loc 2,.loc 3],[],[.sl 5 (.i .i64)]⟩ (.s (.s .l (.c .l .l)) (.s (.b (.s .l (.c (.s .l .l) .l))) .l))))) (.s (.s .l (.b (.lp ⟨[2,3],[.loc 2,.loc 3],[],[.sl 6 (.i .i64)]⟩ (.s (.s .l (.c .l .l)) (.s (.b (.s (.j ⟨[2,3,6],[.loc 2,.loc 3],[],[.sl 127 .bo]⟩ .l (.c (.s .l .l) .l)) (.s .l (.b (.lp ⟨[2,3,6],[.loc 2,.loc 3],[],[.sl 7 (.i .i64)]⟩ (.s (.s .l (.c .l .l)) (.s (.b (.s .l (.c (.s .l .l) .l))) .l))))))) .l))))) (.s (.s .l (.b (.lp ⟨[2,3],[.loc 2,.loc 3],[],[.sl 8 (.i .i64)]⟩ (.s (.s .l (.c .l .l)) (.s (.b (.s .l (.c (.s .l .l) .l))) .l))))) (.s .l .l)))))
abbrev tn:CTt:=[(87,tw)]
theorem wY (a0_a:Lt.Block) (a1_b:Lt.Block) (KK:Bool->Prop):mK a0_a a1_b KK=bc ⟨Tryz.prog,eU,tn,[],noP⟩ Tryz.f42 p5 [(.st .Block),(.st .Block)] [.bo] (a0_a,a1_b) KK:=by kernel_rfl
theorem Cq:Cont Tryz.prog 42 tO:=k0 ⟨Tryz.prog,eU,tn,[],noP⟩ (En.okc Er En.ok0) mixed (fn:=Tryz.f42) p5 (by kernel_rfl) (by kernel_rfl) (fun (a0_a,a1_b) KK h=>Eq.mp (wY a0_a a1_b KK) (yz a0_a a1_b KK h))
def vh:CKt:=aE [(.st .Func),(.st .Func)] [.bo] (fun x=>Lt.ml x.1 x.2)
def th:An:=.s .l (.s (.j ⟨[2,3],[.loc 2,.loc 3],[],[.sl 42 .bo]⟩ .l (.c (.s .l .l) .l)) (.s (.s .l (.b (.lp ⟨[2,3],[.loc 2,.loc 3],[],[.sl 5 (.i .i64)]⟩ (.s (.s .l (.c .l .l)) (.s (.b (.s .l (.c (.s .l .l) .l))) .l))))) (.s .l .l)))
abbrev u6:CTt:=[(20,pv),(42,tO)]
theorem yv (a0_a:Lt.Func) (a1_b:Lt.Func) (KK:Bool->Prop):pF a0_a a1_b KK=bc ⟨Tryz.prog,eU,u6,[],noP⟩ Tryz.f21 th [(.st .Func),(.st .Func)] [.bo] (a0_a,a1_b) KK:=by kernel_rfl
theorem IS:Cont Tryz.prog 21 vh:=k0 ⟨Tryz.prog,eU,u6,[],noP⟩ (En.okc wc (En.okc Cq En.ok0)) mixed (fn:=Tryz.f21) th (by kernel_rfl) (by kernel_rfl) (fun (a0_a,a1_b) KK h=>Eq.mp (yv a0_a a1_b KK) (Cm a0_a a1_b KK h))
def OF:CKt:=aE [(.st .Program),(.st .Program)] [.bo] (fun x=>Lt.Same x.1 x.2)
def Kj:An:=.s .l (.s (.j ⟨[2,3],[.loc 2,.loc 3],[],[.sl 47 .bo]⟩ .l (.c (.s .l .l) .l)) (.s (.s .l (.b (.lp ⟨[2,3],[.loc 2,.loc 3],[],[.sl 5 (.i .i64)]⟩ (.s (.s .l (.c .l .l)) (.s (.b (.j ⟨[2,3,5],[.loc 2,.loc 3],[],[.sl 83 .bo]⟩ .l (.c (.s .l .l) .l))) .l))))) (.s (.s .l (.b (.lp ⟨[2,3],[.loc 2,.loc 3],[],[.sl 6 (.i .i64)]⟩ (.s (.s .l (.c .l .l)) (.s (.b (.s .l (.c (.s .l .l) .l))) .l))))) (.s (.s .l (.b (.lp ⟨[2,3],[.loc 2,.loc 3],[],[.sl 7 (.i .i64)]⟩ (.s (.s .l (.c .l .l)) (.s (.b (.s .l (.c (.s .l .l) .l))) .l))))) (.s .l .l)))))
abbrev Qc:CTt:=[(20,pv),(21,vh)]
theorem Nc (a0_a:Lt.Program) (a1_b:Lt.Program) (KK:Bool->Prop):Iw a0_a a1_b KK=bc ⟨Tryz.prog,eU,Qc,[],noP⟩ Tryz.f9 Kj [(.st .Program),(.st .Program)] [.bo] (a0_a,a1_b) KK:=by kernel_rfl
theorem TN:Cont Tryz.prog 9 OF:=k0 ⟨Tryz.prog,eU,Qc,[],noP⟩ (En.okc wc (En.okc IS En.ok0)) mixed (fn:=Tryz.f9) Kj (by kernel_rfl) (by kernel_rfl) (fun (a0_a,a1_b) KK h=>Eq.mp (Nc a0_a a1_b KK) (OI a0_a a1_b KK h))
end Go.Am
end
