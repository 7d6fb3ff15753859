/-
  Part 17: AmRd · AmKB · AmE13.
-/
import Derived.Test.YtlikflolhhlgjaaGreatDoorBa16
import Derived.MapFrom
set_option linter.unusedSimpArgs false
set_option linter.unusedVariables false
set_option linter.unusedSectionVars false
set_option linter.unnecessarySimpa false
section
namespace Go.Am
open Go Go.RowKit Go.Proofs Go.MapKept
def rN (w:List UInt8) (df:Nat):List (List UInt8×Nat)->Nat
 | []=>df
 | (w0,f)::r=>if decide (w=w0)=true then f else rN w df r
theorem Cm (w:List UInt8) (K:Nat->Prop) (df:Nat):∀ tab,swP w K df tab=K (rN w df tab)
 | []=>rfl
 | (w0,f)::r=>by
  rw [swP,rN,Cm w K df r];split <;> rfl
section
variable {P:Program}
theorem T5 {o:Oper} {a:Act} {next:Act->World->Prop} {Q:Exit->Act->World->Prop} {mt kt et:TypeId} {r:Nat} {es:Array MapEntry} {clock:Nat} {k:ByteArray} {v:Value} {w:World}
  (hm:P.underlying mt=some (.map kt et)) (hd:P.underlying kt=some .string) (hb:w.heap[r]? = some (.map es clock)) (hf:Instr.findNow .string (.string k) es.toList 0=some none)
  (h:∀ w2,w2.heap[r]? = some (.map (es.push { key:=.string k,val:=v,born:=clock }) (clock+1))->Below r w w2->next (a.put o.dst undef) w2) :
  o.upon P a next Q (((Instr.mapUpdate mt (.map (some r)) (.string k) v).run P w).andThen fun _ w'=>.ok Next.skip w'):=by
 have hrun:(Instr.mapUpdate mt (.map (some r)) (.string k) v).run P w=.ok () { w with heap:=w.heap.setIfInBounds r (.map (es.push { key:=.string k,val:=v,born:=clock }) (clock+1)) }:=by
  simp [Instr.mapUpdate,run_underlying hm,MapKept.run_getObj_map hb,run_checkKey hd (k:=.string k) trivial,run_findKey hd hf,run_setObj_map _ hb,Result.andThen]
 rw [hrun];exact h _ (heap_set hb).1 ⟨rfl,rfl,rfl,by simp,fun j hj=>(heap_set hb).2 j (by omega)⟩
theorem Km (s:ByteArray):∀ (es:List MapEntry) (tab:List (List UInt8×Nat)) (i:Nat),es.map (fun e=>(e.key,e.val))=tab.map (fun x=>(Value.string ⟨x.1.toArray⟩,Value.func (.func x.2) #[] #[])) ->
  (∃ x∈tab,(∃ j,Instr.findNow .string (.string s) es i=some (some (j,.func (.func x.2) #[] #[])))/\∀ df,rN s.data.toList df tab=x.2)\/(Instr.findNow .string (.string s) es i=some none/\∀ df,rN s.data.toList df tab=df)
 | [],[],i,_=>.inr ⟨rfl,fun _=>rfl⟩
 | [],_::_,i,h=>by simp at h
 | _::_,[],i,h=>by simp at h
 | e::es,(k,f)::tab,i,h=>by
  obtain ⟨ek,ev,eb⟩:=e;simp only [List.map_cons,List.cons.injEq,Prod.mk.injEq] at h;obtain ⟨⟨rfl,rfl⟩,h⟩:=h;unfold Instr.findNow;simp only [Instr.sameNow];by_cases hc:s=⟨k.toArray⟩
  ·have e1:(s==⟨k.toArray⟩)=true:=(bytes_beq _ _).2 hc
   rw [e1];refine .inl ⟨(k,f),by simp,⟨i,rfl⟩,fun df=>?_⟩;have:s.data.toList=k:=by rw [hc]
   rw [rN,if_pos (by simp [this])]
  ·have e1:(s==⟨k.toArray⟩)=false:=by
    rw [ad3]; exact fun e=>hc ((bytes_beq _ _).1 e)
   rw [e1];have n1:¬ s.data.toList=k:=by
    rintro rfl
    exact hc (by obtain ⟨x⟩:=s; simp)
   rcases Km s es tab (i+1) h with ⟨x,hx,hj,hp⟩ | ⟨h1,h2⟩
   ·exact .inl ⟨x,by simp [hx],hj,fun df=>by rw [rN,if_neg (by simpa using n1)]; exact hp df⟩
   ·exact .inr ⟨h1,fun df=>by rw [rN,if_neg (by simpa using n1)]; exact h2 df⟩
theorem Li {mt kt et:TypeId} {r:Nat} {es:Array MapEntry} {clock:Nat} {s:ByteArray} {w:World} (hm:P.underlying mt=some (.map kt et)) (hd:P.underlying kt=some .string) (hz:(zeroValue et).run P w=.ok .nilFunc w)
  (hb:w.heap[r]? = some (.map es clock)) {x:Option (Nat×Value)} (hf:Instr.findNow .string (.string s) es.toList 0=some x) :
  (Instr.lookup mt (.map (some r)) (.string s) false).run P w=.ok (match x with | some (_,v)=>v | none=>.nilFunc) w:=by
 cases x with
 | none=>simp [Instr.lookup,run_underlying hm,MapKept.run_getObj_map hb,run_checkKey hd (k:=.string s) trivial,run_findKey hd hf,hz,Result.andThen]
 | some y=>obtain ⟨j,v⟩:=y; simp [Instr.lookup,run_underlying hm,MapKept.run_getObj_map hb,run_checkKey hd (k:=.string s) trivial,run_findKey hd hf,Result.andThen]
end
theorem X3 {P:Program} {t:TypeId} {ps rs:Array TypeId} {va:Bool} {f:Fn} {a b:Array Value} (h:P.underlying t=some (.func ps rs va)) (w:World):(Op.equal t (.func f a b) .nilFunc).run P w=.ok false w:=by
 unfold Op.equal Op.maxDepth;rw [show (10000:Nat)=9999+1 from rfl];unfold Op.equalIn;simp only [Sem.run_bind,run_underlying h,Result.andThen];rfl
theorem M6 {P:Program} {t:TypeId} {ps rs:Array TypeId} {va:Bool} (h:P.underlying t=some (.func ps rs va)) (w:World):(Op.equal t .nilFunc .nilFunc).run P w=.ok true w:=by
 unfold Op.equal Op.maxDepth;rw [show (10000:Nat)=9999+1 from rfl];unfold Op.equalIn;simp only [Sem.run_bind,run_underlying h,Result.andThen];rfl
theorem VR {P:Program} {t:TypeId} {ps rs:Array TypeId} {va:Bool} {f:Fn} {a b:Array Value} (h:P.underlying t=some (.func ps rs va)) (w:World):(binOp .neq t (.func f a b) .nilFunc).run P w=.ok (.bool true) w:=by
 show (do pure (.bool (!(<- Op.equal t (.func f a b) .nilFunc))):Sem Value).run P w=_
 simp only [Sem.run_bind,X3 h,Result.andThen];rfl
theorem KM {P:Program} {t:TypeId} {ps rs:Array TypeId} {va:Bool} (h:P.underlying t=some (.func ps rs va)) (w:World):(binOp .neq t .nilFunc .nilFunc).run P w=.ok (.bool false) w:=by
 show (do pure (.bool (!(<- Op.equal t .nilFunc .nilFunc))):Sem Value).run P w=_
 simp only [Sem.run_bind,M6 h,Result.andThen];rfl
theorem ZR {es0:Array MapEntry} {c0:Nat} {f:Option Obj} (hb:f=some (.map es0 c0)) {L:List (Value×Value)} (he:es0.toList.map (fun e=>(e.key,e.val))=L):∃ es c,f=some (.map es c)/\es.toList.map (fun e=>(e.key,e.val))=L:=⟨es0,c0,hb,he⟩
def Uf:List (List UInt8×Nat):=[([115,115,97],57),([99,108,97,115,115],58),([102,105,101,108,100],59),([103,108,111,98,97,108],60),([101,120,116,101,114,110],61),([102,117,110,99],62),([112,97,114,97,109],63),([118,97,114],64),([98,108,111,99,107],65),([112,104,105],66),([97,116],67),([111,98,106],68),([106,117,109,112],69),([98,114,97,110,99,104],69),([114,101,116],69),([116,114,97,112],69)]
set_option maxRecDepth 100000 in
theorem Fw (s:ByteArray) (w:World) :
  Calls Tryz.prog 34 #[.string s] w fun e w'=>e=.returned (.func (.func (rN s.data.toList 35 Uf)) #[] #[])/\Below w.heap.size w w':=by
 have hmm:=@run_makeMap Tryz.prog
 have hm:=Tryz.underlying136
 have hd:=Tryz.underlying9
 have hz:∀ w,(zeroValue 101).run Tryz.prog w=.ok .nilFunc w:=Tryz.zeroValue101
 have hb:(w.alloc (.map #[] 0)).heap[w.heap.size]? = some (.map #[] 0):=(heap_alloc w _).1
 have hB:Below w.heap.size w (w.alloc (.map #[] 0)):=(Below.refl _ w).alloc (adH _) _
 go_enter Tryz.func34,Tryz.ntmps34
 go_wp2
 iterate 16
  refine T5 hm hd hb (by kernel_rfl) (fun w2 hb2 hB2=>?_)
  replace hB:=hB.trans hB2
  replace hb:=hb2
  clear hB2 hb2
  go_wp2
 obtain ⟨es,c,hb,he⟩:=ZR hb (L:=Uf.map (fun x=>(Value.string ⟨x.1.toArray⟩,Value.func (.func x.2) #[] #[]))) (by kernel_rfl);rcases Km s es.toList Uf 0 he with ⟨x,hx,⟨j,hj⟩,hp⟩ | ⟨h1,hp⟩
 ·rw [Li hm hd (hz _) hb hj];simp only [Result.andThen];rw [Oper.upon_value]
  go_wp2
  rw [VR Tryz.underlying101];simp only [Result.andThen];rw [Oper.upon_value]
  go_wp2
  go_ret
  exact ⟨by rw [hp]; rfl,hB⟩
 ·rw [Li hm hd (hz _) hb h1];simp only [Result.andThen];rw [Oper.upon_value]
  go_wp2
  rw [KM Tryz.underlying101];simp only [Result.andThen];rw [Oper.upon_value]
  go_wp2
  go_ret
  exact ⟨by rw [hp]; rfl,hB⟩
theorem ZQ {v:At} {x:List UInt8} (h:cF [.s] [v]=some x):v.noRf=true/\v.toV.isFz=true/\v.toV.map T.canon=.one (.c (.d (.str x))):=by
 obtain ⟨h1,h2,h3⟩:=f7 h;refine ⟨by simpa using h1,by simpa using h2,?_⟩;have:[v.toV.map T.canon]=[AV.one (.c (.d (.str x)))]:=h3
 simpa using this
def oh:CKt:=swT Uf 35
theorem Nd:Cont Tryz.prog 34 oh:=by
 refine ⟨kX (fn:=Tryz.f34) (by kernel_rfl) (by kernel_rfl) (by kernel_rfl),fun pk s ops k k' hk hc=>?_,fun g pk s a w H γ F1 ops k hX hops hc=>?_⟩
 ·unfold oh swT at hc ⊢;dsimp only at hc ⊢;split at hc
  ·rw [Cm] at hc ⊢;exact hk _ _ (dj _ _) hc
  ·exact hc.elim
 ·unfold oh swT at hc;dsimp only at hc;obtain ⟨H1,F2,h1⟩:=eF (ops.map (evA s)) s H F1 hX;generalize cT s (ops.map (evA s))=s1 at hc h1;split at hc
  ·rename_i x hx;rw [Cm] at hc
   match ops,hx with
   | [],hx=>simp [cF] at hx
   | [o],hx=>
    obtain ⟨_,hz,hcn⟩:=ZQ hx;have hop:bh o=true:=by simpa using hops
    have hv:=br h1 hop
    rw [aF hop] at hv;have hv2:=fE cU (lf (w':=w) (γ':=γ) (m':=[]) (fun _ _ _ h=>h) hz hv)
    rw [hcn] at hv2;obtain ⟨e1,_⟩:=lr hv2;show Calls _ _ #[a.eval o] w _
    rw [e1];refine (Fw ⟨x.toArray⟩ w).mono ?_;rintro e w' ⟨rfl,hb⟩
    rw [qy];have hsame:∀ b,tot F2 s1.toS.m b≠0->w'.heap[b]? = w.heap[b]? := fun b hb'=>hb.block b (h1.mem.lt b hb')
    have hKp:=dn (w':=w') h1.mem hsame
    have hmem:Mem w' H1 γ s1.toS.m F2:=by
     refine ⟨fun b o y hy=>?_,fun x hx=>aX hKp (fun _ _ _ h=>h) rfl (fun b hb'=>hsame b (by have:=bX (F:=F2) hx b; omega)) (h1.mem.roots x hx),h1.mem.keys,h1.mem.le1,fun b hb'=>by have:=h1.mem.lt b hb'; have:=hb.size; omega,h1.mem.nofz⟩;have hlt:b<w.heap.size:=World.block_lt_of_cell? _ _ (h1.mem.agree b o y hy)
     rw [hb.cell hlt];exact h1.mem.agree b o y hy
    have hFr:Fr w H1 (tot F2 s1.toS.m) w' H1 (tot F2 s1.toS.m):=
     ⟨hb.size,hb.os,hb.tape,hb.output,fun b hb' _=>hb.block b hb',fun _ _ _ h=>h,fun b o h2 h3=>absurd h3 h2,fun b hb=>.inl hb⟩
    exact .inl ⟨_,s1,sct (.v (.func (.func (rN x 35 Uf)) #[] #[])),H1,γ,F2,rfl,hc,⟨fun _=>rfl,0,rfl,rfl⟩,iM h1 hmem hFr (fun i=>dv hKp (fun _ _ _ h=>h) (h1.t i)) (fun _=>rfl)⟩
   | _::_::_,hx=>simp [cF] at hx
  ·exact hc.elim
end Go.Am
end

section
namespace Go.Am
open Go Go.Proofs
set_option maxRecDepth 100000
theorem En.ok0 {P:Program} {u:Ut} {sh:List (TypeId×List Sh)} {pk:PKt}:En.ok ⟨P,u,[],sh,pk⟩:=fun _ h=>by cases h
theorem En.okc {P:Program} {u:Ut} {sh:List (TypeId×List Sh)} {pk:PKt} {f:Nat} {C:CKt} {cs:CTt} (h:Cont P f C) (hs:En.ok ⟨P,u,cs,sh,pk⟩):En.ok ⟨P,u,(f,C)::cs,sh,pk⟩:=by
 intro x hx;rcases adK.1 hx with rfl | hx
 ·exact h
 ·exact hs x hx
theorem mixed:Tryz.prog.follows .mixedOrders=true:=by kernel_rfl
def okF (n:Nat) (fn:Func):Bool:=fn.name != "runtime.NumGoroutine" && (fn.body.isSome&&(Nat.ble n fn.ntmps&&kg fn.ntmps (fn.body.getD .skip)))
theorem fo {n:Nat} {fn:Func} (h:okF n fn=true):(fn.name == "runtime.NumGoroutine")=false/\fn.body.isSome=true/\Nat.ble n fn.ntmps=true/\kg fn.ntmps (fn.body.getD .skip)=true:=by
 unfold okF at h;simp only [ac9,bne,aeJ] at h;exact h
theorem k0 (e:En) (he:e.ok) (hm:e.P.follows .mixedOrders=true) {f:Nat} {fn:Func} (an:An) {ps rs:List U} {F:Fl ps->Fl rs} (hf:e.P.funcs[f]? = some fn) (hb:okF ps.length fn=true) (law:∀ x,∀ KK:Fl rs->Prop,KK (F x)->bf e fn an ps rs x KK):Cont e.P f (aP ps rs F):=
 On he hm hf (fo hb).1 (fo hb).2.1 (fo hb).2.2.1 (fo hb).2.2.2 law
theorem k1 (e:En) (he:e.ok) (hm:e.P.follows .mixedOrders=true) {f:Nat} {fn:Func} (an:An) {ps rs:List U} {pre:Fl ps->Prop} {F:Fl ps->Fl rs} (hf:e.P.funcs[f]? = some fn) (hb:okF ps.length fn=true) (law:∀ x,pre x->∀ KK:Fl rs->Prop,KK (F x)->bf e fn an ps rs x KK):Cont e.P f (eK ps rs pre F):=
 Ep he hm hf (fo hb).1 (fo hb).2.1 (fo hb).2.2.1 (fo hb).2.2.2 law
theorem k2 (e:En) (he:e.ok) (hm:e.P.follows .mixedOrders=true) {f:Nat} {fn:Func} (an:An) {sh:List Sh} {u:U} {ps rs:List U} {pre:El u->Fl ps->Prop} {Fn:El u->Fl ps->Fl rs×El u} (hf:e.P.funcs[f]? = some fn) (hb:okF (ps.length+1) fn=true) (law:∀ x y,pre x y->∀ KK:Fl rs×El u->Prop,KK (Fn x y)->sR e fn an sh u ps rs x y KK):Cont e.P f (Gp sh u ps rs pre Fn):=
 TL he hm hf (fo hb).1 (fo hb).2.1 (fo hb).2.2.1 (fo hb).2.2.2 law
theorem k3 (e:En) (he:e.ok) (hm:e.P.follows .mixedOrders=true) {f:Nat} {fn:Func} (an:An) {u:U} {ps:List U} {pre:List (El u)->Fl ps->Prop} {Fn:List (El u)->Fl ps->List (El u)} (hf:e.P.funcs[f]? = some fn) (hb:okF (ps.length+1) fn=true) (law:∀ x y,pre x y->∀ KK:List (El u)->Prop,KK (Fn x y)->T0 e fn an u ps x y KK):Cont e.P f (Xh u ps pre Fn):=
 Tg he hm hf (fo hb).1 (fo hb).2.1 (fo hb).2.2.1 (fo hb).2.2.2 law
theorem k4 (e:En) (he:e.ok) (hm:e.P.follows .mixedOrders=true) {f:Nat} {fn:Func} (an:An) {ps rs:List U} {pre:Fl ps->Prop} {F:Fl ps->Except Value (Fl rs)} (hf:e.P.funcs[f]? = some fn) (hb:okF ps.length fn=true) (law:∀ x,pre x->∀ (KK:Fl rs->Prop) (KP:Value->Prop),exQ (F x) KK KP->tc e fn an ps rs x KK KP):Cont e.P f (ni ps rs pre F):=
 N9 he hm hf (fo hb).1 (fo hb).2.1 (fo hb).2.2.1 (fo hb).2.2.2 law
theorem k5 (e:En) (he:e.ok) (hm:e.P.follows .mixedOrders=true) {f:Nat} {fn:Func} (an:An) {sh:List Sh} {u:U} {ps rs:List U} {pre:El u->Fl ps->Prop} {Fn:El u->Fl ps->Except Value (Fl rs)×El u} (hf:e.P.funcs[f]? = some fn) (hb:okF (ps.length+1) fn=true) (law:∀ x y,pre x y->∀ (KK:Fl rs×El u->Prop) (KP:Value->El u->Prop),exP (Fn x y) (fun z x'=>KK (z,x')) KP->dH e fn an sh u ps rs x y KK KP):Cont e.P f (gS sh u ps rs pre Fn):=
 RV he hm hf (fo hb).1 (fo hb).2.1 (fo hb).2.2.1 (fo hb).2.2.2 law
def rgI:Code->Nat
 | .region id _ _=>id
 | _=>0
def rgO (c:Code) (i:Nat):Oper:=match c with
 | .region _ l _=>l.getD i default
 | _=>default
def af:CKt:=aa2 Lt.flt
theorem ai:Cont Tryz.prog 76 af:=Vp
abbrev sh5:List Sh:=[.fr,.ow [],.ow [],.ow [],.ow []]
abbrev sh4:List Sh:=[.fr,.fr,.fr,.ow [.fr,.fr,.fr,.fr]]
abbrev sh3:List Sh:=[.fr,.fr,.fr,.fr,.ow [.fr,.fr,.fr,.fr],.ow [.fr,.fr]]
abbrev sh1:List Sh:=[.fr,.fr,.ow [.fr,.fr],.ow [.fr,.fr],.ow [.fr,.ow [.fr,.fr],.ow sh3,.fr,.fr,.fr,.fr,.fr,.fr]]
abbrev sh2:List Sh:=[.fr,.ow [.fr,.ow [.fr,.fr]],.ow [.fr,.fr],.ow [.fr,.fr],.ow sh1,.fr,.fr]
abbrev sh0:List Sh:=[.fr,.ow [.fr,.ow [.fr,.fr]],.ow [.fr,.fr],.ow [.fr,.fr],.ow sh1,.fr,.fr,.fr,.fr]
def eU:Ut:=[(80,(.st .Class)),(111,(.st .Var)),(82,(.st .Extern)),(38,(.st .Func)),(47,(.st .Block)),(119,(.st .Phi)),(52,(.st .Instr)),(9,.s),(42,(.st .Arg)),(166,(.st .Frame)),(168,(.st .Virt)),(67,(.st .Line)),(77,(.st .RLine)),(3,(.i .i64)),(5,.b8),(121,(.st .In)),(163,(.st .Bind))]
def eS:List (TypeId×List Sh):=[(27,[.fr,.ow [.fr,.ow [.fr,.fr]],.ow [.fr,.fr],.ow [.fr,.fr],.ow sh1]),(38,sh1),(47,[.fr,.ow [.fr,.fr],.ow sh3,.fr,.fr,.fr,.fr,.fr,.fr]),(52,sh3),(61,sh0),(62,sh0),(74,sh2),(75,sh2),(80,[.fr,.ow [.fr,.fr]])]
def PN:CKt:=aP [.b8] [.bo] (fun x=>Lt.blank x)
def Jb:An:=.s .l (.s .l .l)
theorem NQ (a0_c:UInt8) (KK:Bool->Prop):Fv a0_c KK=bf ⟨Tryz.prog,eU,[],[],noP⟩ Tryz.f56 Jb [.b8] [.bo] a0_c KK:=by kernel_rfl
theorem X4:Cont Tryz.prog 56 PN:=k0 ⟨Tryz.prog,eU,[],[],noP⟩ En.ok0 mixed (fn:=Tryz.f56) Jb (by kernel_rfl) (by kernel_rfl) (fun a0_c KK h=>Eq.mp (NQ a0_c KK) (Ss a0_c KK h))
def Lh:CKt:=eK [.s] [(.sl .s),.bo] (fun x=>Lt.wC x) (fun x=>Lt.bK x)
def EO:An:=.s .l (.s .l (.s .l (.s (.s .l (.b (.lp ⟨[0],[],[],[.ow 4 [.fr] .s,.sl 5 (.i .i64),.sl 6 (.i .i64)]⟩ (.s (.s .l (.c .l .l)) (.j ⟨[0,6],[],[],[.ow 4 [.fr] .s,.sl 5 (.i .i64)]⟩ (.b (.b (.j ⟨[0,4,5,6],[.gh 900004],[],[.sl 13 .bo]⟩ .l (.c (.j ⟨[0,6],[],[],[.ow 4 [.fr] .s]⟩ (.s .l (.c .l .l)) .l) (.j ⟨[0,4,5,6],[.gh 900004],[],[.sl 33 .bo]⟩ .l (.c (.s .l .l) (.s .l (.c .l .l)))))))) .l))))) (.s .l .l))))
abbrev It:CTt:=[(56,PN)]
theorem JU (a0_s:List UInt8) (KK:(List (List UInt8)×Bool)->Prop):Aq a0_s KK=bf ⟨Tryz.prog,eU,It,[],noP⟩ Tryz.f33 EO [.s] [(.sl .s),.bo] a0_s KK:=by kernel_rfl
theorem VD:Cont Tryz.prog 33 Lh:=k1 ⟨Tryz.prog,eU,It,[],noP⟩ (En.okc X4 En.ok0) mixed (fn:=Tryz.f33) EO (by kernel_rfl) (by kernel_rfl) (fun a0_s hp KK h=>Eq.mp (JU a0_s KK) (NZ a0_s hp KK h))
def IF:CKt:=aP [.s] [(.sl (.st .Line)),(.i .i64),(.i .i64)] (fun x=>Lt.fq x)
def Fb:An:=.s .l (.s (.s .l (.c (.s .l .l) .l)) (.s .l (.s (.s .l (.b (.lp ⟨[14,15],[],[],[.ow 5 [.fr,.fr] (.st .Line),.sl 16 (.i .i64)]⟩ (.s .l (.s (.c .l .l) (.j ⟨[14,15,16],[],[],[.ow 5 [.fr,.fr] (.st .Line)]⟩ (.b (.s .l (.s .l (.s .l (.s (.s .l (.c (.s .l .l) .l)) (.s .l (.c .l .l))))))) .l)))))) (.s .l .l))))
abbrev Lm:CTt:=[(31,LE),(32,U1),(33,Lh)]
theorem LK (a0_s:List UInt8) (KK:(List Lt.Line×Int×Int)->Prop):AT a0_s KK=bf ⟨Tryz.prog,eU,Lm,[],noP⟩ Tryz.f13 Fb [.s] [(.sl (.st .Line)),(.i .i64),(.i .i64)] a0_s KK:=by kernel_rfl
theorem VY:Cont Tryz.prog 13 IF:=k0 ⟨Tryz.prog,eU,Lm,[],noP⟩ (En.okc TJ (En.okc aaN (En.okc VD En.ok0))) mixed (fn:=Tryz.f13) Fb (by kernel_rfl) (by kernel_rfl) (fun a0_s KK h=>Eq.mp (LK a0_s KK) (NI a0_s KK h))
def gI:CKt:=aP [(.sl (.i .i64)),(.i .i64)] [.bo] (fun x=>Lt.gO x.1 x.2)
def P8:An:=.s .l (.s (.s .l (.b (.lp ⟨[1,7,8],[],[],[.sl 9 (.i .i64)]⟩ (.s .l (.s (.c .l .l) (.s (.b (.s .l (.s .l (.c (.s .l .l) .l)))) .l)))))) (.s .l .l))
theorem Sd (a0_l:List Int) (a1_n:Int) (KK:Bool->Prop):NJ a0_l a1_n KK=bf ⟨Tryz.prog,eU,[],[],noP⟩ Tryz.f37 P8 [(.sl (.i .i64)),(.i .i64)] [.bo] (a0_l,a1_n) KK:=by kernel_rfl
theorem ik:Cont Tryz.prog 37 gI:=k0 ⟨Tryz.prog,eU,[],[],noP⟩ En.ok0 mixed (fn:=Tryz.f37) P8 (by kernel_rfl) (by kernel_rfl) (fun (a0_l,a1_n) KK h=>Eq.mp (Sd a0_l a1_n KK) (VV a0_l a1_n KK h))
def LH:CKt:=aP [.b8] [.bo] (fun x=>Lt.letter x)
def D7:An:=.s .l (.j ⟨[],[],[],[.sl 2 .bo]⟩ .l .l)
theorem Kv (a0_c:UInt8) (KK:Bool->Prop):zD a0_c KK=bf ⟨Tryz.prog,eU,[],[],noP⟩ Tryz.f90 D7 [.b8] [.bo] a0_c KK:=by kernel_rfl
theorem Th:Cont Tryz.prog 90 LH:=k0 ⟨Tryz.prog,eU,[],[],noP⟩ En.ok0 mixed (fn:=Tryz.f90) D7 (by kernel_rfl) (by kernel_rfl) (fun a0_c KK h=>Eq.mp (Kv a0_c KK) (Oz a0_c KK h))
def WF:CKt:=aP [.s] [.bo] (fun x=>Lt.kept x)
def Ph:An:=.s .l (.j ⟨[],[],[],[.sl 2 .bo]⟩ .l .l)
theorem Sw (a0_s:List UInt8) (KK:Bool->Prop):Ov a0_s KK=bf ⟨Tryz.prog,eU,[],[],noP⟩ Tryz.f91 Ph [.s] [.bo] a0_s KK:=by kernel_rfl
theorem aaM:Cont Tryz.prog 91 WF:=k0 ⟨Tryz.prog,eU,[],[],noP⟩ En.ok0 mixed (fn:=Tryz.f91) Ph (by kernel_rfl) (by kernel_rfl) (fun a0_s KK h=>Eq.mp (Sw a0_s KK) (T6 a0_s KK h))
def xI:CKt:=aP [.b8] [.bo] (fun x=>Lt.fW x)
def vn:An:=.s .l (.s .l .l)
theorem AP (a0_c:UInt8) (KK:Bool->Prop):qh a0_c KK=bf ⟨Tryz.prog,eU,[],[],noP⟩ Tryz.f92 vn [.b8] [.bo] a0_c KK:=by kernel_rfl
theorem Lg:Cont Tryz.prog 92 xI:=k0 ⟨Tryz.prog,eU,[],[],noP⟩ En.ok0 mixed (fn:=Tryz.f92) vn (by kernel_rfl) (by kernel_rfl) (fun a0_c KK h=>Eq.mp (AP a0_c KK) (CP a0_c KK h))
def gV:CKt:=aP [.s] [.bo] (fun x=>Lt.Name x)
def P9:An:=.s .l (.s (.j ⟨[0],[],[],[.sl 20 .bo]⟩ .l (.c (.s .l .l) .l)) (.s (.s .l (.b (.lp ⟨[0,22],[],[],[.sl 23 (.i .i64)]⟩ (.s .l (.s (.c .l .l) (.s (.b (.s .l (.j ⟨[0,22,23],[],[],[.sl 37 .bo]⟩ .l (.c (.s .l .l) .l)))) .l)))))) (.s .l .l)))
abbrev Tu:CTt:=[(90,LH),(91,WF),(92,xI)]
theorem RE (a0_s:List UInt8) (KK:Bool->Prop):Nt a0_s KK=bf ⟨Tryz.prog,eU,Tu,[],noP⟩ Tryz.f45 P9 [.s] [.bo] a0_s KK:=by kernel_rfl
theorem il:Cont Tryz.prog 45 gV:=k0 ⟨Tryz.prog,eU,Tu,[],noP⟩ (En.okc Th (En.okc aaM (En.okc Lg En.ok0))) mixed (fn:=Tryz.f45) P9 (by kernel_rfl) (by kernel_rfl) (fun a0_s KK h=>Eq.mp (RE a0_s KK) (Ur a0_s KK h))
def fl:CKt:=ni [.s] [.s] (fun x=>True) (fun x=>Lt.cv x)
def Az:An:=.s .l (.c .l .l)
def CO:CKt:=bd ⟨Tryz.prog,eU,[(76,af)],[],noP⟩ Tryz.f36 Az
def KS:An:=.s .l (.s .l (.s .l .l))
abbrev Pb:CTt:=[(36,CO),(45,gV)]
theorem Nw (a0_w:List UInt8) (KK:(List UInt8)->Prop) (KP:Value->Prop):F8 a0_w KK KP=tc ⟨Tryz.prog,eU,Pb,[],noP⟩ Tryz.f70 KS [.s] [.s] a0_w KK KP:=by kernel_rfl
theorem fU:Cont Tryz.prog 70 fl:=k4 ⟨Tryz.prog,eU,Pb,[],noP⟩ (En.okc (aa (En.okc ai En.ok0) mixed (fn:=Tryz.f36) (by kernel_rfl) (by kernel_rfl) (by kernel_rfl) (by kernel_rfl) (by kernel_rfl)) (En.okc il En.ok0)) mixed (fn:=Tryz.f70) KS (by kernel_rfl) (by kernel_rfl) (fun a0_w hp KK KP h=>Eq.mp (Nw a0_w KK KP) (QU a0_w KK KP h))
def YY:CKt:=aP [.s,(.i .i64)] [.s] (fun x=>Lt.nth x.1 x.2)
def WV:An:=.s .l (.s .l (.s (.s .l (.b (.lp ⟨[0],[],[],[.sl 1 (.i .i64),.sl 5 (.i .i64),.sl 6 (.i .i64)]⟩ (.s (.s .l (.c .l .l)) (.j ⟨[0,6],[],[],[.sl 1 (.i .i64),.sl 5 (.i .i64)]⟩ (.b (.s (.s .l (.c .l .l)) (.s (.s .l (.s .l (.c (.s .l .l) .l))) .l))) .l))))) (.s .l .l)))
theorem Tp (a0_list:List UInt8) (a1_n:Int) (KK:(List UInt8)->Prop):Ta a0_list a1_n KK=bf ⟨Tryz.prog,eU,[],[],noP⟩ Tryz.f111 WV [.s,(.i .i64)] [.s] (a0_list,a1_n) KK:=by kernel_rfl
theorem acA:Cont Tryz.prog 111 YY:=k0 ⟨Tryz.prog,eU,[],[],noP⟩ En.ok0 mixed (fn:=Tryz.f111) WV (by kernel_rfl) (by kernel_rfl) (fun (a0_list,a1_n) KK h=>Eq.mp (Tp a0_list a1_n KK) (Xw a0_list a1_n KK h))
def Wv:CKt:=aP [(.i .i64)] [(.st .Form),.bo] (fun x=>Lt.Of x)
def YX:An:=.s .l (.s (.b (.j ⟨[0,2],[.loc 2],[],[.sl 4 .bo]⟩ .l (.c (.s .l .l) (.j ⟨[0,2],[.loc 2],[],[.sl 14 .bo]⟩ .l (.c (.s .l .l) .l))))) (.s (.s .l (.b (.s .l (.c (.s .l .l) (.s .l (.c (.s .l .l) (.s .l (.c (.s .l .l) (.s .l (.c (.s .l .l) (.s .l (.c (.s .l .l) (.s .l (.c (.s .l .l) (.s .l (.c (.s .l .l) (.s .l (.c (.s .l .l) (.s .l (.c (.s .l .l) (.s .l (.c (.s .l .l) .l)))))))))))))))))))))) (.s .l .l)))
abbrev acL:CTt:=[(111,YY)]
theorem YD (a0_op:Int) (KK:(Lt.Form×Bool)->Prop):ZS a0_op KK=bf ⟨Tryz.prog,eU,acL,[],noP⟩ Tryz.f72 YX [(.i .i64)] [(.st .Form),.bo] a0_op KK:=by kernel_rfl
theorem XN:Cont Tryz.prog 72 Wv:=k0 ⟨Tryz.prog,eU,acL,[],noP⟩ (En.okc acA En.ok0) mixed (fn:=Tryz.f72) YX (by kernel_rfl) (by kernel_rfl) (fun a0_op KK h=>Eq.mp (YD a0_op KK) (ZP a0_op KK h))
def Y7:CKt:=aP [.s] [(.i .i64),.bo] (fun x=>Lt.yOp x)
def V6:An:=.s .l (.s (.s .l (.b (.lp ⟨[0],[],[],[.sl 4 (.i .i64)]⟩ (.s (.s .l (.c .l .l)) (.s (.b (.s .l (.s .l (.c (.s .l .l) .l)))) .l))))) (.s .l .l))
abbrev Zm:CTt:=[(72,Wv)]
theorem VB (a0_w:List UInt8) (KK:(Int×Bool)->Prop):TO a0_w KK=bf ⟨Tryz.prog,eU,Zm,[],noP⟩ Tryz.f71 V6 [.s] [(.i .i64),.bo] a0_w KK:=by kernel_rfl
theorem abS:Cont Tryz.prog 71 Y7:=k0 ⟨Tryz.prog,eU,Zm,[],noP⟩ (En.okc XN En.ok0) mixed (fn:=Tryz.f71) V6 (by kernel_rfl) (by kernel_rfl) (fun a0_w KK h=>Eq.mp (VB a0_w KK) (Yr a0_w KK h))
def oO:CKt:=aP [.s] [(.i .i64),.bo] (fun x=>Lt.eH x)
def Ek:An:=.s .l (.s (.j ⟨[0],[],[],[.sl 13 .bo]⟩ .l (.c (.s .l .l) .l)) (.s .l (.j ⟨[0],[],[],[.sl 4 (.i .i64)]⟩ (.s .l (.c .l .l)) (.s .l (.s (.s .l (.b (.lp ⟨[0,4],[],[],[.sl 5 (.i .i64),.sl 6 (.i .i64)]⟩ (.s (.s .l (.c .l .l)) (.s (.b (.s (.j ⟨[0,4,5,6],[],[],[.sl 33 .bo]⟩ .l (.c (.s .l .l) .l)) .l)) .l))))) (.j ⟨[0],[],[],[.sl 5 (.i .i64)]⟩ (.s .l (.c .l .l)) (.s (.s .l (.c (.s .l .l) .l)) (.s .l .l))))))))
abbrev KR:CTt:=[(47,pC)]
theorem LT (a0_s:List UInt8) (KK:(Int×Bool)->Prop):CD a0_s KK=bf ⟨Tryz.prog,eU,KR,[],noP⟩ Tryz.f110 Ek [.s] [(.i .i64),.bo] a0_s KK:=by kernel_rfl
theorem uy:Cont Tryz.prog 110 oO:=k0 ⟨Tryz.prog,eU,KR,[],noP⟩ (En.okc vi En.ok0) mixed (fn:=Tryz.f110) Ek (by kernel_rfl) (by kernel_rfl) (fun a0_s KK h=>Eq.mp (LT a0_s KK) (Mc a0_s KK h))
def zh:CKt:=aP [(.i .i64)] [(.i .i64)] (fun x=>Lt.Plain x)
def LF:An:=.s .l (.s (.j ⟨[0],[],[],[.sl 10 .bo]⟩ .l (.c (.s .l .l) .l)) (.s .l .l))
theorem NF (a0_n:Int) (KK:Int->Prop):GT a0_n KK=bf ⟨Tryz.prog,eU,[],[],noP⟩ Tryz.f122 LF [(.i .i64)] [(.i .i64)] a0_n KK:=by kernel_rfl
theorem FM:Cont Tryz.prog 122 zh:=k0 ⟨Tryz.prog,eU,[],[],noP⟩ En.ok0 mixed (fn:=Tryz.f122) LF (by kernel_rfl) (by kernel_rfl) (fun a0_n KK h=>Eq.mp (NF a0_n KK) (Rm a0_n KK h))
def IN:CKt:=aP [.s] [(.i .i64),.bo] (fun x=>Lt.wu x)
def D5:An:=.s .l (.s .l (.s (.j ⟨[4],[],[],[.sl 21 .bo]⟩ .l (.c (.s .l .l) .l)) (.s .l (.s (.s .l (.b (.lp ⟨[4,23],[],[],[.sl 6 (.i .u64),.sl 24 (.i .i64)]⟩ (.s .l (.s (.c .l .l) (.s (.b (.s .l (.s .l (.s (.s .l (.c (.s .l .l) .l)) .l)))) .l)))))) (.s .l (.s (.s .l (.c (.s .l .l) .l)) (.s .l .l)))))))
abbrev JL:CTt:=[(122,zh),(146,Pg),(147,IV)]
theorem Ld (a0_s:List UInt8) (KK:(Int×Bool)->Prop):pK a0_s KK=bf ⟨Tryz.prog,eU,JL,[],noP⟩ Tryz.f144 D5 [.s] [(.i .i64),.bo] a0_s KK:=by kernel_rfl
theorem Vn:Cont Tryz.prog 144 IN:=k0 ⟨Tryz.prog,eU,JL,[],noP⟩ (En.okc FM (En.okc X1 (En.okc TQ En.ok0))) mixed (fn:=Tryz.f144) D5 (by kernel_rfl) (by kernel_rfl) (fun a0_s KK h=>Eq.mp (Ld a0_s KK) (Ow a0_s KK h))
def tU:CKt:=aP [.s] [(.st .Arg),.bo] (fun x=>Lt.iz x)
def rO:An:=.s .l (.s (.s .l (.s .l (.c (.s .l .l) .l))) (.s .l (.s (.s .l (.c (.s .l .l) .l)) (.s .l .l))))
abbrev tW:CTt:=[(110,oO),(144,IN)]
theorem yN (a0_s:List UInt8) (KK:(Lt.Arg×Bool)->Prop):nW a0_s KK=bf ⟨Tryz.prog,eU,tW,[],noP⟩ Tryz.f141 rO [.s] [(.st .Arg),.bo] a0_s KK:=by kernel_rfl
theorem G2:Cont Tryz.prog 141 tU:=k0 ⟨Tryz.prog,eU,tW,[],noP⟩ (En.okc uy (En.okc Vn En.ok0)) mixed (fn:=Tryz.f141) rO (by kernel_rfl) (by kernel_rfl) (fun a0_s KK h=>Eq.mp (yN a0_s KK) (AH a0_s KK h))
def EH:CKt:=aP [.s] [(.st .Arg),.bo] (fun x=>Lt.nU x)
def Ar:An:=.s .l (.s (.b (.s .l (.c (.s .l .l) (.s .l (.c (.s .l .l) (.s .l (.c (.s .l .l) (.s .l (.c (.s .l (.s (.j ⟨[2,4],[.loc 2],[],[.sl 38 .bo]⟩ .l (.c (.s .l .l) .l)) (.s .l .l))) .l))))))))) (.s .l .l))
abbrev DN:CTt:=[(45,gV),(110,oO),(141,tU)]
theorem GY (a0_s:List UInt8) (KK:(Lt.Arg×Bool)->Prop):wk a0_s KK=bf ⟨Tryz.prog,eU,DN,[],noP⟩ Tryz.f131 Ar [.s] [(.st .Arg),.bo] a0_s KK:=by kernel_rfl
theorem QV:Cont Tryz.prog 131 EH:=k0 ⟨Tryz.prog,eU,DN,[],noP⟩ (En.okc il (En.okc uy (En.okc G2 En.ok0))) mixed (fn:=Tryz.f131) Ar (by kernel_rfl) (by kernel_rfl) (fun a0_s KK h=>Eq.mp (GY a0_s KK) (JV a0_s KK h))
def xi:CKt:=ni [.s,.bo] [(.st .Arg)] (fun x=>True) (fun x=>Lt.yB x.1 x.2)
def C0:An:=.s .l (.c .l .l)
def GS:CKt:=bd ⟨Tryz.prog,eU,[(76,af)],[],noP⟩ Tryz.f36 C0
def Ps:An:=.s .l (.s .l (.j ⟨[4,5],[.loc 4,.loc 5],[],[]⟩ .l (.s .l .l)))
abbrev T3:CTt:=[(36,GS),(131,EH)]
theorem Rj (a0_w:List UInt8) (a1_objs:Bool) (KK:Lt.Arg->Prop) (KP:Value->Prop):Ma a0_w a1_objs KK KP=tc ⟨Tryz.prog,eU,T3,[],noP⟩ Tryz.f108 Ps [.s,.bo] [(.st .Arg)] (a0_w,a1_objs) KK KP:=by kernel_rfl
theorem Cq:Cont Tryz.prog 108 xi:=k4 ⟨Tryz.prog,eU,T3,[],noP⟩ (En.okc (aa (En.okc ai En.ok0) mixed (fn:=Tryz.f36) (by kernel_rfl) (by kernel_rfl) (by kernel_rfl) (by kernel_rfl) (by kernel_rfl)) (En.okc QV En.ok0)) mixed (fn:=Tryz.f108) Ps (by kernel_rfl) (by kernel_rfl) (fun (a0_w,a1_objs) hp KK KP h=>Eq.mp (Rj a0_w a1_objs KK KP) (VQ a0_w a1_objs KK KP h))
def F7:CKt:=ni [(.sl .s),.bo] [(.sl (.st .Arg))] (fun x=>Lt.iZ x.1 x.2) (fun x=>Lt.pF x.1 x.2)
def Jp:An:=.s .l (.s .l (.s (.s .l (.b (.lp ⟨[1,8,9],[],[],[.ow 5 [.fr,.fr,.fr] (.st .Arg),.sl 10 (.i .i64)]⟩ (.s .l (.s (.c .l .l) (.s (.b (.s .l .l)) .l)))))) (.s .l .l)))
abbrev Qw:CTt:=[(108,xi)]
theorem M9 (a0_l:List (List UInt8)) (a1_objs:Bool) (KK:(List Lt.Arg)->Prop) (KP:Value->Prop):G6 a0_l a1_objs KK KP=tc ⟨Tryz.prog,eU,Qw,[],noP⟩ Tryz.f73 Jp [(.sl .s),.bo] [(.sl (.st .Arg))] (a0_l,a1_objs) KK KP:=by kernel_rfl
theorem PK:Cont Tryz.prog 73 F7:=k4 ⟨Tryz.prog,eU,Qw,[],noP⟩ (En.okc Cq En.ok0) mixed (fn:=Tryz.f73) Jp (by kernel_rfl) (by kernel_rfl) (fun (a0_l,a1_objs) hp KK KP h=>Eq.mp (M9 a0_l a1_objs KK KP) (ST a0_l a1_objs hp KK KP h))
def Pe:CKt:=gS sh0 (.st .Reader) [(.sl .s)] [] (fun x y=>Lt.az x y) (fun x y=>Lt.tH x y)
def mb:An:=.s .l (.c .l .l)
def nw:CKt:=bd ⟨Tryz.prog,eU,[(76,af)],eS,noP⟩ Tryz.f36 mb
def vD:An:=.l
def w9:CKt:=bd ⟨Tryz.prog,eU,[(36,nw),(37,gI)],eS,noP⟩ Tryz.f16 vD
def Ab:An:=.s .l (.c .l .l)
def Dy:CKt:=bd ⟨Tryz.prog,eU,[(76,af)],eS,noP⟩ Tryz.f36 Ab
def Ax:An:=.s .l (.s .l (.s (.s .l (.b (.lp ⟨[1,8,9,100000,100004,100005,100007,100009,100059,100066,100067,100068,100069,100070,100071,100072,100073,100074,100075,100076,100078,100079],[.loc 4,.loc 7,.out 0],[],[.ow 5 [.fr,.fr,.fr] (.st .Arg),.sl 10 (.i .i64)]⟩ (.s .l (.s (.c .l .l) (.s (.b (.s .l .l)) .l)))))) (.s .l .l)))
def CS:CKt:=bd ⟨Tryz.prog,eU,[(108,xi)],eS,noP⟩ Tryz.f73 Ax
def m7:An:=.s .l (.c .l .l)
def oI:CKt:=bd ⟨Tryz.prog,eU,[(76,af)],eS,noP⟩ Tryz.f103 m7
def B3:An:=.s .l .l
def C4:CKt:=bd ⟨Tryz.prog,eU,[(103,oI)],eS,noP⟩ Tryz.f74 B3
def pw:An:=.s .l (.s .l .l)
def rm:CKt:=bd ⟨Tryz.prog,eU,[],eS,noP⟩ Tryz.f106 pw
def yx:An:=.s .l (.s .l (.s .l .l))
def zR:CKt:=bd ⟨Tryz.prog,eU,[(106,rm)],eS,noP⟩ Tryz.f75 yx
def Lq:An:=.s .l (.s .l (.j ⟨[0,4],[.out 0],[],[.sl 1 (.sl .s),.rt (.loc 4) [.fr,.fr,.fr,.ow [],.ow [],.ow []] (.st .Instr)]⟩ (.j ⟨[0,1,4],[.loc 4,.out 0],[],[.sl 23 .bo]⟩ .l (.c (.s .l .l) .l)) (.s .l (.s .l (.s .l (.s .l (.s .l (.s .l (.j ⟨[0,4,5,7],[.loc 7,.out 0],[],[.rt (.loc 4) [.fr,.fr,.fr,.fr,.ow [],.ow []] (.st .Instr)]⟩ (.b (.j ⟨[0,4,5,7,9],[.loc 4,.loc 7,.out 0],[],[.sl 59 .bo]⟩ .l (.c (.s .l (.s .l .l)) (.s .l (.c (.s .l (.s .l .l)) .l))))) (.j ⟨[0,4,5],[.loc 4,.out 0],[],[]⟩ .l (.s .l (.s .l (.j ⟨[0,5],[],[],[.rt (.out 0) sh0 (.st .Reader)]⟩ .l (.s .l (.j ⟨[0],[.out 0],[],[.sl 136 .bo]⟩ .l (.c .l .l))))))))))))))))
abbrev PF:CTt:=[(16,w9),(36,Dy),(70,fl),(71,Y7),(72,Wv),(73,(XP 76 CS F7)),(74,C4),(75,zR)]
theorem Mo (a0_r:Lt.Reader) (a1_l:List (List UInt8)) (KK:((Unit)×Lt.Reader)->Prop) (KP:Value->Lt.Reader->Prop):F9 a0_r a1_l KK KP=dH ⟨Tryz.prog,eU,PF,eS,noP⟩ Tryz.f35 Lq sh0 (.st .Reader) [(.sl .s)] [] a0_r a1_l KK KP:=by kernel_rfl
theorem X9:Cont Tryz.prog 35 Pe:=k5 ⟨Tryz.prog,eU,PF,eS,noP⟩ (En.okc (aa (En.okc (aa (En.okc ai En.ok0) mixed (fn:=Tryz.f36) (by kernel_rfl) (by kernel_rfl) (by kernel_rfl) (by kernel_rfl) (by kernel_rfl)) (En.okc ik En.ok0)) mixed (fn:=Tryz.f16) (by kernel_rfl) (by kernel_rfl) (by kernel_rfl) (by kernel_rfl) (by kernel_rfl)) (En.okc (aa (En.okc ai En.ok0) mixed (fn:=Tryz.f36) (by kernel_rfl) (by kernel_rfl) (by kernel_rfl) (by kernel_rfl) (by kernel_rfl)) (En.okc fU (En.okc abS (En.okc XN (En.okc (Tf (aa (En.okc Cq En.ok0) mixed (fn:=Tryz.f73) (by kernel_rfl) (by kernel_rfl) (by kernel_rfl) (by kernel_rfl) (by kernel_rfl)) PK) (En.okc (aa (En.okc (aa (En.okc ai En.ok0) mixed (fn:=Tryz.f103) (by kernel_rfl) (by kernel_rfl) (by kernel_rfl) (by kernel_rfl) (by kernel_rfl)) En.ok0) mixed (fn:=Tryz.f74) (by kernel_rfl) (by kernel_rfl) (by kernel_rfl) (by kernel_rfl) (by kernel_rfl)) (En.okc (aa (En.okc (aa En.ok0 mixed (fn:=Tryz.f106) (by kernel_rfl) (by kernel_rfl) (by kernel_rfl) (by kernel_rfl) (by kernel_rfl)) En.ok0) mixed (fn:=Tryz.f75) (by kernel_rfl) (by kernel_rfl) (by kernel_rfl) (by kernel_rfl) (by kernel_rfl)) En.ok0)))))))) mixed (fn:=Tryz.f35) Lq (by kernel_rfl) (by kernel_rfl) (fun a0_r a1_l hp KK KP h=>Eq.mp (Mo a0_r a1_l KK KP) (SU a0_r a1_l hp KK KP h))
def V5:CKt:=gS sh0 (.st .Reader) [(.sl .s)] [] (fun x y=>Lt.az x y) (fun x y=>Lt.TG x y)
def Dl:An:=.s .l (.c .l .l)
def Gy:CKt:=bd ⟨Tryz.prog,eU,[(76,af)],eS,noP⟩ Tryz.f36 Dl
def Qd:An:=.j ⟨[0],[.out 0],[],[]⟩ .l .l
abbrev Uj:CTt:=[(36,Gy)]
theorem SO (a0_r:Lt.Reader) (a1_l:List (List UInt8)) (KK:((Unit)×Lt.Reader)->Prop) (KP:Value->Lt.Reader->Prop):Mb a0_r a1_l KK KP=dH ⟨Tryz.prog,eU,Uj,eS,noP⟩ Tryz.f57 Qd sh0 (.st .Reader) [(.sl .s)] [] a0_r a1_l KK KP:=by kernel_rfl
theorem aaY:Cont Tryz.prog 57 V5:=k5 ⟨Tryz.prog,eU,Uj,eS,noP⟩ (En.okc (aa (En.okc ai En.ok0) mixed (fn:=Tryz.f36) (by kernel_rfl) (by kernel_rfl) (by kernel_rfl) (by kernel_rfl) (by kernel_rfl)) En.ok0) mixed (fn:=Tryz.f57) Qd (by kernel_rfl) (by kernel_rfl) (fun a0_r a1_l hp KK KP h=>Eq.mp (SO a0_r a1_l KK KP) (VX a0_r a1_l hp KK KP h))
def JI:CKt:=gS sh0 (.st .Reader) [(.sl .s)] [] (fun x y=>Lt.az x y) (fun x y=>Lt.BG x y)
def lN:An:=.s .l (.c .l .l)
def mi:CKt:=bd ⟨Tryz.prog,eU,[(76,af)],eS,noP⟩ Tryz.f36 lN
def s7:An:=.l
def vA:CKt:=bd ⟨Tryz.prog,eU,[(36,mi),(37,gI)],eS,noP⟩ Tryz.f16 s7
def yH:An:=.s .l (.c .l .l)
def Af:CKt:=bd ⟨Tryz.prog,eU,[(76,af)],eS,noP⟩ Tryz.f36 yH
def uH:An:=.s .l (.c .l .l)
def wN:CKt:=bd ⟨Tryz.prog,eU,[(76,af)],eS,noP⟩ Tryz.f103 uH
def EM:An:=.s .l (.s .l (.s .l (.s .l (.j ⟨[0],[],[],[.rt (.out 0) sh0 (.st .Reader)]⟩ .l .l))))
abbrev Kk:CTt:=[(16,vA),(36,Af),(70,fl),(103,wN)]
theorem Kd (a0_r:Lt.Reader) (a1_l:List (List UInt8)) (KK:((Unit)×Lt.Reader)->Prop) (KP:Value->Lt.Reader->Prop):zw a0_r a1_l KK KP=dH ⟨Tryz.prog,eU,Kk,eS,noP⟩ Tryz.f58 EM sh0 (.st .Reader) [(.sl .s)] [] a0_r a1_l KK KP:=by kernel_rfl
theorem UR:Cont Tryz.prog 58 JI:=k5 ⟨Tryz.prog,eU,Kk,eS,noP⟩ (En.okc (aa (En.okc (aa (En.okc ai En.ok0) mixed (fn:=Tryz.f36) (by kernel_rfl) (by kernel_rfl) (by kernel_rfl) (by kernel_rfl) (by kernel_rfl)) (En.okc ik En.ok0)) mixed (fn:=Tryz.f16) (by kernel_rfl) (by kernel_rfl) (by kernel_rfl) (by kernel_rfl) (by kernel_rfl)) (En.okc (aa (En.okc ai En.ok0) mixed (fn:=Tryz.f36) (by kernel_rfl) (by kernel_rfl) (by kernel_rfl) (by kernel_rfl) (by kernel_rfl)) (En.okc fU (En.okc (aa (En.okc ai En.ok0) mixed (fn:=Tryz.f103) (by kernel_rfl) (by kernel_rfl) (by kernel_rfl) (by kernel_rfl) (by kernel_rfl)) En.ok0)))) mixed (fn:=Tryz.f58) EM (by kernel_rfl) (by kernel_rfl) (fun a0_r a1_l hp KK KP h=>Eq.mp (Kd a0_r a1_l KK KP) (Nj a0_r a1_l hp KK KP h))
def rj:CKt:=ni [.s] [.s] (fun x=>True) (fun x=>Lt.gD x)
def AZ:An:=.s .l (.c .l .l)
def C1:CKt:=bd ⟨Tryz.prog,eU,[(76,af)],[],noP⟩ Tryz.f36 AZ
def Kw:An:=.s .l (.j ⟨[0],[],[],[]⟩ .l (.s .l .l))
abbrev Px:CTt:=[(36,C1),(45,gV)]
theorem Nx (a0_w:List UInt8) (KK:(List UInt8)->Prop) (KP:Value->Prop):Gb a0_w KK KP=tc ⟨Tryz.prog,eU,Px,[],noP⟩ Tryz.f104 Kw [.s] [.s] a0_w KK KP:=by kernel_rfl
theorem tG:Cont Tryz.prog 104 rj:=k4 ⟨Tryz.prog,eU,Px,[],noP⟩ (En.okc (aa (En.okc ai En.ok0) mixed (fn:=Tryz.f36) (by kernel_rfl) (by kernel_rfl) (by kernel_rfl) (by kernel_rfl) (by kernel_rfl)) (En.okc il En.ok0)) mixed (fn:=Tryz.f104) Kw (by kernel_rfl) (by kernel_rfl) (fun a0_w hp KK KP h=>Eq.mp (Nx a0_w KK KP) (Ry a0_w KK KP h))
def Ko:CKt:=gS sh0 (.st .Reader) [(.sl .s)] [] (fun x y=>Lt.az x y) (fun x y=>Lt.Cw x y)
def lJ:An:=.s .l (.c .l .l)
def mA:CKt:=bd ⟨Tryz.prog,eU,[(76,af)],eS,noP⟩ Tryz.f36 lJ
def sK:An:=.l
def uk:CKt:=bd ⟨Tryz.prog,eU,[(36,mA),(37,gI)],eS,noP⟩ Tryz.f16 sK
def yT:An:=.s .l (.c .l .l)
def Aa:CKt:=bd ⟨Tryz.prog,eU,[(76,af)],eS,noP⟩ Tryz.f36 yT
def uD:An:=.s .l (.c .l .l)
def xn:CKt:=bd ⟨Tryz.prog,eU,[(76,af)],eS,noP⟩ Tryz.f103 uD
def E7:An:=.s .l (.s .l (.j ⟨[0],[.out 0],[(4,.loc 4,0)],[.rt (.loc 4) [.fr,.fr] (.st .Var)]⟩ .l (.s .l (.s .l .l))))
abbrev IB:CTt:=[(16,uk),(36,Aa),(70,fl),(103,xn),(104,rj)]
theorem Jf (a0_r:Lt.Reader) (a1_l:List (List UInt8)) (KK:((Unit)×Lt.Reader)->Prop) (KP:Value->Lt.Reader->Prop):zY a0_r a1_l KK KP=dH ⟨Tryz.prog,eU,IB,eS,noP⟩ Tryz.f59 E7 sh0 (.st .Reader) [(.sl .s)] [] a0_r a1_l KK KP:=by kernel_rfl
theorem Ws:Cont Tryz.prog 59 Ko:=k5 ⟨Tryz.prog,eU,IB,eS,noP⟩ (En.okc (aa (En.okc (aa (En.okc ai En.ok0) mixed (fn:=Tryz.f36) (by kernel_rfl) (by kernel_rfl) (by kernel_rfl) (by kernel_rfl) (by kernel_rfl)) (En.okc ik En.ok0)) mixed (fn:=Tryz.f16) (by kernel_rfl) (by kernel_rfl) (by kernel_rfl) (by kernel_rfl) (by kernel_rfl)) (En.okc (aa (En.okc ai En.ok0) mixed (fn:=Tryz.f36) (by kernel_rfl) (by kernel_rfl) (by kernel_rfl) (by kernel_rfl) (by kernel_rfl)) (En.okc fU (En.okc (aa (En.okc ai En.ok0) mixed (fn:=Tryz.f103) (by kernel_rfl) (by kernel_rfl) (by kernel_rfl) (by kernel_rfl) (by kernel_rfl)) (En.okc tG En.ok0))))) mixed (fn:=Tryz.f59) E7 (by kernel_rfl) (by kernel_rfl) (fun a0_r a1_l hp KK KP h=>Eq.mp (Jf a0_r a1_l KK KP) (MM a0_r a1_l hp KK KP h))
def Fg:CKt:=gS sh0 (.st .Reader) [(.sl .s)] [] (fun x y=>Lt.az x y) (fun x y=>Lt.u9 x y)
def kM:An:=.s .l (.c .l .l)
def lE:CKt:=bd ⟨Tryz.prog,eU,[(76,af)],eS,noP⟩ Tryz.f36 kM
def ru:An:=.l
def sE:CKt:=bd ⟨Tryz.prog,eU,[(36,lE),(37,gI)],eS,noP⟩ Tryz.f16 ru
def wh:An:=.s .l (.c .l .l)
def yO:CKt:=bd ⟨Tryz.prog,eU,[(76,af)],eS,noP⟩ Tryz.f36 wh
def sX:An:=.s .l (.c .l .l)
def vd:CKt:=bd ⟨Tryz.prog,eU,[(76,af)],eS,noP⟩ Tryz.f103 sX
def BN:An:=.s .l (.s .l (.j ⟨[0],[.out 0],[(4,.loc 4,0)],[.rt (.loc 4) [.fr,.fr] (.st .Var)]⟩ .l (.s .l (.j ⟨[0],[],[],[.rt (.out 0) sh0 (.st .Reader)]⟩ .l .l))))
abbrev E8:CTt:=[(16,sE),(36,yO),(70,fl),(103,vd),(104,rj)]
theorem FV (a0_r:Lt.Reader) (a1_l:List (List UInt8)) (KK:((Unit)×Lt.Reader)->Prop) (KP:Value->Lt.Reader->Prop):xa a0_r a1_l KK KP=dH ⟨Tryz.prog,eU,E8,eS,noP⟩ Tryz.f60 BN sh0 (.st .Reader) [(.sl .s)] [] a0_r a1_l KK KP:=by kernel_rfl
theorem RQ:Cont Tryz.prog 60 Fg:=k5 ⟨Tryz.prog,eU,E8,eS,noP⟩ (En.okc (aa (En.okc (aa (En.okc ai En.ok0) mixed (fn:=Tryz.f36) (by kernel_rfl) (by kernel_rfl) (by kernel_rfl) (by kernel_rfl) (by kernel_rfl)) (En.okc ik En.ok0)) mixed (fn:=Tryz.f16) (by kernel_rfl) (by kernel_rfl) (by kernel_rfl) (by kernel_rfl) (by kernel_rfl)) (En.okc (aa (En.okc ai En.ok0) mixed (fn:=Tryz.f36) (by kernel_rfl) (by kernel_rfl) (by kernel_rfl) (by kernel_rfl) (by kernel_rfl)) (En.okc fU (En.okc (aa (En.okc ai En.ok0) mixed (fn:=Tryz.f103) (by kernel_rfl) (by kernel_rfl) (by kernel_rfl) (by kernel_rfl) (by kernel_rfl)) (En.okc tG En.ok0))))) mixed (fn:=Tryz.f60) BN (by kernel_rfl) (by kernel_rfl) (fun a0_r a1_l hp KK KP h=>Eq.mp (FV a0_r a1_l KK KP) (IQ a0_r a1_l hp KK KP h))
def wz:CKt:=ni [.s,(.i .i64),(.i .i64)] [(.i .i64)] (fun x=>True) (fun x=>Lt.nK x.1 x.2.1 x.2.2)
def wE:An:=.s .l (.c .l .l)
def yF:CKt:=bd ⟨Tryz.prog,eU,[(76,af)],[],noP⟩ Tryz.f36 wE
def AN:An:=.s .l (.s .l (.j ⟨[7],[],[],[]⟩ .l (.s .l .l)))
abbrev D0:CTt:=[(36,yF),(110,oO)]
theorem Fk (a0_w:List UInt8) (a1_least:Int) (a2_most:Int) (KK:Int->Prop) (KP:Value->Prop):vI a0_w a1_least a2_most KK KP=tc ⟨Tryz.prog,eU,D0,[],noP⟩ Tryz.f105 AN [.s,(.i .i64),(.i .i64)] [(.i .i64)] (a0_w,a1_least,a2_most) KK KP:=by kernel_rfl
theorem E3:Cont Tryz.prog 105 wz:=k4 ⟨Tryz.prog,eU,D0,[],noP⟩ (En.okc (aa (En.okc ai En.ok0) mixed (fn:=Tryz.f36) (by kernel_rfl) (by kernel_rfl) (by kernel_rfl) (by kernel_rfl) (by kernel_rfl)) (En.okc uy En.ok0)) mixed (fn:=Tryz.f105) AN (by kernel_rfl) (by kernel_rfl) (fun (a0_w,a1_least,a2_most) hp KK KP h=>Eq.mp (Fk a0_w a1_least a2_most KK KP) (IU a0_w a1_least a2_most KK KP h))
def Et:CKt:=gS sh0 (.st .Reader) [(.sl .s)] [] (fun x y=>Lt.az x y) (fun x y=>Lt.uf x y)
def kK:An:=.s .l (.c .l .l)
def lD:CKt:=bd ⟨Tryz.prog,eU,[(76,af)],eS,noP⟩ Tryz.f36 kK
def rA:An:=.l
def sP:CKt:=bd ⟨Tryz.prog,eU,[(36,lD),(37,gI)],eS,noP⟩ Tryz.f16 rA
def vL:An:=.s .l (.c .l .l)
def yX:CKt:=bd ⟨Tryz.prog,eU,[(76,af)],eS,noP⟩ Tryz.f36 vL
def sO:An:=.s .l (.c .l .l)
def uW:CKt:=bd ⟨Tryz.prog,eU,[(76,af)],eS,noP⟩ Tryz.f103 sO
def Bf:An:=.s .l (.s .l (.j ⟨[0],[.out 0],[(4,.loc 4,0)],[.rt (.loc 4) [.fr,.fr] (.st .Extern)]⟩ .l (.s .l (.j ⟨[0],[],[],[.rt (.out 0) sh0 (.st .Reader)]⟩ .l .l))))
abbrev Eo:CTt:=[(16,sP),(36,yX),(70,fl),(103,uW),(105,wz)]
theorem Fj (a0_r:Lt.Reader) (a1_l:List (List UInt8)) (KK:((Unit)×Lt.Reader)->Prop) (KP:Value->Lt.Reader->Prop):wV a0_r a1_l KK KP=dH ⟨Tryz.prog,eU,Eo,eS,noP⟩ Tryz.f61 Bf sh0 (.st .Reader) [(.sl .s)] [] a0_r a1_l KK KP:=by kernel_rfl
theorem Q2:Cont Tryz.prog 61 Et:=k5 ⟨Tryz.prog,eU,Eo,eS,noP⟩ (En.okc (aa (En.okc (aa (En.okc ai En.ok0) mixed (fn:=Tryz.f36) (by kernel_rfl) (by kernel_rfl) (by kernel_rfl) (by kernel_rfl) (by kernel_rfl)) (En.okc ik En.ok0)) mixed (fn:=Tryz.f16) (by kernel_rfl) (by kernel_rfl) (by kernel_rfl) (by kernel_rfl) (by kernel_rfl)) (En.okc (aa (En.okc ai En.ok0) mixed (fn:=Tryz.f36) (by kernel_rfl) (by kernel_rfl) (by kernel_rfl) (by kernel_rfl) (by kernel_rfl)) (En.okc fU (En.okc (aa (En.okc ai En.ok0) mixed (fn:=Tryz.f103) (by kernel_rfl) (by kernel_rfl) (by kernel_rfl) (by kernel_rfl) (by kernel_rfl)) (En.okc E3 En.ok0))))) mixed (fn:=Tryz.f61) Bf (by kernel_rfl) (by kernel_rfl) (fun a0_r a1_l hp KK KP h=>Eq.mp (Fj a0_r a1_l KK KP) (Ix a0_r a1_l hp KK KP h))
def xD:CKt:=gS sh0 (.st .Reader) [(.sl .s)] [] (fun x y=>Lt.az x y) (fun x y=>Lt.lV x y)
def jA:An:=.s .l (.c .l .l)
def ki:CKt:=bd ⟨Tryz.prog,eU,[(76,af)],eS,noP⟩ Tryz.f36 jA
def oD:An:=.l
def o4:CKt:=bd ⟨Tryz.prog,eU,[(36,ki),(37,gI)],eS,noP⟩ Tryz.f16 oD
def s9:An:=.s .l (.c .l .l)
def uJ:CKt:=bd ⟨Tryz.prog,eU,[(76,af)],eS,noP⟩ Tryz.f36 s9
def o7:An:=.s .l (.c .l .l)
def rz:CKt:=bd ⟨Tryz.prog,eU,[(76,af)],eS,noP⟩ Tryz.f103 o7
def vq:An:=.s .l (.s .l (.j ⟨[0],[.out 0],[(4,.loc 4,0)],[.rt (.loc 4) [.fr,.fr,.ow [],.ow [],.ow []] (.st .Func)]⟩ .l (.s .l (.j ⟨[0],[],[],[.rt (.out 0) sh0 (.st .Reader)]⟩ .l .l))))
abbrev xP:CTt:=[(16,o4),(36,uJ),(70,fl),(103,rz),(104,rj)]
theorem zq (a0_r:Lt.Reader) (a1_l:List (List UInt8)) (KK:((Unit)×Lt.Reader)->Prop) (KP:Value->Lt.Reader->Prop):pP a0_r a1_l KK KP=dH ⟨Tryz.prog,eU,xP,eS,noP⟩ Tryz.f62 vq sh0 (.st .Reader) [(.sl .s)] [] a0_r a1_l KK KP:=by kernel_rfl
theorem I5:Cont Tryz.prog 62 xD:=k5 ⟨Tryz.prog,eU,xP,eS,noP⟩ (En.okc (aa (En.okc (aa (En.okc ai En.ok0) mixed (fn:=Tryz.f36) (by kernel_rfl) (by kernel_rfl) (by kernel_rfl) (by kernel_rfl) (by kernel_rfl)) (En.okc ik En.ok0)) mixed (fn:=Tryz.f16) (by kernel_rfl) (by kernel_rfl) (by kernel_rfl) (by kernel_rfl) (by kernel_rfl)) (En.okc (aa (En.okc ai En.ok0) mixed (fn:=Tryz.f36) (by kernel_rfl) (by kernel_rfl) (by kernel_rfl) (by kernel_rfl) (by kernel_rfl)) (En.okc fU (En.okc (aa (En.okc ai En.ok0) mixed (fn:=Tryz.f103) (by kernel_rfl) (by kernel_rfl) (by kernel_rfl) (by kernel_rfl) (by kernel_rfl)) (En.okc tG En.ok0))))) mixed (fn:=Tryz.f62) vq (by kernel_rfl) (by kernel_rfl) (fun a0_r a1_l hp KK KP h=>Eq.mp (zq a0_r a1_l KK KP) (C6 a0_r a1_l hp KK KP h))
def Ku:CKt:=gS sh0 (.st .Reader) [(.sl .s)] [] (fun x y=>Lt.az x y) (fun x y=>Lt.Ck x y)
def lQ:An:=.s .l (.c .l .l)
def mI:CKt:=bd ⟨Tryz.prog,eU,[(76,af)],eS,noP⟩ Tryz.f36 lQ
def sj:An:=.l
def tL:CKt:=bd ⟨Tryz.prog,eU,[(36,mI),(37,gI)],eS,noP⟩ Tryz.f16 sj
def yE:An:=.s .l (.c .l .l)
def AA:CKt:=bd ⟨Tryz.prog,eU,[(76,af)],eS,noP⟩ Tryz.f36 yE
def tX:An:=.s .l (.c .l .l)
def vX:CKt:=bd ⟨Tryz.prog,eU,[(76,af)],eS,noP⟩ Tryz.f103 tX
def AC:An:=.s .l (.s .l .l)
def C9:CKt:=bd ⟨Tryz.prog,eU,[],eS,noP⟩ Tryz.f106 AC
def DD:An:=.s .l (.s .l (.j ⟨[0],[.out 0],[(4,.loc 4,0)],[.rt (.loc 4) [.fr,.fr] (.st .Var)]⟩ .l (.s .l (.s .l .l))))
abbrev I0:CTt:=[(16,tL),(36,AA),(70,fl),(103,vX),(104,rj),(106,C9)]
theorem LJ (a0_r:Lt.Reader) (a1_l:List (List UInt8)) (KK:((Unit)×Lt.Reader)->Prop) (KP:Value->Lt.Reader->Prop):zG a0_r a1_l KK KP=dH ⟨Tryz.prog,eU,I0,eS,noP⟩ Tryz.f63 DD sh0 (.st .Reader) [(.sl .s)] [] a0_r a1_l KK KP:=by kernel_rfl
theorem WX:Cont Tryz.prog 63 Ku:=k5 ⟨Tryz.prog,eU,I0,eS,noP⟩ (En.okc (aa (En.okc (aa (En.okc ai En.ok0) mixed (fn:=Tryz.f36) (by kernel_rfl) (by kernel_rfl) (by kernel_rfl) (by kernel_rfl) (by kernel_rfl)) (En.okc ik En.ok0)) mixed (fn:=Tryz.f16) (by kernel_rfl) (by kernel_rfl) (by kernel_rfl) (by kernel_rfl) (by kernel_rfl)) (En.okc (aa (En.okc ai En.ok0) mixed (fn:=Tryz.f36) (by kernel_rfl) (by kernel_rfl) (by kernel_rfl) (by kernel_rfl) (by kernel_rfl)) (En.okc fU (En.okc (aa (En.okc ai En.ok0) mixed (fn:=Tryz.f103) (by kernel_rfl) (by kernel_rfl) (by kernel_rfl) (by kernel_rfl) (by kernel_rfl)) (En.okc tG (En.okc (aa En.ok0 mixed (fn:=Tryz.f106) (by kernel_rfl) (by kernel_rfl) (by kernel_rfl) (by kernel_rfl) (by kernel_rfl)) En.ok0)))))) mixed (fn:=Tryz.f63) DD (by kernel_rfl) (by kernel_rfl) (fun a0_r a1_l hp KK KP h=>Eq.mp (LJ a0_r a1_l KK KP) (L8 a0_r a1_l hp KK KP h))
def xy:CKt:=gS sh0 (.st .Reader) [(.sl .s)] [] (fun x y=>Lt.az x y) (fun x y=>Lt.l8 x y)
def jK:An:=.s .l (.c .l .l)
def ko:CKt:=bd ⟨Tryz.prog,eU,[(76,af)],eS,noP⟩ Tryz.f36 jK
def oM:An:=.l
def oP:CKt:=bd ⟨Tryz.prog,eU,[(36,ko),(37,gI)],eS,noP⟩ Tryz.f16 oM
def tg:An:=.s .l (.c .l .l)
def vv:CKt:=bd ⟨Tryz.prog,eU,[(76,af)],eS,noP⟩ Tryz.f36 tg
def oY:An:=.s .l (.c .l .l)
def rv:CKt:=bd ⟨Tryz.prog,eU,[(76,af)],eS,noP⟩ Tryz.f103 oY
def tO:An:=.s .l (.s .l .l)
def wY:CKt:=bd ⟨Tryz.prog,eU,[],eS,noP⟩ Tryz.f106 tO
def tV:An:=.s .l (.s .l (.j ⟨[0],[.out 0],[(4,.loc 4,0)],[.rt (.loc 4) [.fr,.fr] (.st .Var)]⟩ .l (.s .l (.s .l (.j ⟨[0],[],[],[.rt (.out 0) sh0 (.st .Reader)]⟩ .l .l)))))
abbrev xx:CTt:=[(16,oP),(36,vv),(70,fl),(103,rv),(104,rj),(106,wY)]
theorem Bk (a0_r:Lt.Reader) (a1_l:List (List UInt8)) (KK:((Unit)×Lt.Reader)->Prop) (KP:Value->Lt.Reader->Prop):py a0_r a1_l KK KP=dH ⟨Tryz.prog,eU,xx,eS,noP⟩ Tryz.f64 tV sh0 (.st .Reader) [(.sl .s)] [] a0_r a1_l KK KP:=by kernel_rfl
theorem I6:Cont Tryz.prog 64 xy:=k5 ⟨Tryz.prog,eU,xx,eS,noP⟩ (En.okc (aa (En.okc (aa (En.okc ai En.ok0) mixed (fn:=Tryz.f36) (by kernel_rfl) (by kernel_rfl) (by kernel_rfl) (by kernel_rfl) (by kernel_rfl)) (En.okc ik En.ok0)) mixed (fn:=Tryz.f16) (by kernel_rfl) (by kernel_rfl) (by kernel_rfl) (by kernel_rfl) (by kernel_rfl)) (En.okc (aa (En.okc ai En.ok0) mixed (fn:=Tryz.f36) (by kernel_rfl) (by kernel_rfl) (by kernel_rfl) (by kernel_rfl) (by kernel_rfl)) (En.okc fU (En.okc (aa (En.okc ai En.ok0) mixed (fn:=Tryz.f103) (by kernel_rfl) (by kernel_rfl) (by kernel_rfl) (by kernel_rfl) (by kernel_rfl)) (En.okc tG (En.okc (aa En.ok0 mixed (fn:=Tryz.f106) (by kernel_rfl) (by kernel_rfl) (by kernel_rfl) (by kernel_rfl) (by kernel_rfl)) En.ok0)))))) mixed (fn:=Tryz.f64) tV (by kernel_rfl) (by kernel_rfl) (fun a0_r a1_l hp KK KP h=>Eq.mp (Bk a0_r a1_l KK KP) (Di a0_r a1_l hp KK KP h))
def L2:CKt:=gS sh0 (.st .Reader) [(.sl .s)] [] (fun x y=>Lt.az x y) (fun x y=>Lt.Bz x y)
def yC:An:=.s .l (.c .l .l)
def CG:CKt:=bd ⟨Tryz.prog,eU,[(76,af)],eS,noP⟩ Tryz.f36 yC
def vo:An:=.s .l (.c .l .l)
def ww:CKt:=bd ⟨Tryz.prog,eU,[(76,af)],eS,noP⟩ Tryz.f103 vo
def CJ:An:=.s .l (.s .l .l)
def Dt:CKt:=bd ⟨Tryz.prog,eU,[],eS,noP⟩ Tryz.f106 CJ
def yU:An:=.s .l (.s .l .l)
def Cb:CKt:=bd ⟨Tryz.prog,eU,[],eS,noP⟩ Tryz.f107 yU
def EG:An:=.j ⟨[0,1],[.out 0],[],[]⟩ .l (.s .l (.s .l (.s .l (.s .l (.j ⟨[0],[],[],[.rt (.out 0) sh0 (.st .Reader)]⟩ .l .l)))))
abbrev IA:CTt:=[(36,CG),(70,fl),(103,ww),(106,Dt),(107,Cb)]
theorem Jc (a0_r:Lt.Reader) (a1_l:List (List UInt8)) (KK:((Unit)×Lt.Reader)->Prop) (KP:Value->Lt.Reader->Prop):zV a0_r a1_l KK KP=dH ⟨Tryz.prog,eU,IA,eS,noP⟩ Tryz.f65 EG sh0 (.st .Reader) [(.sl .s)] [] a0_r a1_l KK KP:=by kernel_rfl
theorem TY:Cont Tryz.prog 65 L2:=k5 ⟨Tryz.prog,eU,IA,eS,noP⟩ (En.okc (aa (En.okc ai En.ok0) mixed (fn:=Tryz.f36) (by kernel_rfl) (by kernel_rfl) (by kernel_rfl) (by kernel_rfl) (by kernel_rfl)) (En.okc fU (En.okc (aa (En.okc ai En.ok0) mixed (fn:=Tryz.f103) (by kernel_rfl) (by kernel_rfl) (by kernel_rfl) (by kernel_rfl) (by kernel_rfl)) (En.okc (aa En.ok0 mixed (fn:=Tryz.f106) (by kernel_rfl) (by kernel_rfl) (by kernel_rfl) (by kernel_rfl) (by kernel_rfl)) (En.okc (aa En.ok0 mixed (fn:=Tryz.f107) (by kernel_rfl) (by kernel_rfl) (by kernel_rfl) (by kernel_rfl) (by kernel_rfl)) En.ok0))))) mixed (fn:=Tryz.f65) EG (by kernel_rfl) (by kernel_rfl) (fun a0_r a1_l hp KK KP h=>Eq.mp (Jc a0_r a1_l KK KP) (MT a0_r a1_l hp KK KP h))
def Tn:CKt:=gS sh0 (.st .Reader) [(.sl .s)] [] (fun x y=>Lt.az x y) (fun x y=>Lt.WT x y)
def nr:An:=.s .l (.c .l .l)
def oG:CKt:=bd ⟨Tryz.prog,eU,[(76,af)],eS,noP⟩ Tryz.f36 nr
def vN:An:=.l
def yK:CKt:=bd ⟨Tryz.prog,eU,[(36,oG),(37,gI)],eS,noP⟩ Tryz.f16 vN
def Dg:An:=.s .l (.c .l .l)
def GE:CKt:=bd ⟨Tryz.prog,eU,[(76,af)],eS,noP⟩ Tryz.f36 Dg
def oJ:An:=.s .l (.c .l .l)
def qg:CKt:=bd ⟨Tryz.prog,eU,[(76,af)],eS,noP⟩ Tryz.f103 oJ
def C2:An:=.s .l .l
def Ga:CKt:=bd ⟨Tryz.prog,eU,[(103,qg)],eS,noP⟩ Tryz.f74 C2
def rC:An:=.s .l (.s .l .l)
def sm:CKt:=bd ⟨Tryz.prog,eU,[],eS,noP⟩ Tryz.f106 rC
def Bl:An:=.s .l (.s .l (.s .l .l))
def Dh:CKt:=bd ⟨Tryz.prog,eU,[(106,sm)],eS,noP⟩ Tryz.f75 Bl
def yy:An:=.s .l (.c .l .l)
def zW:CKt:=bd ⟨Tryz.prog,eU,[(76,af)],eS,noP⟩ Tryz.f103 yy
def OQ:An:=.s .l (.j ⟨[0,1],[.out 0],[],[]⟩ .l (.s .l (.s (.s .l (.b (.lp ⟨[0,1,4],[.out 0],[],[.sl 5 (.i .i64),.rt (.loc 4) [.fr,.ow [.fr,.fr,.fr,.fr]] (.st .Phi)]⟩ (.s (.s .l (.c .l .l)) (.j ⟨[0,1,4,5],[.out 0],[],[.rt (.loc 4) [.fr,.ow [.fr,.fr,.fr,.fr]] (.st .Phi)]⟩ (.b .l) .l))))) (.s .l (.s .l (.s .l .l))))))
abbrev V8:CTt:=[(16,yK),(36,GE),(70,fl),(74,Ga),(75,Dh),(103,zW),(108,xi)]
theorem QJ (a0_r:Lt.Reader) (a1_l:List (List UInt8)) (KK:((Unit)×Lt.Reader)->Prop) (KP:Value->Lt.Reader->Prop):Ny a0_r a1_l KK KP=dH ⟨Tryz.prog,eU,V8,eS,noP⟩ Tryz.f66 OQ sh0 (.st .Reader) [(.sl .s)] [] a0_r a1_l KK KP:=by kernel_rfl
theorem aaB:Cont Tryz.prog 66 Tn:=k5 ⟨Tryz.prog,eU,V8,eS,noP⟩ (En.okc (aa (En.okc (aa (En.okc ai En.ok0) mixed (fn:=Tryz.f36) (by kernel_rfl) (by kernel_rfl) (by kernel_rfl) (by kernel_rfl) (by kernel_rfl)) (En.okc ik En.ok0)) mixed (fn:=Tryz.f16) (by kernel_rfl) (by kernel_rfl) (by kernel_rfl) (by kernel_rfl) (by kernel_rfl)) (En.okc (aa (En.okc ai En.ok0) mixed (fn:=Tryz.f36) (by kernel_rfl) (by kernel_rfl) (by kernel_rfl) (by kernel_rfl) (by kernel_rfl)) (En.okc fU (En.okc (aa (En.okc (aa (En.okc ai En.ok0) mixed (fn:=Tryz.f103) (by kernel_rfl) (by kernel_rfl) (by kernel_rfl) (by kernel_rfl) (by kernel_rfl)) En.ok0) mixed (fn:=Tryz.f74) (by kernel_rfl) (by kernel_rfl) (by kernel_rfl) (by kernel_rfl) (by kernel_rfl)) (En.okc (aa (En.okc (aa En.ok0 mixed (fn:=Tryz.f106) (by kernel_rfl) (by kernel_rfl) (by kernel_rfl) (by kernel_rfl) (by kernel_rfl)) En.ok0) mixed (fn:=Tryz.f75) (by kernel_rfl) (by kernel_rfl) (by kernel_rfl) (by kernel_rfl) (by kernel_rfl)) (En.okc (aa (En.okc ai En.ok0) mixed (fn:=Tryz.f103) (by kernel_rfl) (by kernel_rfl) (by kernel_rfl) (by kernel_rfl) (by kernel_rfl)) (En.okc Cq En.ok0))))))) mixed (fn:=Tryz.f66) OQ (by kernel_rfl) (by kernel_rfl) (fun a0_r a1_l hp KK KP h=>Eq.mp (QJ a0_r a1_l KK KP) (TS a0_r a1_l hp KK KP h))
def LZ:CKt:=gS sh0 (.st .Reader) [(.sl .s)] [] (fun x y=>Lt.az x y) (fun x y=>Lt.Bt x y)
def lG:An:=.s .l (.c .l .l)
def mu:CKt:=bd ⟨Tryz.prog,eU,[(76,af)],eS,noP⟩ Tryz.f36 lG
def sF:An:=.l
def tD:CKt:=bd ⟨Tryz.prog,eU,[(36,mu),(37,gI)],eS,noP⟩ Tryz.f16 sF
def yW:An:=.s .l (.c .l .l)
def By:CKt:=bd ⟨Tryz.prog,eU,[(76,af)],eS,noP⟩ Tryz.f36 yW
def uO:An:=.s .l (.c .l .l)
def xc:CKt:=bd ⟨Tryz.prog,eU,[(76,af)],eS,noP⟩ Tryz.f103 uO
def jz:An:=.s .l (.s .l .l)
def kA:CKt:=bd ⟨Tryz.prog,eU,[],eS,noP⟩ Tryz.f106 jz
def m0:An:=.s .l (.s .l (.s .l .l))
def oK:CKt:=bd ⟨Tryz.prog,eU,[(106,kA)],eS,noP⟩ Tryz.f75 m0
def yD:An:=.s .l (.s .l (.s .l .l))
def Bn:CKt:=bd ⟨Tryz.prog,eU,[(75,oK)],eS,noP⟩ Tryz.f109 yD
def EY:An:=.s .l (.j ⟨[0,1],[.out 0],[],[]⟩ .l (.j ⟨[0,1],[.out 0],[(4,.loc 4,0)],[.rt (.loc 4) [.fr,.fr,.fr,.ow []] (.st .Frame)]⟩ .l (.s (.s .l (.b (.lp ⟨[0,1,4],[.out 0],[],[.sl 5 (.i .i64),.rt (.loc 4) sh4 (.st .Frame)]⟩ (.s (.s .l (.c .l .l)) (.j ⟨[0,1,4,5],[.out 0],[],[.rt (.loc 4) sh4 (.st .Frame)]⟩ (.b .l) .l))))) (.s .l (.s .l (.s .l .l))))))
abbrev JW:CTt:=[(16,tD),(36,By),(70,fl),(103,xc),(105,wz),(108,xi),(109,Bn)]
theorem Jd (a0_r:Lt.Reader) (a1_l:List (List UInt8)) (KK:((Unit)×Lt.Reader)->Prop) (KP:Value->Lt.Reader->Prop):Ba a0_r a1_l KK KP=dH ⟨Tryz.prog,eU,JW,eS,noP⟩ Tryz.f67 EY sh0 (.st .Reader) [(.sl .s)] [] a0_r a1_l KK KP:=by kernel_rfl
theorem V2:Cont Tryz.prog 67 LZ:=k5 ⟨Tryz.prog,eU,JW,eS,noP⟩ (En.okc (aa (En.okc (aa (En.okc ai En.ok0) mixed (fn:=Tryz.f36) (by kernel_rfl) (by kernel_rfl) (by kernel_rfl) (by kernel_rfl) (by kernel_rfl)) (En.okc ik En.ok0)) mixed (fn:=Tryz.f16) (by kernel_rfl) (by kernel_rfl) (by kernel_rfl) (by kernel_rfl) (by kernel_rfl)) (En.okc (aa (En.okc ai En.ok0) mixed (fn:=Tryz.f36) (by kernel_rfl) (by kernel_rfl) (by kernel_rfl) (by kernel_rfl) (by kernel_rfl)) (En.okc fU (En.okc (aa (En.okc ai En.ok0) mixed (fn:=Tryz.f103) (by kernel_rfl) (by kernel_rfl) (by kernel_rfl) (by kernel_rfl) (by kernel_rfl)) (En.okc E3 (En.okc Cq (En.okc (aa (En.okc (aa (En.okc (aa En.ok0 mixed (fn:=Tryz.f106) (by kernel_rfl) (by kernel_rfl) (by kernel_rfl) (by kernel_rfl) (by kernel_rfl)) En.ok0) mixed (fn:=Tryz.f75) (by kernel_rfl) (by kernel_rfl) (by kernel_rfl) (by kernel_rfl) (by kernel_rfl)) En.ok0) mixed (fn:=Tryz.f109) (by kernel_rfl) (by kernel_rfl) (by kernel_rfl) (by kernel_rfl) (by kernel_rfl)) En.ok0))))))) mixed (fn:=Tryz.f67) EY (by kernel_rfl) (by kernel_rfl) (fun a0_r a1_l hp KK KP h=>Eq.mp (Jd a0_r a1_l KK KP) (OH a0_r a1_l hp KK KP h))
def DB:CKt:=gS sh0 (.st .Reader) [(.sl .s)] [] (fun x y=>Lt.az x y) (fun x y=>Lt.mY x y)
def kJ:An:=.s .l (.c .l .l)
def lM:CKt:=bd ⟨Tryz.prog,eU,[(76,af)],eS,noP⟩ Tryz.f36 kJ
def rk:An:=.l
def se:CKt:=bd ⟨Tryz.prog,eU,[(36,lM),(37,gI)],eS,noP⟩ Tryz.f16 rk
def wS:An:=.s .l (.c .l .l)
def yz:CKt:=bd ⟨Tryz.prog,eU,[(76,af)],eS,noP⟩ Tryz.f36 wS
def sq:An:=.s .l (.c .l .l)
def vg:CKt:=bd ⟨Tryz.prog,eU,[(76,af)],eS,noP⟩ Tryz.f103 sq
def jk:An:=.s .l (.s .l .l)
def jH:CKt:=bd ⟨Tryz.prog,eU,[],eS,noP⟩ Tryz.f106 jk
def mC:An:=.s .l (.s .l (.s .l .l))
def na:CKt:=bd ⟨Tryz.prog,eU,[(106,jH)],eS,noP⟩ Tryz.f75 mC
def xf:An:=.s .l (.s .l (.s .l .l))
def yS:CKt:=bd ⟨Tryz.prog,eU,[(75,na)],eS,noP⟩ Tryz.f109 xf
def BD:An:=.s .l (.j ⟨[0,1],[.out 0],[],[]⟩ .l (.j ⟨[0],[.out 0],[(4,.loc 4,0)],[.rt (.loc 4) [.fr,.fr] (.st .Virt)]⟩ .l (.s .l (.s .l (.j ⟨[0],[],[],[.rt (.out 0) sh0 (.st .Reader)]⟩ .l .l)))))
abbrev DK:CTt:=[(16,se),(36,yz),(70,fl),(73,F7),(103,vg),(109,yS)]
theorem Fx (a0_r:Lt.Reader) (a1_l:List (List UInt8)) (KK:((Unit)×Lt.Reader)->Prop) (KP:Value->Lt.Reader->Prop):wd a0_r a1_l KK KP=dH ⟨Tryz.prog,eU,DK,eS,noP⟩ Tryz.f68 BD sh0 (.st .Reader) [(.sl .s)] [] a0_r a1_l KK KP:=by kernel_rfl
theorem S4:Cont Tryz.prog 68 DB:=k5 ⟨Tryz.prog,eU,DK,eS,noP⟩ (En.okc (aa (En.okc (aa (En.okc ai En.ok0) mixed (fn:=Tryz.f36) (by kernel_rfl) (by kernel_rfl) (by kernel_rfl) (by kernel_rfl) (by kernel_rfl)) (En.okc ik En.ok0)) mixed (fn:=Tryz.f16) (by kernel_rfl) (by kernel_rfl) (by kernel_rfl) (by kernel_rfl) (by kernel_rfl)) (En.okc (aa (En.okc ai En.ok0) mixed (fn:=Tryz.f36) (by kernel_rfl) (by kernel_rfl) (by kernel_rfl) (by kernel_rfl) (by kernel_rfl)) (En.okc fU (En.okc PK (En.okc (aa (En.okc ai En.ok0) mixed (fn:=Tryz.f103) (by kernel_rfl) (by kernel_rfl) (by kernel_rfl) (by kernel_rfl) (by kernel_rfl)) (En.okc (aa (En.okc (aa (En.okc (aa En.ok0 mixed (fn:=Tryz.f106) (by kernel_rfl) (by kernel_rfl) (by kernel_rfl) (by kernel_rfl) (by kernel_rfl)) En.ok0) mixed (fn:=Tryz.f75) (by kernel_rfl) (by kernel_rfl) (by kernel_rfl) (by kernel_rfl) (by kernel_rfl)) En.ok0) mixed (fn:=Tryz.f109) (by kernel_rfl) (by kernel_rfl) (by kernel_rfl) (by kernel_rfl) (by kernel_rfl)) En.ok0)))))) mixed (fn:=Tryz.f68) BD (by kernel_rfl) (by kernel_rfl) (fun a0_r a1_l hp KK KP h=>Eq.mp (Fx a0_r a1_l KK KP) (KJ a0_r a1_l hp KK KP h))
def VH:CKt:=gS sh0 (.st .Reader) [(.sl .s)] [] (fun x y=>Lt.az x y) (fun x y=>Lt.CX x y)
def mS:An:=.s .l (.c .l .l)
def oC:CKt:=bd ⟨Tryz.prog,eU,[(76,af)],eS,noP⟩ Tryz.f36 mS
def vJ:An:=.l
def yM:CKt:=bd ⟨Tryz.prog,eU,[(36,oC),(37,gI)],eS,noP⟩ Tryz.f16 vJ
def De:An:=.s .l (.c .l .l)
def Gh:CKt:=bd ⟨Tryz.prog,eU,[(76,af)],eS,noP⟩ Tryz.f36 De
def rl:An:=.s .l (.s .l .l)
def sr:CKt:=bd ⟨Tryz.prog,eU,[],eS,noP⟩ Tryz.f106 rl
def BV:An:=.s .l (.s .l (.s .l .l))
def Df:CKt:=bd ⟨Tryz.prog,eU,[(106,sr)],eS,noP⟩ Tryz.f75 BV
def Pa:An:=.s .l (.s .l (.j ⟨[0,4],[.out 0],[],[.rt (.loc 4) [.fr,.fr,.fr,.fr,.ow [.fr],.fr] (.st .Term)]⟩ (.s .l (.b (.s .l (.c (.s .l .l) (.s .l (.c (.s .l .l) (.s .l (.c (.s .l .l) (.s .l (.s .l (.s .l .l))))))))))) (.j ⟨[0],[],[],[.rt (.out 0) sh0 (.st .Reader)]⟩ .l .l)))
abbrev WW:CTt:=[(16,yM),(36,Gh),(70,fl),(75,Df),(108,xi),(110,oO)]
theorem Sk (a0_r:Lt.Reader) (a1_l:List (List UInt8)) (KK:((Unit)×Lt.Reader)->Prop) (KP:Value->Lt.Reader->Prop):MP a0_r a1_l KK KP=dH ⟨Tryz.prog,eU,WW,eS,noP⟩ Tryz.f69 Pa sh0 (.st .Reader) [(.sl .s)] [] a0_r a1_l KK KP:=by kernel_rfl
theorem Zw:Cont Tryz.prog 69 VH:=k5 ⟨Tryz.prog,eU,WW,eS,noP⟩ (En.okc (aa (En.okc (aa (En.okc ai En.ok0) mixed (fn:=Tryz.f36) (by kernel_rfl) (by kernel_rfl) (by kernel_rfl) (by kernel_rfl) (by kernel_rfl)) (En.okc ik En.ok0)) mixed (fn:=Tryz.f16) (by kernel_rfl) (by kernel_rfl) (by kernel_rfl) (by kernel_rfl) (by kernel_rfl)) (En.okc (aa (En.okc ai En.ok0) mixed (fn:=Tryz.f36) (by kernel_rfl) (by kernel_rfl) (by kernel_rfl) (by kernel_rfl) (by kernel_rfl)) (En.okc fU (En.okc (aa (En.okc (aa En.ok0 mixed (fn:=Tryz.f106) (by kernel_rfl) (by kernel_rfl) (by kernel_rfl) (by kernel_rfl) (by kernel_rfl)) En.ok0) mixed (fn:=Tryz.f75) (by kernel_rfl) (by kernel_rfl) (by kernel_rfl) (by kernel_rfl) (by kernel_rfl)) (En.okc Cq (En.okc uy En.ok0)))))) mixed (fn:=Tryz.f69) Pa (by kernel_rfl) (by kernel_rfl) (fun a0_r a1_l hp KK KP h=>Eq.mp (Sk a0_r a1_l KK KP) (Vv a0_r a1_l hp KK KP h))
def OV:CKt:=gS sh0 (.st .Reader) [(.sl .s)] [] (fun x y=>Lt.az x y) (fun x y=>Lt.yi x y)
def Lo:An:=.s .l (.s (.j ⟨[0,1,4],[.out 0],[],[.sl 18 .bo]⟩ .l (.c .l .l)) (.s .l (.s .l (.j ⟨[0],[],[],[.rt (.out 0) sh0 (.st .Reader)]⟩ (.s .l (.c .l .l)) .l))))
abbrev PV:CTt:=[(34,oh),(35,Pe),(57,V5),(58,JI),(59,Ko),(60,Fg),(61,Et),(62,xD),(63,Ku),(64,xy),(65,L2),(66,Tn),(67,LZ),(68,DB),(69,VH)]
theorem M0 (a0_r:Lt.Reader) (a1_l:List (List UInt8)) (KK:((Unit)×Lt.Reader)->Prop) (KP:Value->Lt.Reader->Prop):Fz a0_r a1_l KK KP=dH ⟨Tryz.prog,eU,PV,eS,noP⟩ Tryz.f15 Lo sh0 (.st .Reader) [(.sl .s)] [] a0_r a1_l KK KP:=by kernel_rfl
theorem Xa:Cont Tryz.prog 15 OV:=k5 ⟨Tryz.prog,eU,PV,eS,noP⟩ (En.okc Nd (En.okc X9 (En.okc aaY (En.okc UR (En.okc Ws (En.okc RQ (En.okc Q2 (En.okc I5 (En.okc WX (En.okc I6 (En.okc TY (En.okc aaB (En.okc V2 (En.okc S4 (En.okc Zw En.ok0))))))))))))))) mixed (fn:=Tryz.f15) Lo (by kernel_rfl) (by kernel_rfl) (fun a0_r a1_l hp KK KP h=>Eq.mp (M0 a0_r a1_l KK KP) (SI a0_r a1_l hp KK KP h))
def JK:CKt:=aP [.s] [(.st .Program),(.i .i64),(.i .i64)] (fun x=>Lt.dM x)
def lP:An:=.s .l (.c .l .l)
def me:CKt:=bd ⟨Tryz.prog,eU,[(76,af)],eS,noP⟩ Tryz.f36 lP
def sV:An:=.l
def ua:CKt:=bd ⟨Tryz.prog,eU,[(36,me),(37,gI)],eS,noP⟩ Tryz.f16 sV
def DU:An:=.s (.s .l (.b (.lp ⟨[2,3,4,6,23,24],[.out 2,.out 3,.out 4,.out 6],[],[.sl 25 (.i .i64),.rt (.out 21) sh0 (.st .Reader)]⟩ (.s .l (.s (.c .l .l) (.s (.b (.s .l (.s .l .l))) .l)))))) (.s .l (.s .l (.s .l .l)))
abbrev WR:CTt:=[(13,IF),(15,OV),(16,ua)]
theorem KI (a0_s:List UInt8) (KK:(Lt.Program×Int×Int)->Prop):zL a0_s KK=U2 ⟨Tryz.prog,eU,WR,eS,noP⟩ Tryz.f6 Tryz.f14 [(.l,kL (Tryz.f6.body.getD .skip)),(.l,kL (kR (Tryz.f6.body.getD .skip))),(.s .l (.c (.j ⟨[2,3,4],[],[],[.rt (.loc 2) sh5 (.st .Program),.rt (.loc 3) [.fr] (.i .i64),.rt (.loc 4) [.fr] (.i .i64)]⟩ .l .l) .l),kL (kR (kR (Tryz.f6.body.getD .skip)))),(.l,kL (kR (kR (kR (Tryz.f6.body.getD .skip)))))] DU .l (kR (kR (kR (kR (kR (Tryz.f6.body.getD .skip)))))) [.s] [(.st .Program),(.i .i64),(.i .i64)] a0_s KK:=by kernel_rfl
theorem UJ:Cont Tryz.prog 6 JK:=zi (My (En.okc VY (En.okc Xa (En.okc (aa (En.okc (aa (En.okc ai En.ok0) mixed (fn:=Tryz.f36) (by kernel_rfl) (by kernel_rfl) (by kernel_rfl) (by kernel_rfl) (by kernel_rfl)) (En.okc ik En.ok0)) mixed (fn:=Tryz.f16) (by kernel_rfl) (by kernel_rfl) (by kernel_rfl) (by kernel_rfl) (by kernel_rfl)) En.ok0))) mixed (fn:=Tryz.f6) (l:=[(.l,kL (Tryz.f6.body.getD .skip)),(.l,kL (kR (Tryz.f6.body.getD .skip))),(.s .l (.c (.j ⟨[2,3,4],[],[],[.rt (.loc 2) sh5 (.st .Program),.rt (.loc 3) [.fr] (.i .i64),.rt (.loc 4) [.fr] (.i .i64)]⟩ .l .l) .l),kL (kR (kR (Tryz.f6.body.getD .skip)))),(.l,kL (kR (kR (kR (Tryz.f6.body.getD .skip)))))]) (an2:=DU) (anC:=.l) (id:=rgI (kL (kR (kR (kR (kR (Tryz.f6.body.getD .skip))))))) (o1:=rgO (kL (kR (kR (kR (kR (Tryz.f6.body.getD .skip)))))) 0) (o2:=rgO (kL (kR (kR (kR (kR (Tryz.f6.body.getD .skip)))))) 1) (rest:=kR (kR (kR (kR (kR (Tryz.f6.body.getD .skip)))))) (by kernel_rfl) (by kernel_rfl) (by kernel_rfl) (by kernel_rfl) (by kernel_rfl) (by kernel_rfl) (by kernel_rfl) (by kernel_rfl) (by kernel_rfl) (by kernel_rfl) (by kernel_rfl) (by kernel_rfl) (by kernel_rfl) (fun a0_s _ KK h=>Eq.mp (KI a0_s KK) (Nl a0_s KK h)))
def tk:CKt:=aP [(.sl (.st .Var)),(.sl (.st .Var))] [.bo] (fun x=>Lt.gL x.1 x.2)
def xt:An:=.s .l (.s (.s .l (.c (.s .l .l) .l)) (.s (.s .l (.b (.lp ⟨[0,1],[],[],[.sl 5 (.i .i64)]⟩ (.s (.s .l (.c .l .l)) (.s (.b (.s .l (.c (.s .l .l) .l))) .l))))) (.s .l .l)))
theorem C5 (a0_a:List Lt.Var) (a1_b:List Lt.Var) (KK:Bool->Prop):sg a0_a a1_b KK=bf ⟨Tryz.prog,eU,[],[],noP⟩ Tryz.f20 xt [(.sl (.st .Var)),(.sl (.st .Var))] [.bo] (a0_a,a1_b) KK:=by kernel_rfl
theorem BE:Cont Tryz.prog 20 tk:=k0 ⟨Tryz.prog,eU,[],[],noP⟩ En.ok0 mixed (fn:=Tryz.f20) xt (by kernel_rfl) (by kernel_rfl) (fun (a0_a,a1_b) KK h=>Eq.mp (C5 a0_a a1_b KK) (GU a0_a a1_b KK h))
def AS:CKt:=aP [(.sl (.st .Arg)),(.sl (.st .Arg))] [.bo] (fun x=>Lt.lU x.1 x.2)
def xV:An:=.s .l (.s (.s .l (.c (.s .l .l) .l)) (.s (.s .l (.b (.lp ⟨[0,1],[],[],[.sl 5 (.i .i64)]⟩ (.s (.s .l (.c .l .l)) (.s (.b (.s .l (.c (.s .l .l) .l))) .l))))) (.s .l .l)))
theorem Dn (a0_a:List Lt.Arg) (a1_b:List Lt.Arg) (KK:Bool->Prop):rW a0_a a1_b KK=bf ⟨Tryz.prog,eU,[],[],noP⟩ Tryz.f117 xV [(.sl (.st .Arg)),(.sl (.st .Arg))] [.bo] (a0_a,a1_b) KK:=by kernel_rfl
theorem Nu:Cont Tryz.prog 117 AS:=k0 ⟨Tryz.prog,eU,[],[],noP⟩ En.ok0 mixed (fn:=Tryz.f117) xV (by kernel_rfl) (by kernel_rfl) (fun (a0_a,a1_b) KK h=>Eq.mp (Dn a0_a a1_b KK) (Fq a0_a a1_b KK h))
def xB:CKt:=aP [(.st .Instr),(.st .Instr)] [.bo] (fun x=>Lt.mz x.1 x.2)
def ul:An:=.s .l (.s (.j ⟨[2,3],[.loc 2,.loc 3],[],[.sl 54 .bo]⟩ .l (.c (.s .l .l) .l)) (.s (.s .l (.b (.lp ⟨[2,3],[.loc 2,.loc 3],[],[.sl 5 (.i .i64)]⟩ (.s (.s .l (.c .l .l)) (.s (.b (.s .l (.s .l (.s (.j ⟨[2,3,5,6,7],[.loc 2,.loc 3,.loc 6,.loc 7],[],[.sl 99 .bo]⟩ .l (.c (.s .l .l) .l)) (.s .l (.b (.lp ⟨[2,3,5,6,7],[.loc 2,.loc 3,.loc 6,.loc 7],[],[.sl 8 (.i .i64)]⟩ (.s (.s .l (.c .l .l)) (.s (.b (.s .l (.c (.s .l .l) .l))) .l))))))))) .l))))) (.s (.s .l (.b (.lp ⟨[2,3],[.loc 2,.loc 3],[],[.sl 9 (.i .i64)]⟩ (.s (.s .l (.c .l .l)) (.s (.b (.j ⟨[2,3,9],[.loc 2,.loc 3],[],[.sl 153 .bo]⟩ .l (.c (.s .l .l) .l))) .l))))) (.s .l .l))))
abbrev x9:CTt:=[(117,AS)]
theorem B7 (a0_a:Lt.Instr) (a1_b:Lt.Instr) (KK:Bool->Prop):pS a0_a a1_b KK=bf ⟨Tryz.prog,eU,x9,[],noP⟩ Tryz.f87 ul [(.st .Instr),(.st .Instr)] [.bo] (a0_a,a1_b) KK:=by kernel_rfl
theorem LO:Cont Tryz.prog 87 xB:=k0 ⟨Tryz.prog,eU,x9,[],noP⟩ (En.okc Nu En.ok0) mixed (fn:=Tryz.f87) ul (by kernel_rfl) (by kernel_rfl) (fun (a0_a,a1_b) KK h=>Eq.mp (B7 a0_a a1_b KK) (Db a0_a a1_b KK h))
def yc:CKt:=aP [(.st .Block),(.st .Block)] [.bo] (fun x=>Lt.mn x.1 x.2)
def ur:An:=.s .l (.s (.j ⟨[2,3],[.loc 2,.loc 3],[],[.sl 69 .bo]⟩ .l (.c (.s .l .l) .l)) (.s (.s .l (.b (.lp ⟨[2,3],[.loc 2,.loc 3],[],[.sl 5 (.i .i64)]⟩ (.s (.s .l (.c .l .l)) (.s (.b (.s .l (.c (.s .l .l) .l))) .l))))) (.s (.s .l (.b (.lp ⟨[2,3],[.loc 2,.loc 3],[],[.sl 6 (.i .i64)]⟩ (.s (.s .l (.c .l .l)) (.s (.b (.s (.j ⟨[2,3,6],[.loc 2,.loc 3],[],[.sl 127 .bo]⟩ .l (.c (.s .l .l) .l)) (.s .l (.b (.lp ⟨[2,3,6],[.loc 2,.loc 3],[],[.sl 7 (.i .i64)]⟩ (.s (.s .l (.c .l .l)) (.s (.b (.s .l (.c (.s .l .l) .l))) .l))))))) .l))))) (.s (.s .l (.b (.lp ⟨[2,3],[.loc 2,.loc 3],[],[.sl 8 (.i .i64)]⟩ (.s (.s .l (.c .l .l)) (.s (.b (.s .l (.c (.s .l .l) .l))) .l))))) (.s .l .l)))))
abbrev xW:CTt:=[(87,xB)]
theorem A7 (a0_a:Lt.Block) (a1_b:Lt.Block) (KK:Bool->Prop):o8 a0_a a1_b KK=bf ⟨Tryz.prog,eU,xW,[],noP⟩ Tryz.f42 ur [(.st .Block),(.st .Block)] [.bo] (a0_a,a1_b) KK:=by kernel_rfl
theorem Iv:Cont Tryz.prog 42 yc:=k0 ⟨Tryz.prog,eU,xW,[],noP⟩ (En.okc LO En.ok0) mixed (fn:=Tryz.f42) ur (by kernel_rfl) (by kernel_rfl) (fun (a0_a,a1_b) KK h=>Eq.mp (A7 a0_a a1_b KK) (Dk a0_a a1_b KK h))
def Ak:CKt:=aP [(.st .Func),(.st .Func)] [.bo] (fun x=>Lt.oX x.1 x.2)
def yl:An:=.s .l (.s (.j ⟨[2,3],[.loc 2,.loc 3],[],[.sl 42 .bo]⟩ .l (.c (.s .l .l) .l)) (.s (.s .l (.b (.lp ⟨[2,3],[.loc 2,.loc 3],[],[.sl 5 (.i .i64)]⟩ (.s (.s .l (.c .l .l)) (.s (.b (.s .l (.c (.s .l .l) .l))) .l))))) (.s .l .l)))
abbrev Bp:CTt:=[(20,tk),(42,yc)]
theorem Ds (a0_a:Lt.Func) (a1_b:Lt.Func) (KK:Bool->Prop):sY a0_a a1_b KK=bf ⟨Tryz.prog,eU,Bp,[],noP⟩ Tryz.f21 yl [(.st .Func),(.st .Func)] [.bo] (a0_a,a1_b) KK:=by kernel_rfl
theorem ML:Cont Tryz.prog 21 Ak:=k0 ⟨Tryz.prog,eU,Bp,[],noP⟩ (En.okc BE (En.okc Iv En.ok0)) mixed (fn:=Tryz.f21) yl (by kernel_rfl) (by kernel_rfl) (fun (a0_a,a1_b) KK h=>Eq.mp (Ds a0_a a1_b KK) (Gk a0_a a1_b KK h))
def Vt:CKt:=aP [(.st .Program),(.st .Program)] [.bo] (fun x=>Lt.Same x.1 x.2)
def OX:An:=.s .l (.s (.j ⟨[2,3],[.loc 2,.loc 3],[],[.sl 47 .bo]⟩ .l (.c (.s .l .l) .l)) (.s (.s .l (.b (.lp ⟨[2,3],[.loc 2,.loc 3],[],[.sl 5 (.i .i64)]⟩ (.s (.s .l (.c .l .l)) (.s (.b (.j ⟨[2,3,5],[.loc 2,.loc 3],[],[.sl 83 .bo]⟩ .l (.c (.s .l .l) .l))) .l))))) (.s (.s .l (.b (.lp ⟨[2,3],[.loc 2,.loc 3],[],[.sl 6 (.i .i64)]⟩ (.s (.s .l (.c .l .l)) (.s (.b (.s .l (.c (.s .l .l) .l))) .l))))) (.s (.s .l (.b (.lp ⟨[2,3],[.loc 2,.loc 3],[],[.sl 7 (.i .i64)]⟩ (.s (.s .l (.c .l .l)) (.s (.b (.s .l (.c (.s .l .l) .l))) .l))))) (.s .l .l)))))
abbrev Uu:CTt:=[(20,tk),(21,Ak)]
theorem Sb (a0_a:Lt.Program) (a1_b:Lt.Program) (KK:Bool->Prop):Mv a0_a a1_b KK=bf ⟨Tryz.prog,eU,Uu,[],noP⟩ Tryz.f9 OX [(.st .Program),(.st .Program)] [.bo] (a0_a,a1_b) KK:=by kernel_rfl
theorem aaQ:Cont Tryz.prog 9 Vt:=k0 ⟨Tryz.prog,eU,Uu,[],noP⟩ (En.okc BE (En.okc ML En.ok0)) mixed (fn:=Tryz.f9) OX (by kernel_rfl) (by kernel_rfl) (fun (a0_a,a1_b) KK h=>Eq.mp (Sb a0_a a1_b KK) (Ti a0_a a1_b KK h))
def Oa:CKt:=aP [.s] [.bo] (fun x=>Lt.kind x)
def Qp:An:=.s .l (.j ⟨[],[],[],[.sl 2 .bo]⟩ .l .l)
abbrev TP:CTt:=[(45,gV)]
theorem Rz (a0_s:List UInt8) (KK:Bool->Prop):Mr a0_s KK=bf ⟨Tryz.prog,eU,TP,[],noP⟩ Tryz.f89 Qp [.s] [.bo] a0_s KK:=by kernel_rfl
theorem Vi:Cont Tryz.prog 89 Oa:=k0 ⟨Tryz.prog,eU,TP,[],noP⟩ (En.okc il En.ok0) mixed (fn:=Tryz.f89) Qp (by kernel_rfl) (by kernel_rfl) (fun a0_s KK h=>Eq.mp (Rz a0_s KK) (UG a0_s KK h))
def Gn:CKt:=aP [(.sl (.st .Var)),(.i .i64)] [.bo] (fun x=>Lt.typed x.1 x.2)
def LI:An:=.s .l (.s (.s .l (.c (.s .l .l) .l)) (.s (.s .l (.b (.lp ⟨[11,12],[],[],[.sl 13 (.i .i64)]⟩ (.s .l (.s (.c .l .l) (.s (.b (.s .l (.j ⟨[11,12,13],[],[],[.sl 26 .bo]⟩ .l (.c (.s .l .l) .l)))) .l)))))) (.s .l .l)))
abbrev PM:CTt:=[(45,gV),(89,Oa)]
theorem OF (a0_l:List Lt.Var) (a1_most:Int) (KK:Bool->Prop):G4 a0_l a1_most KK=bf ⟨Tryz.prog,eU,PM,[],noP⟩ Tryz.f44 LI [(.sl (.st .Var)),(.i .i64)] [.bo] (a0_l,a1_most) KK:=by kernel_rfl
theorem O1:Cont Tryz.prog 44 Gn:=k0 ⟨Tryz.prog,eU,PM,[],noP⟩ (En.okc il (En.okc Vi En.ok0)) mixed (fn:=Tryz.f44) LI (by kernel_rfl) (by kernel_rfl) (fun (a0_l,a1_most) KK h=>Eq.mp (OF a0_l a1_most KK) (Sa a0_l a1_most KK h))
def o5:CKt:=aP [(.st .Arg)] [.bo] (fun x=>Lt.aJ x)
def uA:An:=.s .l (.s (.s .l (.b (.s .l (.c (.s .l .l) (.s .l (.c (.s .l .l) (.s .l (.c (.j ⟨[],[],[],[.sl 2 .bo]⟩ .l .l) (.s .l (.c (.s .l .l) (.s .l (.c (.j ⟨[],[],[],[.sl 2 .bo]⟩ .l .l) .l)))))))))))) (.s .l .l))
abbrev yb:CTt:=[(45,gV),(122,zh)]
theorem Cn (a0_a:Lt.Arg) (KK:Bool->Prop):px a0_a KK=bf ⟨Tryz.prog,eU,yb,[],noP⟩ Tryz.f95 uA [(.st .Arg)] [.bo] a0_a KK:=by kernel_rfl
theorem xG:Cont Tryz.prog 95 o5:=k0 ⟨Tryz.prog,eU,yb,[],noP⟩ (En.okc il (En.okc FM En.ok0)) mixed (fn:=Tryz.f95) uA (by kernel_rfl) (by kernel_rfl) (fun a0_a KK h=>Eq.mp (Cn a0_a KK) (CN a0_a KK h))
def kc:CKt:=aP [(.sl (.st .Arg)),.bo] [.bo] (fun x=>Lt.bx x.1 x.2)
def xq:An:=.s .l (.s (.s .l (.b (.lp ⟨[1,7,8],[],[],[.sl 9 (.i .i64)]⟩ (.s .l (.s (.c .l .l) (.s (.b (.s .l (.j ⟨[1,7,8,9],[],[],[.sl 24 .bo]⟩ .l (.c (.s .l .l) .l)))) .l)))))) (.s .l .l))
abbrev zH:CTt:=[(95,o5)]
theorem Dc (a0_l:List Lt.Arg) (a1_objs:Bool) (KK:Bool->Prop):sQ a0_l a1_objs KK=bf ⟨Tryz.prog,eU,zH,[],noP⟩ Tryz.f136 xq [(.sl (.st .Arg)),.bo] [.bo] (a0_l,a1_objs) KK:=by kernel_rfl
theorem nn:Cont Tryz.prog 136 kc:=k0 ⟨Tryz.prog,eU,zH,[],noP⟩ (En.okc xG En.ok0) mixed (fn:=Tryz.f136) xq (by kernel_rfl) (by kernel_rfl) (fun (a0_l,a1_objs) KK h=>Eq.mp (Dc a0_l a1_objs KK) (Gg a0_l a1_objs KK h))
def DR:CKt:=aP [(.st .Term)] [.bo] (fun x=>Lt.cr x)
def zA:An:=.s .l (.s (.s .l (.b (.lp ⟨[1,8,9],[.loc 1],[],[.sl 10 (.i .i64)]⟩ (.s .l (.s (.c .l .l) (.s (.b (.s .l (.s .l (.c (.s .l .l) .l)))) .l)))))) (.s .l (.s .l (.s (.s .l (.b (.s .l (.c (.j ⟨[],[],[],[.sl 2 .bo]⟩ .l .l) (.s .l (.c (.j ⟨[],[],[],[.sl 2 .bo]⟩ .l .l) (.s .l (.c (.j ⟨[],[],[],[.sl 2 .bo]⟩ .l .l) (.s .l (.c (.s .l .l) .l)))))))))) (.s .l .l)))))
abbrev DH:CTt:=[(45,gV),(136,kc)]
theorem GL (a0_t:Lt.Term) (KK:Bool->Prop):vR a0_t KK=bf ⟨Tryz.prog,eU,DH,[],noP⟩ Tryz.f119 zA [(.st .Term)] [.bo] a0_t KK:=by kernel_rfl
theorem Rl:Cont Tryz.prog 119 DR:=k0 ⟨Tryz.prog,eU,DH,[],noP⟩ (En.okc il (En.okc nn En.ok0)) mixed (fn:=Tryz.f119) zA (by kernel_rfl) (by kernel_rfl) (fun a0_t KK h=>Eq.mp (GL a0_t KK) (Lz a0_t KK h))
def Zi:CKt:=aP [(.st .Phi)] [.bo] (fun x=>Lt.phi x)
def UL:An:=.s .l (.s (.j ⟨[1],[.loc 1],[],[.sl 20 .bo]⟩ .l (.c (.s .l .l) .l)) (.s (.s .l (.b (.lp ⟨[22,23],[],[],[.sl 24 (.i .i64)]⟩ (.s .l (.s (.c .l .l) (.s (.b (.s .l (.j ⟨[22,23,24],[],[],[.sl 38 .bo]⟩ .l (.c (.s .l .l) .l)))) .l)))))) (.s .l .l)))
abbrev Y3:CTt:=[(45,gV),(136,kc)]
theorem Vj (a0_x:Lt.Phi) (KK:Bool->Prop):TI a0_x KK=bf ⟨Tryz.prog,eU,Y3,[],noP⟩ Tryz.f120 UL [(.st .Phi)] [.bo] a0_x KK:=by kernel_rfl
theorem ab3:Cont Tryz.prog 120 Zi:=k0 ⟨Tryz.prog,eU,Y3,[],noP⟩ (En.okc il (En.okc nn En.ok0)) mixed (fn:=Tryz.f120) UL (by kernel_rfl) (by kernel_rfl) (fun a0_x KK h=>Eq.mp (Vj a0_x KK) (Yp a0_x KK h))
def QC:CKt:=aP [(.st .Frame)] [.bo] (fun x=>Lt.frame x)
def LM:An:=.s .l (.s (.j ⟨[1],[.loc 1],[],[.sl 30 .bo]⟩ .l (.c (.s .l .l) .l)) (.s (.s .l (.b (.lp ⟨[32,33],[],[],[.sl 34 (.i .i64)]⟩ (.s .l (.s (.c .l .l) (.s (.b (.s .l (.j ⟨[32,33,34],[],[],[.sl 48 .bo]⟩ .l (.c (.s .l .l) .l)))) .l)))))) (.s .l .l)))
abbrev PU:CTt:=[(45,gV),(136,kc)]
theorem NU (a0_f:Lt.Frame) (KK:Bool->Prop):Fm a0_f KK=bf ⟨Tryz.prog,eU,PU,[],noP⟩ Tryz.f137 LM [(.st .Frame)] [.bo] a0_f KK:=by kernel_rfl
theorem Yj:Cont Tryz.prog 137 QC:=k0 ⟨Tryz.prog,eU,PU,[],noP⟩ (En.okc il (En.okc nn En.ok0)) mixed (fn:=Tryz.f137) LM (by kernel_rfl) (by kernel_rfl) (fun a0_f KK h=>Eq.mp (NU a0_f KK) (RM a0_f KK h))
def Qk:CKt:=aP [(.st .Instr)] [.bo] (fun x=>Lt.instr x)
def Kj:An:=.s .l (.s .l (.s (.j ⟨[1,3],[.loc 1,.loc 3],[],[.sl 52 .bo]⟩ .l (.c (.s .l .l) .l)) (.s (.j ⟨[1],[.loc 1],[],[.sl 84 .bo]⟩ .l (.c (.s .l .l) .l)) (.s (.j ⟨[1],[.loc 1],[],[.sl 92 .bo]⟩ .l (.c (.s .l .l) .l)) (.s (.s .l (.b (.lp ⟨[1,104,105],[.loc 1],[],[.sl 106 (.i .i64)]⟩ (.s .l (.s (.c .l .l) (.s (.b (.s .l (.s .l (.c (.s .l .l) .l)))) .l)))))) (.s (.s .l (.b (.lp ⟨[115,116],[],[],[.sl 117 (.i .i64)]⟩ (.s .l (.s (.c .l .l) (.s (.b (.s .l (.j ⟨[115,116,117],[],[],[.sl 136 .bo]⟩ .l (.c (.s .l .l) .l)))) .l)))))) (.s .l .l)))))))
abbrev PY:CTt:=[(45,gV),(72,Wv),(136,kc),(137,QC)]
theorem Nf (a0_i:Lt.Instr) (KK:Bool->Prop):Ic a0_i KK=bf ⟨Tryz.prog,eU,PY,[],noP⟩ Tryz.f121 Kj [(.st .Instr)] [.bo] a0_i KK:=by kernel_rfl
theorem X6:Cont Tryz.prog 121 Qk:=k0 ⟨Tryz.prog,eU,PY,[],noP⟩ (En.okc il (En.okc XN (En.okc nn (En.okc Yj En.ok0)))) mixed (fn:=Tryz.f121) Kj (by kernel_rfl) (by kernel_rfl) (fun a0_i KK h=>Eq.mp (Nf a0_i KK) (QQ a0_i KK h))
def Qa:CKt:=aP [(.st .Block)] [.bo] (fun x=>Lt.block x)
def JS:An:=.s .l (.s (.j ⟨[1],[.loc 1],[],[.sl 16 .bo]⟩ .l (.c (.s .l .l) .l)) (.s (.s .l (.b (.lp ⟨[1,18,19],[.loc 1],[],[.sl 20 (.i .i64)]⟩ (.s .l (.s (.c .l .l) (.s (.b (.s .l (.s .l (.c (.s .l .l) .l)))) .l)))))) (.s (.s .l (.b (.lp ⟨[29,30],[],[],[.sl 31 (.i .i64)]⟩ (.s .l (.s (.c .l .l) (.s (.b (.s .l (.s .l (.c (.s .l .l) .l)))) .l)))))) (.s .l .l))))
abbrev Pj:CTt:=[(45,gV),(119,DR),(120,Zi),(121,Qk)]
theorem M4 (a0_b:Lt.Block) (KK:Bool->Prop):FQ a0_b KK=bf ⟨Tryz.prog,eU,Pj,[],noP⟩ Tryz.f93 JS [(.st .Block)] [.bo] a0_b KK:=by kernel_rfl
theorem YM:Cont Tryz.prog 93 Qa:=k0 ⟨Tryz.prog,eU,Pj,[],noP⟩ (En.okc il (En.okc Rl (En.okc ab3 (En.okc X6 En.ok0)))) mixed (fn:=Tryz.f93) JS (by kernel_rfl) (by kernel_rfl) (fun a0_b KK h=>Eq.mp (M4 a0_b KK) (SY a0_b KK h))
def pW:CKt:=aP [(.st .Func)] [.bo] (fun x=>Lt.ax x)
def ox:An:=.s .l (.s (.j ⟨[1],[.loc 1],[],[.sl 39 .bo]⟩ .l (.c (.s .l .l) .l)) (.s .l (.s (.s .l (.b (.lp ⟨[41,42],[],[],[.sl 3 (.i .i64),.sl 43 (.i .i64)]⟩ (.s .l (.s (.c .l .l) (.s (.b (.s .l (.s (.j ⟨[3,5,41,42,43],[.loc 5],[],[.sl 56 .bo]⟩ .l (.c (.s .l .l) .l)) (.s .l (.j ⟨[3,41,42,43],[],[],[.sl 72 .bo]⟩ .l (.c (.s .l .l) .l)))))) .l)))))) (.s .l .l))))
abbrev oT:CTt:=[(44,Gn),(45,gV),(89,Oa),(93,Qa)]
theorem ut (a0_f:Lt.Func) (KK:Bool->Prop):kF a0_f KK=bf ⟨Tryz.prog,eU,oT,[],noP⟩ Tryz.f46 ox [(.st .Func)] [.bo] a0_f KK:=by kernel_rfl
theorem Ay:Cont Tryz.prog 46 pW:=k0 ⟨Tryz.prog,eU,oT,[],noP⟩ (En.okc O1 (En.okc il (En.okc Vi (En.okc YM En.ok0)))) mixed (fn:=Tryz.f46) ox (by kernel_rfl) (by kernel_rfl) (fun a0_f KK h=>Eq.mp (ut a0_f KK) (wJ a0_f KK h))
def xZ:CKt:=aP [(.st .Program)] [.bo] (fun x=>Lt.bb x)
def uE:An:=.s .l (.s (.j ⟨[1],[.loc 1],[],[.sl 30 .bo]⟩ .l (.c (.s .l .l) .l)) (.s (.s .l (.b (.lp ⟨[1,32,33],[.loc 1],[],[.sl 34 (.i .i64)]⟩ (.s .l (.s (.c .l .l) (.s (.b (.s .l (.j ⟨[1,32,33,34],[.loc 1],[],[.sl 47 .bo]⟩ .l (.c (.s .l .l) .l)))) .l)))))) (.s (.s .l (.b (.lp ⟨[1,50,51],[.loc 1],[],[.sl 52 (.i .i64)]⟩ (.s .l (.s (.c .l .l) (.s (.b (.s .l (.j ⟨[1,50,51,52],[.loc 1],[],[.sl 69 .bo]⟩ .l (.c (.s .l .l) .l)))) .l)))))) (.s (.s .l (.b (.lp ⟨[72,73],[],[],[.sl 74 (.i .i64)]⟩ (.s .l (.s (.c .l .l) (.s (.b (.s .l (.s .l (.c (.s .l .l) .l)))) .l)))))) (.s .l .l)))))
abbrev yk:CTt:=[(44,Gn),(45,gV),(46,pW)]
theorem Ah (a0_p:Lt.Program) (KK:Bool->Prop):qb a0_p KK=bf ⟨Tryz.prog,eU,yk,[],noP⟩ Tryz.f25 uE [(.st .Program)] [.bo] a0_p KK:=by kernel_rfl
theorem K8:Cont Tryz.prog 25 xZ:=k0 ⟨Tryz.prog,eU,yk,[],noP⟩ (En.okc O1 (En.okc il (En.okc Ay En.ok0))) mixed (fn:=Tryz.f25) uE (by kernel_rfl) (by kernel_rfl) (fun a0_p KK h=>Eq.mp (Ah a0_p KK) (CQ a0_p KK h))
def gu:CKt:=Gp [.ow [.fr,.fr]] (.st .Sheet) [(.sl .s)] [] (fun x y=>Lt.bq x y) (fun x y=>Lt.aT x y)
def tz:An:=.l
theorem As (a0_s:Lt.Sheet) (a1_words:List (List UInt8)) (KK:((Unit)×Lt.Sheet)->Prop):pI a0_s a1_words KK=sR ⟨Tryz.prog,eU,[],[],noP⟩ Tryz.f26 tz [.ow [.fr,.fr]] (.st .Sheet) [(.sl .s)] [] a0_s a1_words KK:=by kernel_rfl
theorem jh:Cont Tryz.prog 26 gu:=k2 ⟨Tryz.prog,eU,[],[],noP⟩ En.ok0 mixed (fn:=Tryz.f26) tz (by kernel_rfl) (by kernel_rfl) (fun a0_s a1_words hp KK h=>Eq.mp (As a0_s a1_words KK) (Dq a0_s a1_words hp KK h))
def qa:CKt:=Gp [.ow [.fr,.fr]] (.st .Sheet) [.s,(.sl (.st .Var))] [] (fun x y=>Lt.gX x y.1 y.2) (fun x y=>Lt.cO x y.1 y.2)
def tM:An:=.s .l (.b (.lp ⟨[0,1,8,9],[],[],[.sl 10 (.i .i64),.rt (.out 0) [.ow [.fr,.fr]] (.st .Sheet)]⟩ (.s .l (.s (.c .l .l) (.s (.b (.s .l .l)) .l)))))
abbrev yf:CTt:=[(26,gu)]
theorem BO (a0_s:Lt.Sheet) (a1_first:List UInt8) (a2_l:List Lt.Var) (KK:((Unit)×Lt.Sheet)->Prop):pL a0_s a1_first a2_l KK=sR ⟨Tryz.prog,eU,yf,[],noP⟩ Tryz.f27 tM [.ow [.fr,.fr]] (.st .Sheet) [.s,(.sl (.st .Var))] [] a0_s (a1_first,a2_l) KK:=by kernel_rfl
theorem yh:Cont Tryz.prog 27 qa:=k2 ⟨Tryz.prog,eU,yf,[],noP⟩ (En.okc jh En.ok0) mixed (fn:=Tryz.f27) tM (by kernel_rfl) (by kernel_rfl) (fun a0_s (a1_first,a2_l) hp KK h=>Eq.mp (BO a0_s a1_first a2_l KK) (Do a0_s a1_first a2_l hp KK h))
def Cx:CKt:=eK [(.i .i64)] [.s] (fun x=>Lt.gH x) (fun x=>Lt.number x)
def DZ:An:=.s .l (.s .l .l)
abbrev Iu:CTt:=[(47,pC)]
theorem I9 (a0_n:Int) (KK:(List UInt8)->Prop):IR a0_n KK=bf ⟨Tryz.prog,eU,Iu,[],noP⟩ Tryz.f28 DZ [(.i .i64)] [.s] a0_n KK:=by kernel_rfl
theorem Kz:Cont Tryz.prog 28 Cx:=k1 ⟨Tryz.prog,eU,Iu,[],noP⟩ (En.okc vi En.ok0) mixed (fn:=Tryz.f28) DZ (by kernel_rfl) (by kernel_rfl) (fun a0_n hp KK h=>Eq.mp (I9 a0_n KK) (Ob a0_n hp KK h))
def LN:CKt:=aP [(.i .i64)] [.s] (fun x=>Lt.dK x)
def DI:An:=.s .l (.s .l (.s .l (.s (.s .l (.b (.lp ⟨[3],[],[],[.ow 4 [.fr] .b8,.sl 5 (.i .i64)]⟩ (.s (.s .l (.c .l .l)) (.s (.b .l) .l))))) (.s .l .l))))
abbrev Jq:CTt:=[(122,zh)]
theorem Lf (a0_n:Int) (KK:(List UInt8)->Prop):Cl a0_n KK=bf ⟨Tryz.prog,eU,Jq,[],noP⟩ Tryz.f96 DI [(.i .i64)] [.s] a0_n KK:=by kernel_rfl
theorem Ve:Cont Tryz.prog 96 LN:=k0 ⟨Tryz.prog,eU,Jq,[],noP⟩ (En.okc FM En.ok0) mixed (fn:=Tryz.f96) DI (by kernel_rfl) (by kernel_rfl) (fun a0_n KK h=>Eq.mp (Lf a0_n KK) (N2 a0_n KK h))
def lW:CKt:=eK [(.st .Arg)] [.s] (fun x=>Lt.jm x) (fun x=>Lt.ac x)
def Cu:An:=.s .l (.s (.s .l (.c (.s .l .l) .l)) (.s (.s .l (.b (.s .l (.c (.s .l .l) (.s .l (.c (.s .l .l) (.s .l (.c (.s .l .l) (.s .l (.c (.s .l .l) .l)))))))))) (.s .l .l)))
abbrev D9:CTt:=[(47,pC),(95,o5),(96,LN)]
theorem If (a0_a:Lt.Arg) (KK:(List UInt8)->Prop):wi a0_a KK=bf ⟨Tryz.prog,eU,D9,[],noP⟩ Tryz.f48 Cu [(.st .Arg)] [.s] a0_a KK:=by kernel_rfl
theorem qB:Cont Tryz.prog 48 lW:=k1 ⟨Tryz.prog,eU,D9,[],noP⟩ (En.okc vi (En.okc xG (En.okc Ve En.ok0))) mixed (fn:=Tryz.f48) Cu (by kernel_rfl) (by kernel_rfl) (fun a0_a hp KK h=>Eq.mp (If a0_a KK) (Kq a0_a hp KK h))
def Wf:CKt:=eK [(.sl (.st .Arg))] [(.sl .s)] (fun x=>Lt.zj x) (fun x=>Lt.puts x)
def Qu:An:=.s .l (.s .l (.s (.s .l (.b (.lp ⟨[6,7],[],[],[.ow 3 [.fr] .s,.sl 8 (.i .i64)]⟩ (.s .l (.s (.c .l .l) (.s (.b (.s .l .l)) .l)))))) (.s .l .l)))
abbrev Uk:CTt:=[(48,lW)]
theorem QS (a0_l:List Lt.Arg) (KK:(List (List UInt8))->Prop):NP a0_l KK=bf ⟨Tryz.prog,eU,Uk,[],noP⟩ Tryz.f97 Qu [(.sl (.st .Arg))] [(.sl .s)] a0_l KK:=by kernel_rfl
theorem ZI:Cont Tryz.prog 97 Wf:=k1 ⟨Tryz.prog,eU,Uk,[],noP⟩ (En.okc qB En.ok0) mixed (fn:=Tryz.f97) Qu (by kernel_rfl) (by kernel_rfl) (fun a0_l hp KK h=>Eq.mp (QS a0_l KK) (WK a0_l hp KK h))
def xE:CKt:=Gp [.ow [.fr,.fr]] (.st .Sheet) [(.st .Instr)] [] (fun x y=>Lt.GH x y) (fun x y=>Lt.ra x y)
def tT:An:=.s .l (.s .l (.s .l (.j ⟨[0,3,4],[.loc 3,.loc 4,.out 0],[],[.ow 6 [.fr] .s]⟩ (.s .l (.c .l .l)) (.s .l (.s .l (.j ⟨[0,3],[.loc 3,.out 0],[],[.ow 6 [.fr] .s,.sl 7 (.sl .s)]⟩ (.b (.j ⟨[0,3,4,6,7],[.gh 32,.loc 3,.loc 4,.out 0],[],[.sl 36 .bo]⟩ .l (.c (.s .l .l) (.s .l (.c .l .l))))) (.s .l (.s (.s .l (.b (.lp ⟨[0,3,69,70],[.loc 3],[],[.sl 71 (.i .i64),.rt (.out 0) [.ow [.fr,.fr]] (.st .Sheet)]⟩ (.s .l (.s (.c .l .l) (.s (.b (.s .l (.j ⟨[0,3,9,69,70,71],[.loc 3,.loc 9,.out 0],[],[.ow 10 [.fr] .s]⟩ .l (.s (.s .l (.b (.lp ⟨[0,3,69,70,71,84,85],[.loc 3,.out 0],[],[.ow 10 [.fr] .s,.sl 86 (.i .i64)]⟩ (.s .l (.s (.c .l .l) (.j ⟨[0,3,69,70,71,84,85,86],[.loc 3,.out 0],[],[.ow 10 [.fr] .s]⟩ (.b (.s .l .l)) .l)))))) .l)))) .l)))))) (.s .l (.b (.lp ⟨[0,104,105],[],[],[.sl 106 (.i .i64),.rt (.out 0) [.ow [.fr,.fr]] (.st .Sheet)]⟩ (.s .l (.s (.c .l .l) (.j ⟨[0,104,105,106],[],[],[.rt (.out 0) [.ow [.fr,.fr]] (.st .Sheet)]⟩ (.b (.s .l .l)) .l))))))))))))))
abbrev xz:CTt:=[(26,gu),(28,Cx),(48,lW),(72,Wv),(97,Wf)]
theorem CF (a0_s:Lt.Sheet) (a1_i:Lt.Instr) (KK:((Unit)×Lt.Sheet)->Prop):pV a0_s a1_i KK=sR ⟨Tryz.prog,eU,xz,[],noP⟩ Tryz.f49 tT [.ow [.fr,.fr]] (.st .Sheet) [(.st .Instr)] [] a0_s a1_i KK:=by kernel_rfl
theorem KF:Cont Tryz.prog 49 xE:=k2 ⟨Tryz.prog,eU,xz,[],noP⟩ (En.okc jh (En.okc Kz (En.okc qB (En.okc XN (En.okc ZI En.ok0))))) mixed (fn:=Tryz.f49) tT (by kernel_rfl) (by kernel_rfl) (fun a0_s a1_i hp KK h=>Eq.mp (CF a0_s a1_i KK) (CU a0_s a1_i hp KK h))
def Al:CKt:=Gp [.ow [.fr,.fr]] (.st .Sheet) [(.st .Term)] [] (fun x y=>Lt.NC x y) (fun x y=>Lt.ui x y)
def xY:An:=.s .l (.s .l (.b (.s .l (.c .l (.s .l (.c .l (.s .l (.c .l .l))))))))
abbrev A9:CTt:=[(26,gu),(47,pC),(48,lW)]
theorem Dp (a0_s:Lt.Sheet) (a1_t:Lt.Term) (KK:((Unit)×Lt.Sheet)->Prop):sT a0_s a1_t KK=sR ⟨Tryz.prog,eU,A9,[],noP⟩ Tryz.f50 xY [.ow [.fr,.fr]] (.st .Sheet) [(.st .Term)] [] a0_s a1_t KK:=by kernel_rfl
theorem MI:Cont Tryz.prog 50 Al:=k2 ⟨Tryz.prog,eU,A9,[],noP⟩ (En.okc jh (En.okc vi (En.okc qB En.ok0))) mixed (fn:=Tryz.f50) xY (by kernel_rfl) (by kernel_rfl) (fun a0_s a1_t hp KK h=>Eq.mp (Dp a0_s a1_t KK) (GA a0_s a1_t hp KK h))
def oB:CKt:=Gp [.ow [.fr,.fr]] (.st .Sheet) [(.st .Func)] [] (fun x y=>Lt.pX x y) (fun x y=>Lt.iF x y)
def mG:An:=.s .l (.s .l (.s .l (.s .l (.s .l (.b (.lp ⟨[0,29,30],[],[],[.sl 31 (.i .i64),.rt (.out 0) [.ow [.fr,.fr]] (.st .Sheet)]⟩ (.s .l (.s (.c .l .l) (.s (.b (.s .l (.s .l (.s (.s .l (.b (.lp ⟨[0,5,29,30,31,41,42],[.loc 5],[],[.sl 43 (.i .i64),.rt (.out 0) [.ow [.fr,.fr]] (.st .Sheet)]⟩ (.s .l (.s (.c .l .l) (.s (.b (.s .l (.s .l (.s (.s .l (.b (.lp ⟨[0,5,29,30,31,41,42,43,51,52],[.loc 5,.out 0],[],[.ow 8 [.fr] .s,.sl 53 (.i .i64)]⟩ (.s .l (.s (.c .l .l) (.j ⟨[0,5,29,30,31,41,42,43,51,52,53],[.loc 5,.out 0],[],[.ow 8 [.fr] .s]⟩ (.b (.s .l .l)) .l)))))) .l)))) .l)))))) (.s (.s .l (.b (.lp ⟨[0,5,29,30,31,71,72],[.loc 5],[],[.sl 73 (.i .i64),.rt (.out 0) [.ow [.fr,.fr]] (.st .Sheet)]⟩ (.s .l (.s (.c .l .l) (.s (.b (.s .l .l)) .l)))))) .l))))) .l)))))))))
abbrev ou:CTt:=[(26,gu),(27,qa),(48,lW),(49,xE),(50,Al)]
theorem sf (a0_s:Lt.Sheet) (a1_f:Lt.Func) (KK:((Unit)×Lt.Sheet)->Prop):jl a0_s a1_f KK=sR ⟨Tryz.prog,eU,ou,[],noP⟩ Tryz.f29 mG [.ow [.fr,.fr]] (.st .Sheet) [(.st .Func)] [] a0_s a1_f KK:=by kernel_rfl
theorem yR:Cont Tryz.prog 29 oB:=k2 ⟨Tryz.prog,eU,ou,[],noP⟩ (En.okc jh (En.okc yh (En.okc qB (En.okc KF (En.okc MI En.ok0))))) mixed (fn:=Tryz.f29) mG (by kernel_rfl) (by kernel_rfl) (fun a0_s a1_f hp KK h=>Eq.mp (sf a0_s a1_f KK) (vB a0_s a1_f hp KK h))
def tu:CKt:=eK [(.st .Program)] [.s,(.i .i64)] (fun x=>Lt.iN x) (fun x=>Lt.aG x)
def xS:An:=.s .l (.s (.s .l (.c (.s .l .l) .l)) (.s .l (.j ⟨[1,4],[.loc 1],[],[.rt (.loc 16) [.ow [.fr,.fr]] (.st .Sheet)]⟩ (.s .l (.c .l .l)) (.s (.s .l (.b (.lp ⟨[1,4,23,24],[.loc 1],[],[.sl 25 (.i .i64),.rt (.loc 16) [.ow [.fr,.fr]] (.st .Sheet)]⟩ (.s .l (.s (.c .l .l) (.s (.b (.s .l (.s .l .l))) .l)))))) (.s .l (.s (.s .l (.b (.lp ⟨[1,4,44,45],[.loc 1],[],[.sl 46 (.i .i64),.rt (.loc 16) [.ow [.fr,.fr]] (.st .Sheet)]⟩ (.s .l (.s (.c .l .l) (.j ⟨[1,4,44,45,46],[.loc 1],[],[.rt (.loc 16) [.ow [.fr,.fr]] (.st .Sheet)]⟩ (.b (.s .l .l)) .l)))))) (.s (.s .l (.b (.lp ⟨[4,60,61],[],[],[.sl 62 (.i .i64),.rt (.loc 16) [.ow [.fr,.fr]] (.st .Sheet)]⟩ (.s .l (.s (.c .l .l) (.s (.b (.s .l .l)) .l)))))) (.s .l (.s (.s .l (.c (.s .l .l) .l)) (.s .l .l))))))))))
abbrev CC:CTt:=[(25,xZ),(26,gu),(27,qa),(28,Cx),(29,oB),(30,TV)]
theorem Dr (a0_p:Lt.Program) (KK:(List UInt8×Int)->Prop):ta a0_p KK=bf ⟨Tryz.prog,eU,CC,[],noP⟩ Tryz.f12 xS [(.st .Program)] [.s,(.i .i64)] a0_p KK:=by kernel_rfl
theorem Cc:Cont Tryz.prog 12 tu:=k1 ⟨Tryz.prog,eU,CC,[],noP⟩ (En.okc K8 (En.okc jh (En.okc yh (En.okc Kz (En.okc yR (En.okc aaV En.ok0)))))) mixed (fn:=Tryz.f12) xS (by kernel_rfl) (by kernel_rfl) (fun a0_p hp KK h=>Eq.mp (Dr a0_p KK) (Fh a0_p hp KK h))
def zB:CKt:=aP [(.st .Term)] [(.st .Program)] (fun x=>Lt.dl x)
def xT:An:=.s .l (.s .l .l)
theorem CY (a0_end:Lt.Term) (KK:Lt.Program->Prop):Co a0_end KK=bf ⟨Tryz.prog,eU,[],[],noP⟩ Tryz.f22 xT [(.st .Term)] [(.st .Program)] a0_end KK:=by kernel_rfl
theorem N7:Cont Tryz.prog 22 zB:=k0 ⟨Tryz.prog,eU,[],[],noP⟩ En.ok0 mixed (fn:=Tryz.f22) xT (by kernel_rfl) (by kernel_rfl) (fun a0_end KK h=>Eq.mp (CY a0_end KK) (Gu a0_end KK h))
def PI:CKt:=aP [] [.bo] (fun x=>Lt.awake )
def I7:An:=.s .l (.s .l (.s .l (.j ⟨[],[],[],[.sl 0 .bo]⟩ .l .l)))
abbrev QA:CTt:=[(12,tu),(22,zB)]
theorem Od (KK:Bool->Prop):FR KK=bf ⟨Tryz.prog,eU,QA,[],noP⟩ Tryz.f10 I7 [] [.bo] () KK:=by kernel_rfl
theorem Xy:Cont Tryz.prog 10 PI:=k0 ⟨Tryz.prog,eU,QA,[],noP⟩ (En.okc Cc (En.okc N7 En.ok0)) mixed (fn:=Tryz.f10) I7 (by kernel_rfl) (by kernel_rfl) (fun _ KK h=>Eq.mp (Od KK) (S0 KK h))
def pj:CKt:=aP [(.sl (.st .Var)),(.i .i64)] [(.i .i64)] (fun x=>Lt.cP x.1 x.2)
def uS:An:=.s .l (.s (.s .l (.c (.s .l .l) .l)) (.s .l (.s (.s .l (.b (.lp ⟨[0,1],[],[],[.sl 5 (.i .i64),.sl 6 (.i .i64)]⟩ (.s (.j ⟨[0,1,5,6],[],[],[.sl 23 .bo]⟩ .l (.c .l .l)) (.j ⟨[0,1,6],[],[],[.sl 5 (.i .i64)]⟩ (.b (.s .l (.s .l (.c .l .l)))) .l))))) (.s .l .l))))
theorem BM (a0_l:List Lt.Var) (a1_most:Int) (KK:Int->Prop):oQ a0_l a1_most KK=bf ⟨Tryz.prog,eU,[],[],noP⟩ Tryz.f23 uS [(.sl (.st .Var)),(.i .i64)] [(.i .i64)] (a0_l,a1_most) KK:=by kernel_rfl
theorem x8:Cont Tryz.prog 23 pj:=k0 ⟨Tryz.prog,eU,[],[],noP⟩ En.ok0 mixed (fn:=Tryz.f23) uS (by kernel_rfl) (by kernel_rfl) (fun (a0_l,a1_most) KK h=>Eq.mp (BM a0_l a1_most KK) (Dx a0_l a1_most KK h))
def xv:CKt:=aP [(.sl (.st .Arg)),(.i .i64)] [(.i .i64)] (fun x=>Lt.fe x.1 x.2)
def uP:An:=.s .l (.s (.s .l (.c (.s .l .l) .l)) (.s .l (.s (.s .l (.b (.lp ⟨[0,1],[],[],[.sl 5 (.i .i64),.sl 6 (.i .i64)]⟩ (.s (.j ⟨[0,1,5,6],[],[],[.sl 23 .bo]⟩ .l (.c .l .l)) (.s (.b .l) .l))))) (.s .l .l))))
theorem B8 (a0_l:List Lt.Arg) (a1_most:Int) (KK:Int->Prop):pO a0_l a1_most KK=bf ⟨Tryz.prog,eU,[],[],noP⟩ Tryz.f118 uP [(.sl (.st .Arg)),(.i .i64)] [(.i .i64)] (a0_l,a1_most) KK:=by kernel_rfl
theorem Lr:Cont Tryz.prog 118 xv:=k0 ⟨Tryz.prog,eU,[],[],noP⟩ En.ok0 mixed (fn:=Tryz.f118) uP (by kernel_rfl) (by kernel_rfl) (fun (a0_l,a1_most) KK h=>Eq.mp (B8 a0_l a1_most KK) (Da a0_l a1_most KK h))
def vj:CKt:=eK [(.st .Instr),(.i .i64)] [(.i .i64)] (fun x=>Lt.VK x.1 x.2) (fun x=>Lt.fI x.1 x.2)
def rG:An:=.s .l (.s (.j ⟨[1,2],[.loc 2],[],[.sl 20 .bo]⟩ .l (.c (.s .l .l) .l)) (.s .l (.j ⟨[1,2],[.loc 2],[],[.sl 5 (.i .i64)]⟩ (.s .l (.c .l .l)) (.j ⟨[1,2],[.loc 2],[],[.sl 5 (.i .i64)]⟩ (.s .l (.c .l .l)) (.s (.s .l (.b (.lp ⟨[1,2],[.loc 2],[],[.sl 5 (.i .i64),.sl 6 (.i .i64)]⟩ (.s (.j ⟨[1,2,5,6],[.loc 2],[],[.sl 61 .bo]⟩ .l (.c .l .l)) (.s (.b (.s .l (.j ⟨[1,2,6],[.loc 2],[],[.sl 5 (.i .i64)]⟩ (.s .l (.c .l .l)) (.s .l (.b (.lp ⟨[1,2,6],[.loc 2],[],[.sl 5 (.i .i64),.sl 7 (.i .i64)]⟩ (.s (.j ⟨[1,2,5,6,7],[.loc 2],[],[.sl 98 .bo]⟩ .l (.c .l .l)) (.j ⟨[1,2,6,7],[.loc 2],[],[.sl 5 (.i .i64)]⟩ (.b (.s .l (.s .l (.c .l .l)))) .l)))))))) .l))))) (.s (.s .l (.b (.lp ⟨[1,2],[.loc 2],[],[.sl 5 (.i .i64),.sl 8 (.i .i64)]⟩ (.s (.j ⟨[1,2,5,8],[.loc 2],[],[.sl 141 .bo]⟩ .l (.c .l .l)) (.j ⟨[1,2,8],[.loc 2],[],[.sl 5 (.i .i64)]⟩ (.b (.s .l (.s .l (.c .l .l)))) .l))))) (.s .l .l)))))))
abbrev ug:CTt:=[(118,xv)]
theorem yA (a0_x:Lt.Instr) (a1_most:Int) (KK:Int->Prop):nZ a0_x a1_most KK=bf ⟨Tryz.prog,eU,ug,[],noP⟩ Tryz.f88 rG [(.st .Instr),(.i .i64)] [(.i .i64)] (a0_x,a1_most) KK:=by kernel_rfl
theorem Gr:Cont Tryz.prog 88 vj:=k1 ⟨Tryz.prog,eU,ug,[],noP⟩ (En.okc Lr En.ok0) mixed (fn:=Tryz.f88) rG (by kernel_rfl) (by kernel_rfl) (fun (a0_x,a1_most) hp KK h=>Eq.mp (yA a0_x a1_most KK) (AE a0_x a1_most hp KK h))
def tx:CKt:=eK [(.st .Block),(.i .i64)] [(.i .i64)] (fun x=>Lt.WP x.1 x.2) (fun x=>Lt.fB x.1 x.2)
def rP:An:=.s .l (.s (.j ⟨[1,2],[.loc 2],[],[.sl 29 .bo]⟩ .l (.c (.s .l .l) .l)) (.s .l (.j ⟨[1,2],[.loc 2],[],[.sl 5 (.i .i64)]⟩ (.s .l (.c .l .l)) (.s (.s .l (.b (.lp ⟨[1,2],[.loc 2],[],[.sl 5 (.i .i64),.sl 6 (.i .i64)]⟩ (.s (.j ⟨[1,2,5,6],[.loc 2],[],[.sl 56 .bo]⟩ .l (.c .l .l)) (.s (.b .l) .l))))) (.s (.s .l (.b (.lp ⟨[1,2],[.loc 2],[],[.sl 5 (.i .i64),.sl 7 (.i .i64)]⟩ (.s (.j ⟨[1,2,5,7],[.loc 2],[],[.sl 78 .bo]⟩ .l (.c .l .l)) (.s (.b (.s .l (.s .l (.b (.lp ⟨[1,2,7],[.loc 2],[],[.sl 5 (.i .i64),.sl 8 (.i .i64)]⟩ (.s (.j ⟨[1,2,5,7,8],[.loc 2],[],[.sl 104 .bo]⟩ .l (.c .l .l)) (.j ⟨[1,2,7,8],[.loc 2],[],[.sl 5 (.i .i64)]⟩ (.b (.s .l (.s .l (.c .l .l)))) .l))))))) .l))))) (.s (.s .l (.b (.lp ⟨[1,2],[.loc 2],[],[.sl 5 (.i .i64),.sl 9 (.i .i64)]⟩ (.s (.j ⟨[1,2,5,9],[.loc 2],[],[.sl 147 .bo]⟩ .l (.c .l .l)) (.s (.b .l) .l))))) (.s .l .l)))))))
abbrev tC:CTt:=[(88,vj)]
theorem yu (a0_b:Lt.Block) (a1_most:Int) (KK:Int->Prop):nk a0_b a1_most KK=bf ⟨Tryz.prog,eU,tC,[],noP⟩ Tryz.f43 rP [(.st .Block),(.i .i64)] [(.i .i64)] (a0_b,a1_most) KK:=by kernel_rfl
theorem GI:Cont Tryz.prog 43 tx:=k1 ⟨Tryz.prog,eU,tC,[],noP⟩ (En.okc Gr En.ok0) mixed (fn:=Tryz.f43) rP (by kernel_rfl) (by kernel_rfl) (fun (a0_b,a1_most) hp KK h=>Eq.mp (yu a0_b a1_most KK) (Ai a0_b a1_most hp KK h))
def D2:CKt:=eK [(.st .Func),(.i .i64)] [(.i .i64)] (fun x=>Lt.Tz x.1 x.2) (fun x=>Lt.lx x.1 x.2)
def zo:An:=.s .l (.s (.s .l (.c (.s .l .l) .l)) (.s .l (.j ⟨[1,2],[.loc 2],[],[.sl 5 (.i .i64)]⟩ (.s .l (.c .l .l)) (.j ⟨[1,2],[.loc 2],[],[.sl 5 (.i .i64)]⟩ (.s .l (.c .l .l)) (.j ⟨[1,2],[.loc 2],[],[.sl 5 (.i .i64)]⟩ (.s .l (.c .l .l)) (.s (.s .l (.b (.lp ⟨[1,2],[.loc 2],[],[.sl 5 (.i .i64),.sl 6 (.i .i64)]⟩ (.s (.j ⟨[1,2,5,6],[.loc 2],[],[.sl 53 .bo]⟩ .l (.c .l .l)) (.s (.b .l) .l))))) (.s .l .l)))))))
abbrev EK:CTt:=[(23,pj),(43,tx)]
theorem GW (a0_f:Lt.Func) (a1_most:Int) (KK:Int->Prop):xe a0_f a1_most KK=bf ⟨Tryz.prog,eU,EK,[],noP⟩ Tryz.f24 zo [(.st .Func),(.i .i64)] [(.i .i64)] (a0_f,a1_most) KK:=by kernel_rfl
theorem SM:Cont Tryz.prog 24 D2:=k1 ⟨Tryz.prog,eU,EK,[],noP⟩ (En.okc x8 (En.okc GI En.ok0)) mixed (fn:=Tryz.f24) zo (by kernel_rfl) (by kernel_rfl) (fun (a0_f,a1_most) hp KK h=>Eq.mp (GW a0_f a1_most KK) (KC a0_f a1_most hp KK h))
def Zo:CKt:=eK [(.st .Program),(.i .i64)] [.bo] (fun x=>Lt.GB x.1 x.2) (fun x=>Lt.Few x.1 x.2)
def Vg:An:=.s .l (.s (.j ⟨[1,2],[.loc 2],[],[.sl 24 .bo]⟩ .l (.c (.s .l .l) .l)) (.s .l (.s (.s .l (.b (.lp ⟨[1,2],[.loc 2],[],[.sl 5 (.i .i64),.sl 6 (.i .i64)]⟩ (.s (.j ⟨[1,2,5,6],[.loc 2],[],[.sl 38 .bo]⟩ .l (.c .l .l)) (.j ⟨[1,2,6],[.loc 2],[],[.sl 5 (.i .i64)]⟩ (.b (.s .l (.s .l (.c .l .l)))) .l))))) (.s (.s .l (.b (.lp ⟨[1,2],[.loc 2],[],[.sl 5 (.i .i64),.sl 7 (.i .i64)]⟩ (.s (.j ⟨[1,2,5,7],[.loc 2],[],[.sl 72 .bo]⟩ .l (.c .l .l)) (.s (.b .l) .l))))) (.s (.s .l (.b (.lp ⟨[1,2],[.loc 2],[],[.sl 5 (.i .i64),.sl 8 (.i .i64)]⟩ (.s (.j ⟨[1,2,5,8],[.loc 2],[],[.sl 94 .bo]⟩ .l (.c .l .l)) (.s (.b .l) .l))))) (.s .l .l))))))
abbrev Zg:CTt:=[(23,pj),(24,D2)]
theorem Wq (a0_p:Lt.Program) (a1_most:Int) (KK:Bool->Prop):WC a0_p a1_most KK=bf ⟨Tryz.prog,eU,Zg,[],noP⟩ Tryz.f11 Vg [(.st .Program),(.i .i64)] [.bo] (a0_p,a1_most) KK:=by kernel_rfl
theorem acB:Cont Tryz.prog 11 Zo:=k1 ⟨Tryz.prog,eU,Zg,[],noP⟩ (En.okc x8 (En.okc SM En.ok0)) mixed (fn:=Tryz.f11) Vg (by kernel_rfl) (by kernel_rfl) (fun (a0_p,a1_most) hp KK h=>Eq.mp (Wq a0_p a1_most KK) (Yw a0_p a1_most hp KK h))
def xL:An:=.s .l (.s (.j ⟨[1,2],[.loc 2],[],[.sl 31 .bo]⟩ .l (.c (.s .l .l) .l)) (.s .l (.j ⟨[1],[],[],[]⟩ (.s .l (.c (.s .l (.j ⟨[1],[],[],[.sl 53 .bo]⟩ .l (.c (.s .l .l) .l))) .l)) (.s .l (.s (.s .l (.c (.s .l .l) .l)) (.s .l (.s .l (.s .l (.j ⟨[],[],[],[.sl 4 .bo]⟩ .l .l)))))))))
abbrev B5:CTt:=[(6,JK),(9,Vt),(10,PI),(11,Zo),(12,tu)]
theorem CR (a0_p:Lt.Program) (a1_s:List UInt8) (KK:Bool->Prop):sy a0_p a1_s KK=bf ⟨Tryz.prog,eU,B5,[],noP⟩ Tryz.f5 xL [(.st .Program),.s] [.bo] (a0_p,a1_s) KK:=by kernel_rfl
theorem KO:En.ok ⟨Tryz.prog,eU,B5,[],noP⟩:=(En.okc UJ (En.okc aaQ (En.okc Xy (En.okc acB (En.okc Cc En.ok0)))))
end Go.Am
end

section
namespace Go.Am
theorem TM {e:En} (he:e.ok) (hm:e.P.follows .mixedOrders=true) {fn:Func} {an:An} {ps rs:List U} {g:G} (hg:g.nt=fn.ntmps) (hc:kg fn.ntmps (fn.body.getD .skip)=true) {x:Fl ps} {KK:Fl rs->Prop} {K:AV->Prop}
  (hK:∀ r,KK r->K (fh rs r).toV) (h:bf e fn an ps rs x KK):AW e.P g (fn.body.getD .skip) (Iz e.P fn.results.toList K) ⟨aW 0 (iP ps x),[]⟩:=by
 have h1:=lO (e:=⟨e.P,e.E,e.cs,e.sh,fun _ _=>False⟩) he hm (g:=g) _ an (FP ps x) _ (by rw [hg]; exact hc) h
 have e0:(FP ps x).toS=⟨aW 0 (iP ps x),[]⟩:=bI.S_ext (iR 0 ps x) rfl
 rw [e0] at h1;refine pN h1 (fun ex s' a w h' hR=>?_);cases ex with
 | normal=>
  obtain ⟨t,rfl,ht⟩:=h';exact qO hK ht hR
 | ret=>
  obtain ⟨t,rfl,ht⟩:=h';exact qO hK ht hR
 | exit i=>exact h'.elim (fun t ht=>ht.2.elim)
 | panic c=>obtain ⟨_,_,_,_,hf⟩:=h'; exact hf.elim
 | _=>exact h'.elim
end Go.Am
end
