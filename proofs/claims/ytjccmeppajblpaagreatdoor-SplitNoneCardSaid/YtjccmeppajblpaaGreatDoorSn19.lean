/-
  Part 19: AmRd · AmCl17 · AmCl18 · AmKN · AmPk4.
-/
import Derived.Test.YtjccmeppajblpaaGreatDoorSn18
import Derived.MapFrom
set_option linter.unusedSimpArgs false
set_option linter.unusedVariables false
set_option linter.unusedSectionVars false
set_option linter.unnecessarySimpa false
section
namespace Go.Am
open Go Go.RowKit Go.Proofs Go.MapKept
def m0 (w:List UInt8) (df:Nat):List (List UInt8×Nat)->Nat
 | []=>df
 | (w0,f)::r=>if decide (w=w0)=true then f else m0 w df r
theorem sV (w:List UInt8) (K:Nat->Prop) (df:Nat):∀ tab,swP w K df tab=K (m0 w df tab)
 | []=>rfl
 | (w0,f)::r=>by
  rw [swP,m0,sV w K df r];split <;> rfl
section
variable {P:Program}
theorem KC {o:Oper} {a:Act} {next:Act->World->Prop} {Q:Exit->Act->World->Prop} {mt kt et:TypeId} {r:Nat} {es:Array MapEntry} {clock:Nat} {k:ByteArray} {v:Value} {w:World}
  (hm:P.underlying mt=some (.map kt et)) (hd:P.underlying kt=some .string) (hb:w.heap[r]? = some (.map es clock)) (hf:Instr.findNow .string (.string k) es.toList 0=some none)
  (h:∀ w2,w2.heap[r]? = some (.map (es.push { key:=.string k,val:=v,born:=clock }) (clock+1))->Below r w w2->next (a.put o.dst undef) w2) :
  o.upon P a next Q (((Instr.mapUpdate mt (.map (some r)) (.string k) v).run P w).andThen fun _ w'=>.ok Next.skip w'):=by
 have hrun:(Instr.mapUpdate mt (.map (some r)) (.string k) v).run P w=.ok () { w with heap:=w.heap.setIfInBounds r (.map (es.push { key:=.string k,val:=v,born:=clock }) (clock+1)) }:=by
  simp [Instr.mapUpdate,run_underlying hm,MapKept.run_getObj_map hb,run_checkKey hd (k:=.string k) trivial,run_findKey hd hf,run_setObj_map _ hb,Result.andThen]
 rw [hrun];exact h _ (heap_set hb).1 ⟨rfl,rfl,rfl,by simp,fun j hj=>(heap_set hb).2 j (by omega)⟩
theorem zZ (s:ByteArray):∀ (es:List MapEntry) (tab:List (List UInt8×Nat)) (i:Nat),es.map (fun e=>(e.key,e.val))=tab.map (fun x=>(Value.string ⟨x.1.toArray⟩,Value.func (.func x.2) #[] #[])) ->
  (∃ x∈tab,(∃ j,Instr.findNow .string (.string s) es i=some (some (j,.func (.func x.2) #[] #[])))/\∀ df,m0 s.data.toList df tab=x.2)\/(Instr.findNow .string (.string s) es i=some none/\∀ df,m0 s.data.toList df tab=df)
 | [],[],i,_=>.inr ⟨rfl,fun _=>rfl⟩
 | [],_::_,i,h=>by simp at h
 | _::_,[],i,h=>by simp at h
 | e::es,(k,f)::tab,i,h=>by
  obtain ⟨ek,ev,eb⟩:=e;simp only [List.map_cons,List.cons.injEq,Prod.mk.injEq] at h;obtain ⟨⟨rfl,rfl⟩,h⟩:=h;unfold Instr.findNow;simp only [Instr.sameNow];by_cases hc:s=⟨k.toArray⟩
  ·have e1:(s==⟨k.toArray⟩)=true:=(bytes_beq _ _).2 hc
   rw [e1];refine .inl ⟨(k,f),by simp,⟨i,rfl⟩,fun df=>?_⟩;have:s.data.toList=k:=by rw [hc]
   rw [m0,if_pos (by simp [this])]
  ·have e1:(s==⟨k.toArray⟩)=false:=by
    rw [Bool.eq_false_iff]; exact fun e=>hc ((bytes_beq _ _).1 e)
   rw [e1];have n1:¬ s.data.toList=k:=by
    rintro rfl
    exact hc (by obtain ⟨x⟩:=s; simp)
   rcases zZ s es tab (i+1) h with ⟨x,hx,hj,hp⟩ | ⟨h1,h2⟩
   ·exact .inl ⟨x,by simp [hx],hj,fun df=>by rw [m0,if_neg (by simpa using n1)]; exact hp df⟩
   ·exact .inr ⟨h1,fun df=>by rw [m0,if_neg (by simpa using n1)]; exact h2 df⟩
theorem CJ {mt kt et:TypeId} {r:Nat} {es:Array MapEntry} {clock:Nat} {s:ByteArray} {w:World} (hm:P.underlying mt=some (.map kt et)) (hd:P.underlying kt=some .string) (hz:(zeroValue et).run P w=.ok .nilFunc w)
  (hb:w.heap[r]? = some (.map es clock)) {x:Option (Nat×Value)} (hf:Instr.findNow .string (.string s) es.toList 0=some x) :
  (Instr.lookup mt (.map (some r)) (.string s) false).run P w=.ok (match x with | some (_,v)=>v | none=>.nilFunc) w:=by
 cases x with
 | none=>simp [Instr.lookup,run_underlying hm,MapKept.run_getObj_map hb,run_checkKey hd (k:=.string s) trivial,run_findKey hd hf,hz,Result.andThen]
 | some y=>obtain ⟨j,v⟩:=y; simp [Instr.lookup,run_underlying hm,MapKept.run_getObj_map hb,run_checkKey hd (k:=.string s) trivial,run_findKey hd hf,Result.andThen]
end
theorem OV {P:Program} {t:TypeId} {ps rs:Array TypeId} {va:Bool} {f:Fn} {a b:Array Value} (h:P.underlying t=some (.func ps rs va)) (w:World):(Op.equal t (.func f a b) .nilFunc).run P w=.ok false w:=by
 unfold Op.equal Op.maxDepth;rw [show (10000:Nat)=9999+1 from rfl];unfold Op.equalIn;simp only [Sem.run_bind,run_underlying h,Result.andThen];rfl
theorem DR {P:Program} {t:TypeId} {ps rs:Array TypeId} {va:Bool} (h:P.underlying t=some (.func ps rs va)) (w:World):(Op.equal t .nilFunc .nilFunc).run P w=.ok true w:=by
 unfold Op.equal Op.maxDepth;rw [show (10000:Nat)=9999+1 from rfl];unfold Op.equalIn;simp only [Sem.run_bind,run_underlying h,Result.andThen];rfl
theorem M5 {P:Program} {t:TypeId} {ps rs:Array TypeId} {va:Bool} {f:Fn} {a b:Array Value} (h:P.underlying t=some (.func ps rs va)) (w:World):(binOp .neq t (.func f a b) .nilFunc).run P w=.ok (.bool true) w:=by
 show (do pure (.bool (!(<- Op.equal t (.func f a b) .nilFunc))):Sem Value).run P w=_
 simp only [Sem.run_bind,OV h,Result.andThen];rfl
theorem CE {P:Program} {t:TypeId} {ps rs:Array TypeId} {va:Bool} (h:P.underlying t=some (.func ps rs va)) (w:World):(binOp .neq t .nilFunc .nilFunc).run P w=.ok (.bool false) w:=by
 show (do pure (.bool (!(<- Op.equal t .nilFunc .nilFunc))):Sem Value).run P w=_
 simp only [Sem.run_bind,DR h,Result.andThen];rfl
theorem Q5 {es0:Array MapEntry} {c0:Nat} {f:Option Obj} (hb:f=some (.map es0 c0)) {L:List (Value×Value)} (he:es0.toList.map (fun e=>(e.key,e.val))=L):∃ es c,f=some (.map es c)/\es.toList.map (fun e=>(e.key,e.val))=L:=⟨es0,c0,hb,he⟩
def JV:List (List UInt8×Nat):=[([115,115,97],75),([99,108,97,115,115],76),([102,105,101,108,100],77),([103,108,111,98,97,108],78),([101,120,116,101,114,110],79),([102,117,110,99],80),([112,97,114,97,109],81),([118,97,114],82),([98,108,111,99,107],83),([112,104,105],84),([97,116],85),([111,98,106],86),([106,117,109,112],87),([98,114,97,110,99,104],87),([114,101,116],87),([116,114,97,112],87)]
set_option maxRecDepth 100000 in
theorem yJ (s:ByteArray) (w:World) :
  Calls Tryz.prog 61 #[.string s] w fun e w'=>e=.returned (.func (.func (m0 s.data.toList 62 JV)) #[] #[])/\Below w.heap.size w w':=by
 have hmm:=@run_makeMap Tryz.prog
 have hm:=Tryz.underlying157
 have hd:=Tryz.underlying9
 have hz:∀ w,(zeroValue 143).run Tryz.prog w=.ok .nilFunc w:=Tryz.zeroValue143
 have hb:(w.alloc (.map #[] 0)).heap[w.heap.size]? = some (.map #[] 0):=(heap_alloc w _).1
 have hB:Below w.heap.size w (w.alloc (.map #[] 0)):=(Below.refl _ w).alloc (SN _) _
 go_enter Tryz.func61,Tryz.ntmps61
 go_wp2
 iterate 16
  refine KC hm hd hb (by kernel_rfl) (fun w2 hb2 hB2=>?_)
  replace hB:=hB.trans hB2
  replace hb:=hb2
  clear hB2 hb2
  go_wp2
 obtain ⟨es,c,hb,he⟩:=Q5 hb (L:=JV.map (fun x=>(Value.string ⟨x.1.toArray⟩,Value.func (.func x.2) #[] #[]))) (by kernel_rfl);rcases zZ s es.toList JV 0 he with ⟨x,hx,⟨j,hj⟩,hp⟩ | ⟨h1,hp⟩
 ·rw [CJ hm hd (hz _) hb hj];simp only [Result.andThen];rw [Oper.upon_value]
  go_wp2
  rw [M5 Tryz.underlying143];simp only [Result.andThen];rw [Oper.upon_value]
  go_wp2
  go_ret
  exact ⟨by rw [hp]; rfl,hB⟩
 ·rw [CJ hm hd (hz _) hb h1];simp only [Result.andThen];rw [Oper.upon_value]
  go_wp2
  rw [CE Tryz.underlying143];simp only [Result.andThen];rw [Oper.upon_value]
  go_wp2
  go_ret
  exact ⟨by rw [hp]; rfl,hB⟩
theorem QM {v:At} {x:List UInt8} (h:bh [.s] [v]=some x):v.noRf=true/\v.toV.isFz=true/\v.toV.map T.canon=.one (.c (.d (.str x))):=by
 obtain ⟨h1,h2,h3⟩:=cr h;refine ⟨by simpa using h1,by simpa using h2,?_⟩;have:[v.toV.map T.canon]=[AV.one (.c (.d (.str x)))]:=h3
 simpa using this
def n7:CKt:=swT JV 62
theorem Ec:Cont Tryz.prog 61 n7:=by
 refine ⟨fP (fn:=Tryz.f61) (by kernel_rfl) (by kernel_rfl) (by kernel_rfl),fun pk s ops k k' hk hc=>?_,fun g pk s a w H γ F1 ops k hX hops hc=>?_⟩
 ·unfold n7 swT at hc ⊢;dsimp only at hc ⊢;split at hc
  ·rw [sV] at hc ⊢;exact hk _ _ (bG _ _) hc
  ·exact hc.elim
 ·unfold n7 swT at hc;dsimp only at hc;obtain ⟨H1,F2,h1⟩:=bT (ops.map (evA s)) s H F1 hX;generalize aX s (ops.map (evA s))=s1 at hc h1;split at hc
  ·rename_i x hx;rw [sV] at hc
   match ops,hx with
   | [],hx=>simp [bh] at hx
   | [o],hx=>
    obtain ⟨_,hz,hcn⟩:=QM hx;have hop:ay o=true:=by simpa using hops
    have hv:=aD h1 hop
    rw [af hop] at hv;have hv2:=cZ bK (gY (w':=w) (γ':=γ) (m':=[]) (fun _ _ _ h=>h) hz hv)
    rw [hcn] at hv2;obtain ⟨e1,_⟩:=jJ hv2;show Calls _ _ #[a.eval o] w _
    rw [e1];refine (yJ ⟨x.toArray⟩ w).mono ?_;rintro e w' ⟨rfl,hb⟩
    rw [mL];have hsame:∀ b,tot F2 s1.toS.m b≠0->w'.heap[b]? = w.heap[b]? := fun b hb'=>hb.block b (h1.mem.lt b hb')
    have hKp:=bS (w':=w') h1.mem hsame
    have hmem:Mem w' H1 γ s1.toS.m F2:=by
     refine ⟨fun b o y hy=>?_,fun x hx=>aF hKp (fun _ _ _ h=>h) rfl (fun b hb'=>hsame b (by have:=aQ (F:=F2) hx b; omega)) (h1.mem.roots x hx),h1.mem.keys,h1.mem.le1,fun b hb'=>by have:=h1.mem.lt b hb'; have:=hb.size; omega,h1.mem.nofz⟩;have hlt:b<w.heap.size:=World.block_lt_of_cell? _ _ (h1.mem.agree b o y hy)
     rw [hb.cell hlt];exact h1.mem.agree b o y hy
    have hFr:Fr w H1 (tot F2 s1.toS.m) w' H1 (tot F2 s1.toS.m):=
     ⟨hb.size,hb.os,hb.tape,hb.output,fun b hb' _=>hb.block b hb',fun _ _ _ h=>h,fun b o h2 h3=>absurd h3 h2,fun b hb=>.inl hb,fun b h0=>h0.of_block (hb.block b h0.lt),gk.2⟩
    exact .inl ⟨_,s1,sct (.v (.func (.func (m0 x 62 JV)) #[] #[])),H1,γ,F2,rfl,hc,⟨fun _=>rfl,0,rfl,rfl⟩,dP h1 hmem hFr (fun i=>bu hKp (fun _ _ _ h=>h) (h1.t i)) (fun _=>rfl)⟩
   | _::_::_,hx=>simp [bh] at hx
  ·exact hc.elim
end Go.Am
end

section
namespace Go.Am
open Go Go.Proofs
set_option maxRecDepth 100000
def eU:Ut:=[(113,(.st .Var)),(43,(.st .Block)),(25,(.st .Func)),(62,(.st .Class)),(64,(.st .Extern)),(46,(.st .Phi)),(72,(.st .Instr)),(9,.s),(48,(.st .In)),(55,(.st .Pair)),(5,.b8),(38,(.st .Arg)),(124,(.st .Frame)),(128,(.st .Virt)),(80,(.st .way)),(4,.bo),(104,(.st .Line)),(126,(.st .Bind)),(22,(.sl (.st .Var))),(133,(.sl (.i .i64))),(3,(.i .i64))]
def eS:List (TypeId×List Sh):=[(25,[.fr,.fr,.ow [.fr,.fr],.ow [.fr,.fr],.ow [.fr,.ow [.fr,.fr],.ow [.fr,.fr,.fr,.fr,.ow [.fr,.fr,.fr,.fr],.ow [.fr,.fr]],.fr,.fr,.fr,.fr,.fr,.fr]]),(32,[.fr,.ow [.fr,.ow [.fr,.fr]],.ow [.fr,.fr],.ow [.fr,.fr],.ow [.fr,.fr,.ow [.fr,.fr],.ow [.fr,.fr],.ow [.fr,.ow [.fr,.fr],.ow [.fr,.fr,.fr,.fr,.ow [.fr,.fr,.fr,.fr],.ow [.fr,.fr]],.fr,.fr,.fr,.fr,.fr,.fr]]]),(43,[.fr,.ow [.fr,.fr],.ow [.fr,.fr,.fr,.fr,.ow [.fr,.fr,.fr,.fr],.ow [.fr,.fr]],.fr,.fr,.fr,.fr,.fr,.fr]),(62,[.fr,.ow [.fr,.fr]]),(72,[.fr,.fr,.fr,.fr,.ow [.fr,.fr,.fr,.fr],.ow [.fr,.fr]]),(98,[.fr,.ow [.fr,.ow [.fr,.fr]],.ow [.fr,.fr],.ow [.fr,.fr],.ow [.fr,.fr,.ow [.fr,.fr],.ow [.fr,.fr],.ow [.fr,.ow [.fr,.fr],.ow [.fr,.fr,.fr,.fr,.ow [.fr,.fr,.fr,.fr],.ow [.fr,.fr]],.fr,.fr,.fr,.fr,.fr,.fr]],.fr,.fr,.fr,.fr]),(99,[.fr,.ow [.fr,.ow [.fr,.fr]],.ow [.fr,.fr],.ow [.fr,.fr],.ow [.fr,.fr,.ow [.fr,.fr],.ow [.fr,.fr],.ow [.fr,.ow [.fr,.fr],.ow [.fr,.fr,.fr,.fr,.ow [.fr,.fr,.fr,.fr],.ow [.fr,.fr]],.fr,.fr,.fr,.fr,.fr,.fr]],.fr,.fr,.fr,.fr])]
abbrev eP:List (TypeId×List Sh):=[(133,[.ow [.fr]])]
theorem EA (x:Int) (h:(decide (-9223372036854775808<=x)&&decide (x<=9223372036854775807))=true):Lt.lR x:=by
 simp only [SL,decide_eq_true_eq] at h;unfold Lt.lR Lt.inR;omega
abbrev shR:List Sh:=[.fr,.ow [.fr,.ow [.fr,.fr]],.ow [.fr,.fr],.ow [.fr,.fr],.ow [.fr,.fr,.ow [.fr,.fr],.ow [.fr,.fr],.ow [.fr,.ow [.fr,.fr],.ow [.fr,.fr,.fr,.fr,.ow [.fr,.fr,.fr,.fr],.ow [.fr,.fr]],.fr,.fr,.fr,.fr,.fr,.fr]],.fr,.fr,.fr,.fr]
noncomputable def x58:Cl 58:=⟨fnB [.s,.s] [.sl .s] (fun x=>decide (x.1.length < 4294967281)&&decide (1<=x.2.length)) (fun x=>Lt.zP x.1 x.2),_,yz (fun x h=>by simp only [SL,decide_eq_true_eq] at h; exact h),MP⟩
noncomputable def x59:Cl 59:=⟨fnB [.s,.s] [.s,.s,.bo] (fun x=>decide (x.1.length < 4294967281)) (fun x=>Lt.RV x.1 x.2),_,yz (fun x h=>of_decide_eq_true h),QP⟩
noncomputable def x74:Cl 74:=clL eU eP [] 80 Tryz.f74 [.b8] [.bo] (by kernel_rfl) (by kernel_rfl)
noncomputable def x60:Cl 60:=clP eU eP [⟨_,x74⟩] 80 Tryz.f60 [.s] [(.sl .s),.bo] (by kernel_rfl) (by kernel_rfl)
noncomputable def x36:Cl 36:=clP eU eP [⟨_,x58⟩,⟨_,x59⟩,⟨_,x60⟩] 80 Tryz.f36 [.s] [(.sl (.st .Line)),(.i .i64),(.i .i64)] (by kernel_rfl) (by kernel_rfl)
noncomputable def x63:Cl 63:=clN eU eS [] 80 Tryz.f63 (by kernel_rfl) (by kernel_rfl)
noncomputable def x75:Cl 75:=clM eU eS [⟨_,x63⟩] 80 Tryz.f75 [(.sl .s)] [] shR (.st .Reader) (by kernel_rfl) (by kernel_rfl)
noncomputable def x64:Cl 64:=clL eU eS [] 80 Tryz.f64 [(.sl (.i .i64)),(.i .i64)] [.bo] (by kernel_rfl) (by kernel_rfl)
noncomputable def x39:Cl 39:=clN eU eS [⟨_,x64⟩,⟨_,x63⟩] 80 Tryz.f39 (by kernel_rfl) (by kernel_rfl)
noncomputable def Sv:Cl 120:=clL eU eP [] 80 Tryz.f120 [.b8] [.bo] (by kernel_rfl) (by kernel_rfl)
noncomputable def Sw:Cl 121:=clL eU eP [] 80 Tryz.f121 [.s] [.bo] (by kernel_rfl) (by kernel_rfl)
noncomputable def Sl:Cl 122:=clL eU eP [] 80 Tryz.f122 [.b8] [.bo] (by kernel_rfl) (by kernel_rfl)
noncomputable def PS:Cl 110:=clL eU eP [⟨_,Sv⟩,⟨_,Sw⟩,⟨_,Sl⟩] 80 Tryz.f110 [.s] [.bo] (by kernel_rfl) (by kernel_rfl)
noncomputable def x88:Cl 88:=clL eU eS [⟨_,PS⟩,⟨_,x63⟩] 80 Tryz.f88 [.s] [.s] (by kernel_rfl) (by kernel_rfl)
noncomputable def sx:Cl 102:=clN eU eS [] 80 Tryz.f102 (by kernel_rfl) (by kernel_rfl)
noncomputable def x76:Cl 76:=clM eU eS [⟨_,x39⟩,⟨_,x63⟩,⟨_,x88⟩,⟨_,sx⟩] 80 Tryz.f76 [(.sl .s)] [] shR (.st .Reader) (by kernel_rfl) (by kernel_rfl)
noncomputable def MI:Cl 103:=clL eU eS [⟨_,PS⟩,⟨_,x63⟩] 80 Tryz.f103 [.s] [.s] (by kernel_rfl) (by kernel_rfl)
noncomputable def x77:Cl 77:=clM eU eS [⟨_,x39⟩,⟨_,x63⟩,⟨_,x88⟩,⟨_,MI⟩,⟨_,sx⟩] 80 Tryz.f77 [(.sl .s)] [] shR (.st .Reader) (by kernel_rfl) (by kernel_rfl)
noncomputable def x78:Cl 78:=clM eU eS [⟨_,x39⟩,⟨_,x63⟩,⟨_,x88⟩,⟨_,MI⟩,⟨_,sx⟩] 80 Tryz.f78 [(.sl .s)] [] shR (.st .Reader) (by kernel_rfl) (by kernel_rfl)
noncomputable def x56:Cl 56:=clF [.i .i64] [.s] Lt.bP (fun x=>decide (-9223372036854775808<=x)&&decide (x<=9223372036854775807)) (fun x h=>EA x h) Bp
noncomputable def Oc:Cl 109:=clL eU eP [⟨_,x56⟩] 80 Tryz.f109 [.s] [(.i .i64),.bo] (by kernel_rfl) (by kernel_rfl)
noncomputable def RZ:Cl 104:=clL eU eS [⟨_,Oc⟩,⟨_,x63⟩] 80 Tryz.f104 [.s,(.i .i64),(.i .i64)] [(.i .i64)] (by kernel_rfl) (by kernel_rfl)
noncomputable def x79:Cl 79:=clM eU eS [⟨_,x39⟩,⟨_,x63⟩,⟨_,x88⟩,⟨_,RZ⟩,⟨_,sx⟩] 80 Tryz.f79 [(.sl .s)] [] shR (.st .Reader) (by kernel_rfl) (by kernel_rfl)
noncomputable def x80:Cl 80:=clM eU eS [⟨_,x39⟩,⟨_,x63⟩,⟨_,x88⟩,⟨_,MI⟩,⟨_,sx⟩] 80 Tryz.f80 [(.sl .s)] [] shR (.st .Reader) (by kernel_rfl) (by kernel_rfl)
noncomputable def OE:Cl 105:=clN eU eS [] 80 Tryz.f105 (by kernel_rfl) (by kernel_rfl)
noncomputable def x81:Cl 81:=clM eU eS [⟨_,x39⟩,⟨_,x63⟩,⟨_,x88⟩,⟨_,MI⟩,⟨_,OE⟩,⟨_,sx⟩] 80 Tryz.f81 [(.sl .s)] [] shR (.st .Reader) (by kernel_rfl) (by kernel_rfl)
noncomputable def x82:Cl 82:=clM eU eS [⟨_,x39⟩,⟨_,x63⟩,⟨_,x88⟩,⟨_,MI⟩,⟨_,OE⟩,⟨_,sx⟩] 80 Tryz.f82 [(.sl .s)] [] shR (.st .Reader) (by kernel_rfl) (by kernel_rfl)
noncomputable def Ss:Cl 106:=clN eU eS [] 80 Tryz.f106 (by kernel_rfl) (by kernel_rfl)
noncomputable def x83:Cl 83:=clM eU eS [⟨_,Ss⟩,⟨_,x63⟩,⟨_,x88⟩,⟨_,OE⟩,⟨_,sx⟩] 80 Tryz.f83 [(.sl .s)] [] shR (.st .Reader) (by kernel_rfl) (by kernel_rfl)
noncomputable def Sm:Cl 128:=⟨fnB [.s,.s] [.s,.bo] (fun _=>true) (fun x=>Lt.PH x.1 x.2),_,Mu,Oe⟩
noncomputable def Se:Cl 129:=⟨fnB [.s,.b8] [.i .i64] (fun _=>true) (fun x=>Lt.L7 x.1 x.2),_,Mu,MN⟩
noncomputable def Sq:Cl 130:=clL eU eP [] 80 Tryz.f130 [(.i .i64)] [(.i .i64)] (by kernel_rfl) (by kernel_rfl)
noncomputable def SC:Cl 127:=clL eU eP [⟨_,Sm⟩,⟨_,Se⟩,⟨_,Sq⟩] 80 Tryz.f127 [.s] [(.i .i64),.bo] (by kernel_rfl) (by kernel_rfl)
noncomputable def SF:Cl 126:=clP eU eP [⟨_,SC⟩,⟨_,Oc⟩] 80 Tryz.f126 [.s] [(.st .Arg),.bo] (by kernel_rfl) (by kernel_rfl)
noncomputable def SH:Cl 119:=clP eU eP [⟨_,PS⟩,⟨_,Oc⟩,⟨_,SF⟩] 80 Tryz.f119 [.s] [(.st .Arg),.bo] (by kernel_rfl) (by kernel_rfl)
noncomputable def O1:Cl 107:=clP eU eS [⟨_,SH⟩,⟨_,x63⟩] 80 Tryz.f107 [.s,.bo] [(.st .Arg)] (by kernel_rfl) (by kernel_rfl)
noncomputable def x92:Cl 92:=clN eU eS [⟨_,sx⟩] 80 Tryz.f92 (by kernel_rfl) (by kernel_rfl)
noncomputable def x93:Cl 93:=clN eU eS [⟨_,OE⟩] 80 Tryz.f93 (by kernel_rfl) (by kernel_rfl)
noncomputable def x84:Cl 84:=clM eU eS [⟨_,x39⟩,⟨_,x63⟩,⟨_,x88⟩,⟨_,O1⟩,⟨_,sx⟩,⟨_,x92⟩,⟨_,x93⟩] 80 Tryz.f84 [(.sl .s)] [] shR (.st .Reader) (by kernel_rfl) (by kernel_rfl)
noncomputable def Rm:Cl 108:=clN eU eS [⟨_,x93⟩] 80 Tryz.f108 (by kernel_rfl) (by kernel_rfl)
noncomputable def x85:Cl 85:=clM eU eS [⟨_,x39⟩,⟨_,x63⟩,⟨_,x88⟩,⟨_,RZ⟩,⟨_,O1⟩,⟨_,sx⟩,⟨_,Rm⟩] 80 Tryz.f85 [(.sl .s)] [] shR (.st .Reader) (by kernel_rfl) (by kernel_rfl)
noncomputable def x91:Cl 91:=clP eU eS [⟨_,O1⟩] 80 Tryz.f91 [(.sl .s),.bo] [(.sl (.st .Arg))] (by kernel_rfl) (by kernel_rfl)
noncomputable def x86:Cl 86:=clM eU eS [⟨_,x39⟩,⟨_,x63⟩,⟨_,x88⟩,⟨_,x91⟩,⟨_,Rm⟩,⟨_,sx⟩] 80 Tryz.f86 [(.sl .s)] [] shR (.st .Reader) (by kernel_rfl) (by kernel_rfl)
noncomputable def x87:Cl 87:=clM eU eS [⟨_,x39⟩,⟨_,x63⟩,⟨_,x88⟩,⟨_,O1⟩,⟨_,Oc⟩,⟨_,x93⟩] 80 Tryz.f87 [(.sl .s)] [] shR (.st .Reader) (by kernel_rfl) (by kernel_rfl)
noncomputable def Sj:Cl 111:=clL eU eS [] 80 Tryz.f111 [.s,(.i .i64)] [.s] (by kernel_rfl) (by kernel_rfl)
noncomputable def x90:Cl 90:=clP eU eS [⟨_,Sj⟩] 80 Tryz.f90 [(.i .i64)] [(.st .Form),.bo] (by kernel_rfl) (by kernel_rfl)
noncomputable def x89:Cl 89:=clL eU eS [⟨_,x90⟩] 80 Tryz.f89 [.s] [(.i .i64),.bo] (by kernel_rfl) (by kernel_rfl)
noncomputable def x62:Cl 62:=clM eU eS [⟨_,x39⟩,⟨_,x88⟩,⟨_,x89⟩,⟨_,x63⟩,⟨_,x90⟩,⟨_,x91⟩,⟨_,x92⟩,⟨_,x93⟩] 80 Tryz.f62 [(.sl .s)] [] shR (.st .Reader) (by kernel_rfl) (by kernel_rfl)
noncomputable def x61:Cl 61:=⟨swB JV 62,_,PO,Ec⟩
noncomputable def x38:Cl 38:=clM eU eS [⟨_,x61⟩,⟨_,x75⟩,⟨_,x76⟩,⟨_,x77⟩,⟨_,x78⟩,⟨_,x79⟩,⟨_,x80⟩,⟨_,x81⟩,⟨_,x82⟩,⟨_,x83⟩,⟨_,x84⟩,⟨_,x85⟩,⟨_,x86⟩,⟨_,x87⟩,⟨_,x62⟩] 80 Tryz.f38 [(.sl .s)] [] shR (.st .Reader) (by kernel_rfl) (by kernel_rfl)
noncomputable abbrev lParse:ClS:=[⟨_,x36⟩,⟨_,x38⟩,⟨_,x39⟩]
def lt (s:String):List UInt8:=s.toUTF8.data.toList
abbrev KY:List UInt8:=[102,117,110,99,32,102,32,105,110,116,10,98,108,111,99,107,32,97,10,98,114,97,110,99,104,32,120,32,98,32,99,10,98,108,111,99,107,32,98,10,106,117,109,112,32,99,10,98,108,111,99,107,32,99,10,114,101,116,32,49,10]
abbrev Ro:Lt.Func:=⟨[102],[105,110,116],[],[],[⟨[97],[],[],⟨2,⟨1,[120],0⟩,[[98],[99]],0⟩⟩,⟨[98],[],[],⟨1,⟨0,[],0⟩,[[99]],0⟩⟩,⟨[99],[],[],⟨3,⟨2,[],1⟩,[],0⟩⟩]⟩
abbrev qs:Lt.Program:=⟨false,[],[],[],[Ro]⟩
theorem t17:yi 80 (clE eU eS lParse) Tryz.f13 (kLs 4 (Tryz.f13.body.getD .skip)) (kRs (4+1) (Tryz.f13.body.getD .skip)) [.s] [.st .Program,.i .i64,.i .i64] KY (fun y=>decide (y=(qs,0,0)))=true:=by kernel_rfl
end Go.Am
end

section
namespace Go.Am
open Go Go.Proofs
set_option maxRecDepth 100000
abbrev eA:List (TypeId×List Sh):=[(43,nu)]
abbrev LR:List (Fl [.s]×Fl [.st .Program,.i .i64,.i .i64]):=[(KY,(qs,0,0))]
theorem IQ:Cont Tryz.prog 13 (bZ [.s] [.st .Program,.i .i64,.i .i64] (fun x=>∃ y,(x,y)∈LR) (FY LR (qs,0,0))):=
 BF (n:=80) eU eS lParse 4 Tryz.f13 (ps:=[.s]) (rs:=[.st .Program,.i .i64,.i .i64]) LR Tryz.func13 (by kernel_rfl) (by kernel_rfl) (by kernel_rfl) (by kernel_rfl) (by kernel_rfl) (by kernel_rfl) (by kernel_rfl) (by kernel_rfl) (by kernel_rfl) (by kernel_rfl) (by kernel_rfl) (by kernel_rfl) (qs,0,0) (fun x hx=>by
  obtain rfl:=SY.1 hx;exact t17)
noncomputable def x13:Cl 13:=⟨fnB [.s] [.st .Program,.i .i64,.i .i64] (fun x=>decide (x=KY)) (FY LR (qs,0,0)),_,yz (pre:=fun x=>∃ y,(x,y)∈LR) (fun x h=>⟨(qs,0,0),SY.2 (by rw [of_decide_eq_true h])⟩),IQ⟩
noncomputable def x51:Cl 51:=clL eU eP [] 80 Tryz.f51 [(.st .Func),.s] [(.i .i64),.bo] (by kernel_rfl) (by kernel_rfl)
noncomputable def x50:Cl 50:=clP eU eP [⟨_,x51⟩] 80 Tryz.f50 [(.st .Func)] [(.sl (.sl (.i .i64)))] (by kernel_rfl) (by kernel_rfl)
noncomputable def x97:Cl 97:=clL eU eP [] 80 Tryz.f97 [(.sl (.i .i64)),(.i .i64)] [(.i .i64)] (by kernel_rfl) (by kernel_rfl)
noncomputable def x69:Cl 69:=clL eU eP [⟨_,x97⟩] 80 Tryz.f69 [(.sl (.i .i64)),(.i .i64)] [.bo] (by kernel_rfl) (by kernel_rfl)
noncomputable def x49:Cl 49:=clP eU eP [⟨_,x69⟩] 80 Tryz.f49 [(.sl (.sl (.i .i64)))] [(.sl (.sl (.i .i64)))] (by kernel_rfl) (by kernel_rfl)
noncomputable def x25:Cl 25:=clP eU eP [⟨_,x50⟩,⟨_,x49⟩,⟨_,x51⟩] 80 Tryz.f25 [(.st .Func)] [(.sl (.st .way))] (by kernel_rfl) (by kernel_rfl)
noncomputable def x9:Cl 9:=clP eU eP [⟨_,x25⟩] 80 Tryz.f9 [(.st .Func)] [(.sl (.st .Pair))] (by kernel_rfl) (by kernel_rfl)
noncomputable def x24:Cl 24:=clN eU eP [] 80 Tryz.f24 (by kernel_rfl) (by kernel_rfl)
def Gz (l:List Lt.Block):Bool:=Nat.ble l.length 1000000&&l.all fun b=>Nat.ble b.End.To.length 1000000&&(Nat.ble b.Phis.length 1000000&&b.Phis.all fun p=>Nat.ble p.Ins.length 1000000)
theorem uP {l:List Lt.Block} (h:Gz l=true):(∀ r∈l.map (ai (.st .Block)),yp r)/\eN 9 (l.map (ai (.st .Block)))/\(l.map (ai (.st .Block))).length<=1000000:=by
 unfold Gz at h;simp only [SL] at h;refine ⟨fun r hr=>?_,fun r hr=>?_,by rw [List.length_map]; exact SP h.1⟩
 ·obtain ⟨b,hb,rfl⟩:=S9.1 hr;have h2:=SQ.1 h.2 b hb
  simp only [SL] at h2;refine ⟨⟨b.End.To.map (ai .s),rfl,fun y hy=>?_,by rw [List.length_map]; exact SP h2.1⟩,b.Phis.map (ai (.st .Phi)),rfl,fun y hy=>?_,by rw [List.length_map]; exact SP h2.2.1,fun p hp=>?_⟩
  ·obtain ⟨z,_,rfl⟩:=S9.1 hy;exact ⟨rfl,fun x hx=>by obtain rfl:=SY.1 hx; rfl⟩
  ·obtain ⟨z,_,rfl⟩:=S9.1 hy;exact ⟨rfl,SQ.1 rfl⟩
  ·obtain ⟨z,hz,rfl⟩:=S9.1 hp;have h3:=SQ.1 h2.2.2 z hz
   refine ⟨z.Ins.map (ai (.st .In)),rfl,fun y hy=>?_,by rw [List.length_map]; exact SP h3⟩;obtain ⟨q,_,rfl⟩:=S9.1 hy;exact ⟨rfl,SQ.1 rfl⟩
 ·obtain ⟨b,hb,rfl⟩:=S9.1 hr;exact ⟨rfl,SQ.1 rfl⟩
noncomputable def x26:Cl 26:=⟨QI nu (.st .Block) (.gh 800000) Gz,EL nu (.st .Block) (.gh 800000) (fun l=>Gz l=true),OB (fun _ h=>h),Dd rfl Tryz.func26 (by kernel_rfl) (by kernel_rfl) (fun l v w H hl hv hag=>oO hag hv (uP hl).1 (uP hl).2.1 (uP hl).2.2)⟩
noncomputable def x27:Cl 27:=clN eU eP [⟨_,x56⟩] 80 Tryz.f27 (by kernel_rfl) (by kernel_rfl)
noncomputable def x28:Cl 28:=clN eU eP [] 80 Tryz.f28 (by kernel_rfl) (by kernel_rfl)
noncomputable def x8:Cl 8:=clP eU eA [⟨_,x24⟩,⟨_,x25⟩,⟨_,x26⟩,⟨_,x27⟩,⟨_,x28⟩] 80 Tryz.f8 [(.st .Func)] [(.st .Func)] (by kernel_rfl) (by kernel_rfl)
noncomputable def x14:Cl 14:=clL eU eP [⟨_,x24⟩,⟨_,x27⟩] 80 Tryz.f14 [(.st .Func),.s] [.s] (by kernel_rfl) (by kernel_rfl)
noncomputable abbrev lAw:ClS:=[⟨_,x13⟩,⟨_,x9⟩,⟨_,x8⟩,⟨_,x14⟩]
theorem SB:A4 80 (clE eU eA lAw) Tryz.f5 [] [.bo] () (fun z=>decide (z=true))=true:=by kernel_rfl
theorem NM:Cont Tryz.prog 5 (bX [] [.bo] (fun _=>true)):=Mr eU eA lAw 80 Tryz.f5 [.bo] true Tryz.func5 (by kernel_rfl) SB
end Go.Am
end

section
namespace Go.Am
open Go Go.Proofs
set_option maxRecDepth 100000
abbrev eF:List (TypeId×List Sh):=[(4000089,[])]
abbrev eH:List (TypeId×List Sh):=[(5000003,[])]
abbrev eR:List (TypeId×List Sh):=[(3000035,[])]
def wH:CKt:=bX [] [.bo] (fun x=>Lt.sK )
theorem JL:Cont Tryz.prog 5 wH:=NM
def AX:CKt:=EL [.fr,.ow [.fr,.ow [.fr,.fr,.fr,.fr]],.fr,.fr,.fr,.fr,.fr,.ow [.fr],.fr] (.st .Block) (.gh 800000) (fun x=>Lt.pV x)
theorem Kr:Cont Tryz.prog 26 AX:=Dd rfl Tryz.func26 (by kernel_rfl) (by kernel_rfl) (fun l v w H hl hv hag=>oO hag hv (kX hl).1 (kX hl).2.1 (kX hl).2.2)
theorem En.ok0 {P:Program} {u:Ut} {sh:List (TypeId×List Sh)} {pk:PKt}:En.ok ⟨P,u,[],sh,pk⟩:=fun _ h=>by cases h
theorem En.okc {P:Program} {u:Ut} {sh:List (TypeId×List Sh)} {pk:PKt} {f:Nat} {C:CKt} {cs:CTt} (h:Cont P f C) (hs:En.ok ⟨P,u,cs,sh,pk⟩):En.ok ⟨P,u,(f,C)::cs,sh,pk⟩:=by
 intro x hx;rcases SS.1 hx with rfl | hx
 ·exact h
 ·exact hs x hx
theorem mixed:Tryz.prog.follows .mixedOrders=true:=by kernel_rfl
def okF (n:Nat) (fn:Func):Bool:=fn.name != "runtime.NumGoroutine" && (fn.body.isSome&&(Nat.ble n fn.ntmps&&eQ fn.ntmps (fn.body.getD .skip)))
theorem cN {n:Nat} {fn:Func} (h:okF n fn=true):(fn.name == "runtime.NumGoroutine")=false/\fn.body.isSome=true/\Nat.ble n fn.ntmps=true/\eQ fn.ntmps (fn.body.getD .skip)=true:=by
 unfold okF at h;simp only [SL,bne,TM] at h;exact h
theorem k0 (e:En) (he:e.ok) (hm:e.P.follows .mixedOrders=true) {f:Nat} {fn:Func} (an:An) {ps rs:List U} {F:Fl ps->Fl rs} (hf:e.P.funcs[f]? = some fn) (hb:okF ps.length fn=true) (law:∀ x,∀ KK:Fl rs->Prop,KK (F x)->bq e fn an ps rs x KK):Cont e.P f (bX ps rs F):=
 vI he hm hf (cN hb).1 (cN hb).2.1 (cN hb).2.2.1 (cN hb).2.2.2 law
theorem k1 (e:En) (he:e.ok) (hm:e.P.follows .mixedOrders=true) {f:Nat} {fn:Func} (an:An) {ps rs:List U} {pre:Fl ps->Prop} {F:Fl ps->Fl rs} (hf:e.P.funcs[f]? = some fn) (hb:okF ps.length fn=true) (law:∀ x,pre x->∀ KK:Fl rs->Prop,KK (F x)->bq e fn an ps rs x KK):Cont e.P f (bZ ps rs pre F):=
 xB he hm hf (cN hb).1 (cN hb).2.1 (cN hb).2.2.1 (cN hb).2.2.2 law
theorem k2 (e:En) (he:e.ok) (hm:e.P.follows .mixedOrders=true) {f:Nat} {fn:Func} (an:An) {sh:List Sh} {u:U} {ps rs:List U} {pre:El u->Fl ps->Prop} {Fn:El u->Fl ps->Fl rs×El u} (hf:e.P.funcs[f]? = some fn) (hb:okF (ps.length+1) fn=true) (law:∀ x y,pre x y->∀ KK:Fl rs×El u->Prop,KK (Fn x y)->M1 e fn an sh u ps rs x y KK):Cont e.P f (NV sh u ps rs pre Fn):=
 Kl he hm hf (cN hb).1 (cN hb).2.1 (cN hb).2.2.1 (cN hb).2.2.2 law
theorem k3 (e:En) (he:e.ok) (hm:e.P.follows .mixedOrders=true) {f:Nat} {fn:Func} (an:An) {u:U} {ps:List U} {pre:List (El u)->Fl ps->Prop} {Fn:List (El u)->Fl ps->List (El u)} (hf:e.P.funcs[f]? = some fn) (hb:okF (ps.length+1) fn=true) (law:∀ x y,pre x y->∀ KK:List (El u)->Prop,KK (Fn x y)->M7 e fn an u ps x y KK):Cont e.P f (Np u ps pre Fn):=
 KO he hm hf (cN hb).1 (cN hb).2.1 (cN hb).2.2.1 (cN hb).2.2.2 law
theorem k6 (e:En) (he:e.ok) (hm:e.P.follows .mixedOrders=true) {f:Nat} {fn:Func} (an:An) {ps rs:List U} {pre:Fl ps->Prop} {F:Fl ps->Fl rs} (hf:e.P.funcs[f]? = some fn) (hb:okF ps.length fn=true) (law:∀ x,pre x->∀ KK:Fl rs->Prop,KK (F x)->bq e fn an ps rs x KK):Cont e.P f (Ck ps rs pre F):=
 Jd he hm hf (cN hb).1 (cN hb).2.1 (cN hb).2.2.1 (cN hb).2.2.2 law
theorem k7 (e:En) (he:e.ok) (hm:e.P.follows .mixedOrders=true) {f:Nat} {fn:Func} (an:An) {ps:List U} {n:Sn} {sh:List Sh} {i:Nat} {pre:Fl ps->Prop} {F:Fl ps->wA n} (hf:e.P.funcs[f]? = some fn) (hb:okF ps.length fn=true) (law:∀ x,pre x->∀ KK:wA n->Prop,KK (F x)->Me e fn an ps n sh x KK):Cont e.P f (FU ps n sh i pre F):=
 Jo he hm hf (cN hb).1 (cN hb).2.1 (cN hb).2.2.1 (cN hb).2.2.2 law
theorem k8 (e:En) (he:e.ok) (hm:e.P.follows .mixedOrders=true) {f:Nat} {fn:Func} (an:An) {ps rs:List U} {pre:Fl ps->Prop} {post:Fl ps->Fl rs->Prop} (hf:e.P.funcs[f]? = some fn) (hb:okF ps.length fn=true) (law:∀ x,pre x->∀ KK:Fl rs->Prop,(∀ y,post x y->KK y)->bq e fn an ps rs x KK):Cont e.P f (s7 ps rs pre post):=
 Lq he hm hf (cN hb).1 (cN hb).2.1 (cN hb).2.2.1 (cN hb).2.2.2 law
abbrev sh3:List Sh:=[.fr,.fr,.fr,.fr,.ow [.fr,.fr,.fr,.fr],.ow [.fr,.fr]]
abbrev sh0:List Sh:=[.fr,.fr,.ow [.fr,.fr],.ow [.fr,.fr],.ow [.fr,.ow [.fr,.fr],.ow sh3,.fr,.fr,.fr,.fr,.fr,.fr]]
abbrev sh2:List Sh:=[.fr,.ow [.fr,.ow [.fr,.fr]],.ow [.fr,.fr],.ow [.fr,.fr],.ow sh0,.fr,.fr,.fr,.fr]
abbrev sh1:List Sh:=[.fr,.fr,.fr,.fr,.ow [.fr,.ow [.fr,.ow [.fr,.fr,.fr,.fr]],.fr,.fr,.fr,.fr,.fr,.ow [.fr],.fr]]
def rH:CKt:=bX [(.sl (.st .Var)),(.i .i64)] [(.i .i64)] (fun x=>Lt.dW x.1 x.2)
def pJ:An:=.s .l (.s (.s .l (.c (.s .l .l) .l)) (.s .l (.s (.s .l (.b (.lp ⟨[0,1],[],[],[.sl 5 (.i .i64),.sl 6 (.i .i64)]⟩ (.s (.j ⟨[0,1,5,6],[],[],[.sl 23 .bo]⟩ .l (.c .l .l)) (.j ⟨[0,1,6],[],[],[.sl 5 (.i .i64)]⟩ (.b (.s .l (.s .l (.c .l .l)))) .l))))) (.s .l .l))))
theorem vD (a0_l:List Lt.Var) (a1_most:Int) (KK:Int->Prop):l4 a0_l a1_most KK=bq ⟨Tryz.prog,eU,[],[],noP⟩ Tryz.f40 pJ [(.sl (.st .Var)),(.i .i64)] [(.i .i64)] (a0_l,a1_most) KK:=by kernel_rfl
theorem Db:Cont Tryz.prog 40 rH:=k0 ⟨Tryz.prog,eU,[],[],noP⟩ En.ok0 mixed (fn:=Tryz.f40) pJ (by kernel_rfl) (by kernel_rfl) (fun (a0_l,a1_most) KK h=>Eq.mp (vD a0_l a1_most KK) (wi a0_l a1_most KK h))
def ru:CKt:=bX [(.sl (.st .Arg)),(.i .i64)] [(.i .i64)] (fun x=>Lt.dk x.1 x.2)
def pg:An:=.s .l (.s (.s .l (.c (.s .l .l) .l)) (.s .l (.s (.s .l (.b (.lp ⟨[0,1],[],[],[.sl 5 (.i .i64),.sl 6 (.i .i64)]⟩ (.s (.j ⟨[0,1,5,6],[],[],[.sl 23 .bo]⟩ .l (.c .l .l)) (.s (.b .l) .l))))) (.s .l .l))))
theorem tF (a0_l:List Lt.Arg) (a1_most:Int) (KK:Int->Prop):ml a0_l a1_most KK=bq ⟨Tryz.prog,eU,[],[],noP⟩ Tryz.f95 pg [(.sl (.st .Arg)),(.i .i64)] [(.i .i64)] (a0_l,a1_most) KK:=by kernel_rfl
theorem CD:Cont Tryz.prog 95 ru:=k0 ⟨Tryz.prog,eU,[],[],noP⟩ En.ok0 mixed (fn:=Tryz.f95) pg (by kernel_rfl) (by kernel_rfl) (fun (a0_l,a1_most) KK h=>Eq.mp (tF a0_l a1_most KK) (ww a0_l a1_most KK h))
def pd:CKt:=bZ [(.st .Instr),(.i .i64)] [(.i .i64)] (fun x=>Lt.KD x.1 x.2) (fun x=>Lt.dN x.1 x.2)
def np:An:=.s .l (.s (.j ⟨[1,2],[.loc 2],[],[.sl 20 .bo]⟩ .l (.c (.s .l .l) .l)) (.s .l (.j ⟨[1,2],[.loc 2],[],[.sl 5 (.i .i64)]⟩ (.s .l (.c .l .l)) (.j ⟨[1,2],[.loc 2],[],[.sl 5 (.i .i64)]⟩ (.s .l (.c .l .l)) (.s (.s .l (.b (.lp ⟨[1,2],[.loc 2],[],[.sl 5 (.i .i64),.sl 6 (.i .i64)]⟩ (.s (.j ⟨[1,2,5,6],[.loc 2],[],[.sl 61 .bo]⟩ .l (.c .l .l)) (.s (.b (.s .l (.j ⟨[1,2,6],[.loc 2],[],[.sl 5 (.i .i64)]⟩ (.s .l (.c .l .l)) (.s .l (.b (.lp ⟨[1,2,6],[.loc 2],[],[.sl 5 (.i .i64),.sl 7 (.i .i64)]⟩ (.s (.j ⟨[1,2,5,6,7],[.loc 2],[],[.sl 98 .bo]⟩ .l (.c .l .l)) (.j ⟨[1,2,6,7],[.loc 2],[],[.sl 5 (.i .i64)]⟩ (.b (.s .l (.s .l (.c .l .l)))) .l)))))))) .l))))) (.s (.s .l (.b (.lp ⟨[1,2],[.loc 2],[],[.sl 5 (.i .i64),.sl 8 (.i .i64)]⟩ (.s (.j ⟨[1,2,5,8],[.loc 2],[],[.sl 141 .bo]⟩ .l (.c .l .l)) (.j ⟨[1,2,8],[.loc 2],[],[.sl 5 (.i .i64)]⟩ (.b (.s .l (.s .l (.c .l .l)))) .l))))) (.s .l .l)))))))
abbrev oJ:CTt:=[(95,ru)]
theorem sf (a0_x:Lt.Instr) (a1_most:Int) (KK:Int->Prop):kV a0_x a1_most KK=bq ⟨Tryz.prog,eU,oJ,[],noP⟩ Tryz.f65 np [(.st .Instr),(.i .i64)] [(.i .i64)] (a0_x,a1_most) KK:=by kernel_rfl
theorem zB:Cont Tryz.prog 65 pd:=k1 ⟨Tryz.prog,eU,oJ,[],noP⟩ (En.okc CD En.ok0) mixed (fn:=Tryz.f65) np (by kernel_rfl) (by kernel_rfl) (fun (a0_x,a1_most) hp KK h=>Eq.mp (sf a0_x a1_most KK) (vO a0_x a1_most hp KK h))
def pq:CKt:=bZ [(.st .Block),(.i .i64)] [(.i .i64)] (fun x=>Lt.KX x.1 x.2) (fun x=>Lt.dB x.1 x.2)
def nf:An:=.s .l (.s (.j ⟨[1,2],[.loc 2],[],[.sl 29 .bo]⟩ .l (.c (.s .l .l) .l)) (.s .l (.j ⟨[1,2],[.loc 2],[],[.sl 5 (.i .i64)]⟩ (.s .l (.c .l .l)) (.s (.s .l (.b (.lp ⟨[1,2],[.loc 2],[],[.sl 5 (.i .i64),.sl 6 (.i .i64)]⟩ (.s (.j ⟨[1,2,5,6],[.loc 2],[],[.sl 56 .bo]⟩ .l (.c .l .l)) (.s (.b .l) .l))))) (.s (.s .l (.b (.lp ⟨[1,2],[.loc 2],[],[.sl 5 (.i .i64),.sl 7 (.i .i64)]⟩ (.s (.j ⟨[1,2,5,7],[.loc 2],[],[.sl 78 .bo]⟩ .l (.c .l .l)) (.s (.b (.s .l (.s .l (.b (.lp ⟨[1,2,7],[.loc 2],[],[.sl 5 (.i .i64),.sl 8 (.i .i64)]⟩ (.s (.j ⟨[1,2,5,7,8],[.loc 2],[],[.sl 104 .bo]⟩ .l (.c .l .l)) (.j ⟨[1,2,7,8],[.loc 2],[],[.sl 5 (.i .i64)]⟩ (.b (.s .l (.s .l (.c .l .l)))) .l))))))) .l))))) (.s (.s .l (.b (.lp ⟨[1,2],[.loc 2],[],[.sl 5 (.i .i64),.sl 9 (.i .i64)]⟩ (.s (.j ⟨[1,2,5,9],[.loc 2],[],[.sl 147 .bo]⟩ .l (.c .l .l)) (.s (.b .l) .l))))) (.s .l .l)))))))
abbrev pC:CTt:=[(65,pd)]
theorem sn (a0_b:Lt.Block) (a1_most:Int) (KK:Int->Prop):kC a0_b a1_most KK=bq ⟨Tryz.prog,eU,pC,[],noP⟩ Tryz.f41 nf [(.st .Block),(.i .i64)] [(.i .i64)] (a0_b,a1_most) KK:=by kernel_rfl
theorem yx:Cont Tryz.prog 41 pq:=k1 ⟨Tryz.prog,eU,pC,[],noP⟩ (En.okc zB En.ok0) mixed (fn:=Tryz.f41) nf (by kernel_rfl) (by kernel_rfl) (fun (a0_b,a1_most) hp KK h=>Eq.mp (sn a0_b a1_most KK) (vh a0_b a1_most hp KK h))
def wU:CKt:=bZ [(.st .Func),(.i .i64)] [(.i .i64)] (fun x=>Lt.G0 x.1 x.2) (fun x=>Lt.jG x.1 x.2)
def tU:An:=.s .l (.s (.s .l (.c (.s .l .l) .l)) (.s .l (.j ⟨[1,2],[.loc 2],[],[.sl 5 (.i .i64)]⟩ (.s .l (.c .l .l)) (.j ⟨[1,2],[.loc 2],[],[.sl 5 (.i .i64)]⟩ (.s .l (.c .l .l)) (.j ⟨[1,2],[.loc 2],[],[.sl 5 (.i .i64)]⟩ (.s .l (.c .l .l)) (.s (.s .l (.b (.lp ⟨[1,2],[.loc 2],[],[.sl 5 (.i .i64),.sl 6 (.i .i64)]⟩ (.s (.j ⟨[1,2,5,6],[.loc 2],[],[.sl 53 .bo]⟩ .l (.c .l .l)) (.s (.b .l) .l))))) (.s .l .l)))))))
abbrev xP:CTt:=[(40,rH),(41,pq)]
theorem zz (a0_f:Lt.Func) (a1_most:Int) (KK:Int->Prop):qf a0_f a1_most KK=bq ⟨Tryz.prog,eU,xP,[],noP⟩ Tryz.f15 tU [(.st .Func),(.i .i64)] [(.i .i64)] (a0_f,a1_most) KK:=by kernel_rfl
theorem JE:Cont Tryz.prog 15 wU:=k1 ⟨Tryz.prog,eU,xP,[],noP⟩ (En.okc Db (En.okc yx En.ok0)) mixed (fn:=Tryz.f15) tU (by kernel_rfl) (by kernel_rfl) (fun (a0_f,a1_most) hp KK h=>Eq.mp (zz a0_f a1_most KK) (Bz a0_f a1_most hp KK h))
def LO:CKt:=bX [(.st .Func)] [.bo] (fun x=>Lt.JC x)
def G3:An:=.s .l (.s (.s .l (.c (.s .l .l) .l)) (.s (.s .l (.b (.lp ⟨[1],[.loc 1],[],[.sl 3 (.i .i64)]⟩ (.s (.s .l (.c .l .l)) (.s (.b (.s (.j ⟨[1,3],[.loc 1],[],[.sl 34 .bo]⟩ .l (.c (.s .l .l) .l)) (.s .l (.b (.lp ⟨[1,3],[.loc 1],[],[.sl 4 (.i .i64)]⟩ (.s (.s .l (.c .l .l)) (.s (.b (.s .l (.c (.s .l .l) .l))) .l))))))) .l))))) (.s .l .l)))
theorem IW (a0_f:Lt.Func) (KK:Bool->Prop):EK a0_f KK=bq ⟨Tryz.prog,eU,[],[],noP⟩ Tryz.f16 G3 [(.st .Func)] [.bo] a0_f KK:=by kernel_rfl
theorem QO:Cont Tryz.prog 16 LO:=k0 ⟨Tryz.prog,eU,[],[],noP⟩ En.ok0 mixed (fn:=Tryz.f16) G3 (by kernel_rfl) (by kernel_rfl) (fun a0_f KK h=>Eq.mp (IW a0_f KK) (MV a0_f KK h))
def sT:CKt:=bX [(.st .Func),.s] [(.i .i64),.bo] (fun x=>Lt.iU x.1 x.2)
def wY:An:=.s .l (.s (.s .l (.b (.lp ⟨[1,2],[.loc 2],[],[.sl 6 (.i .i64)]⟩ (.s (.s .l (.c .l .l)) (.s (.b (.s .l (.c (.s .l .l) .l))) .l))))) (.s .l .l))
theorem Cu (a0_f:Lt.Func) (a1_name:List UInt8) (KK:(Int×Bool)->Prop):uN a0_f a1_name KK=bq ⟨Tryz.prog,eU,[],[],noP⟩ Tryz.f42 wY [(.st .Func),.s] [(.i .i64),.bo] (a0_f,a1_name) KK:=by kernel_rfl
theorem AT:Cont Tryz.prog 42 sT:=k0 ⟨Tryz.prog,eU,[],[],noP⟩ En.ok0 mixed (fn:=Tryz.f42) wY (by kernel_rfl) (by kernel_rfl) (fun (a0_f,a1_name) KK h=>Eq.mp (Cu a0_f a1_name KK) (EW a0_f a1_name KK h))
def CW:CKt:=bZ [(.st .Func),(.i .i64),(.i .i64)] [.bo] (fun x=>Lt.qe x.1 x.2.1 x.2.2) (fun x=>Lt.qw x.1 x.2.1 x.2.2)
def xJ:An:=.s .l (.s (.s .l (.b (.lp ⟨[1,2,3],[.loc 3],[],[.sl 7 (.i .i64)]⟩ (.s (.s .l (.c .l .l)) (.s (.b (.s .l (.j ⟨[1,2,3,7],[.loc 3],[],[.sl 42 .bo]⟩ .l (.c (.s .l .l) .l)))) .l))))) (.s .l .l))
abbrev CN:CTt:=[(42,sT)]
theorem BE (a0_f:Lt.Func) (a1_from:Int) (a2_to:Int) (KK:Bool->Prop):uf a0_f a1_from a2_to KK=bq ⟨Tryz.prog,eU,CN,[],noP⟩ Tryz.f66 xJ [(.st .Func),(.i .i64),(.i .i64)] [.bo] (a0_f,a1_from,a2_to) KK:=by kernel_rfl
theorem Mv:Cont Tryz.prog 66 CW:=k1 ⟨Tryz.prog,eU,CN,[],noP⟩ (En.okc AT En.ok0) mixed (fn:=Tryz.f66) xJ (by kernel_rfl) (by kernel_rfl) (fun (a0_f,a1_from,a2_to) hp KK h=>Eq.mp (BE a0_f a1_from a2_to KK) (DB a0_f a1_from a2_to hp KK h))
def FB:CKt:=s7 [(.st .Func)] [(.sl .bo)] (fun x=>Lt.uY x) (fun x y=>Lt.qv x y)
def AZ:An:=.s .l (.s .l (.s .l (.s (.b (.lp ⟨[1],[.loc 1],[],[.ow 3 [.fr] .bo,.sl 4 .bo]⟩ (.s (.s .l (.c .l .l)) (.b (.s .l (.s .l (.s .l (.b (.lp ⟨[1],[.loc 1],[],[.ow 3 [.fr] .bo,.sl 4 .bo,.sl 5 (.i .i64)]⟩ (.s (.s .l (.c .l .l)) (.s (.b (.s .l (.b (.lp ⟨[1,5],[.loc 1],[],[.ow 3 [.fr] .bo,.sl 4 .bo,.sl 6 (.i .i64)]⟩ (.s (.j ⟨[1,3,4,5,6],[.gh 900003,.loc 1],[],[.sl 32 .bo]⟩ .l (.c .l .l)) (.j ⟨[1,5,6],[.loc 1],[],[.ow 3 [.fr] .bo,.sl 4 .bo]⟩ (.b (.j ⟨[1,3,4,5,6],[.gh 900003,.loc 1],[],[.sl 45 .bo]⟩ .l (.c (.s .l .l) .l))) .l)))))) .l))))))))))) (.s .l .l))))
abbrev F6:CTt:=[(66,CW)]
theorem Dt (a0_f:Lt.Func) (KK:(List Bool)->Prop):zN a0_f KK=bq ⟨Tryz.prog,eU,F6,[],noP⟩ Tryz.f43 AZ [(.st .Func)] [(.sl .bo)] a0_f KK:=by kernel_rfl
theorem N1:Cont Tryz.prog 43 FB:=k8 ⟨Tryz.prog,eU,F6,[],noP⟩ (En.okc Mv En.ok0) mixed (fn:=Tryz.f43) AZ (by kernel_rfl) (by kernel_rfl) (fun a0_f hp KK h=>Eq.mp (Dt a0_f KK) (Jp a0_f hp KK h))
def Be:CKt:=s7 [(.st .Func)] [.bo] (fun x=>Lt.uY x) (fun x y=>Lt.nL x y)
def xh:An:=.s .l (.s (.s .l (.b (.lp ⟨[1],[.loc 1],[],[.sl 3 (.i .i64)]⟩ (.s (.s .l (.c .l .l)) (.s (.b (.s .l (.s (.s .l (.c (.s .l .l) .l)) (.s .l (.s .l (.b (.lp ⟨[1,3,6],[.loc 1],[],[.sl 7 (.i .i64)]⟩ (.s (.s .l (.c .l .l)) (.s (.b (.s .l (.s (.j ⟨[1,3,6,7],[.loc 1],[],[.sl 61 .bo]⟩ .l (.c (.s .l .l) .l)) (.s .l (.b (.lp ⟨[1,3,6,7],[.loc 1],[],[.sl 10 (.i .i64)]⟩ (.s (.s .l (.c .l .l)) (.s (.b (.s .l (.c (.s .l .l) .l))) .l)))))))) .l))))))))) .l))))) (.s .l (.s (.s .l (.b (.lp ⟨[11],[],[],[.sl 12 (.i .i64)]⟩ (.s (.s .l (.c .l .l)) (.s (.b (.s .l (.c (.s .l .l) .l))) .l))))) (.s .l .l))))
abbrev CU:CTt:=[(42,sT),(43,FB)]
theorem AH (a0_f:Lt.Func) (KK:Bool->Prop):tY a0_f KK=bq ⟨Tryz.prog,eU,CU,[],noP⟩ Tryz.f17 xh [(.st .Func)] [.bo] a0_f KK:=by kernel_rfl
theorem L4:Cont Tryz.prog 17 Be:=k8 ⟨Tryz.prog,eU,CU,[],noP⟩ (En.okc AT (En.okc N1 En.ok0)) mixed (fn:=Tryz.f17) xh (by kernel_rfl) (by kernel_rfl) (fun a0_f hp KK h=>Eq.mp (AH a0_f KK) (Fz a0_f hp KK h))
def Gf:CKt:=s7 [(.st .Func)] [.bo] (fun x=>Lt.tS x) (fun x y=>Lt.qu x y)
def BC:An:=.s .l (.j ⟨[],[],[],[.sl 2 .bo]⟩ .l .l)
abbrev Gt:CTt:=[(15,wU),(16,LO),(17,Be)]
theorem E1 (a0_f:Lt.Func) (KK:Bool->Prop):zW a0_f KK=bq ⟨Tryz.prog,eU,Gt,[],noP⟩ Tryz.f6 BC [(.st .Func)] [.bo] a0_f KK:=by kernel_rfl
theorem Ny:Cont Tryz.prog 6 Gf:=k8 ⟨Tryz.prog,eU,Gt,[],noP⟩ (En.okc JE (En.okc QO (En.okc L4 En.ok0))) mixed (fn:=Tryz.f6) BC (by kernel_rfl) (by kernel_rfl) (fun a0_f hp KK h=>Eq.mp (E1 a0_f KK) (I1 a0_f hp KK h))
def Gn:CKt:=bX [(.sl (.i .i64)),(.i .i64)] [(.i .i64)] (fun x=>Lt.xG x.1 x.2)
def BB:An:=.s .l (.s (.s .l (.b (.lp ⟨[0,1,7],[],[],[.sl 8 (.i .i64)]⟩ (.s .l (.s (.c .l .l) (.s (.b (.s .l (.s .l (.c (.s .l .l) .l)))) .l)))))) (.s .l .l))
theorem Ft (a0_s:List Int) (a1_v:Int) (KK:Int->Prop):yW a0_s a1_v KK=bq ⟨Tryz.prog,eU,[],[],noP⟩ Tryz.f97 BB [(.sl (.i .i64)),(.i .i64)] [(.i .i64)] (a0_s,a1_v) KK:=by kernel_rfl
theorem NQ:Cont Tryz.prog 97 Gn:=k0 ⟨Tryz.prog,eU,[],[],noP⟩ En.ok0 mixed (fn:=Tryz.f97) BB (by kernel_rfl) (by kernel_rfl) (fun (a0_s,a1_v) KK h=>Eq.mp (Ft a0_s a1_v KK) (IB a0_s a1_v KK h))
def A8:CKt:=Ck [(.sl (.i .i64)),(.i .i64)] [.bo] (fun x=>True) (fun x=>Lt.uj x.1 x.2)
def xN:An:=.s .l (.s .l .l)
abbrev Ch:CTt:=[(97,Gn)]
theorem Bf (a0_s:List Int) (a1_v:Int) (KK:Bool->Prop):Cn a0_s a1_v KK=bq ⟨Tryz.prog,eU,Ch,[],noP⟩ Tryz.f69 xN [(.sl (.i .i64)),(.i .i64)] [.bo] (a0_s,a1_v) KK:=by kernel_rfl
theorem M8:Cont Tryz.prog 69 A8:=k6 ⟨Tryz.prog,eU,Ch,[],noP⟩ (En.okc NQ En.ok0) mixed (fn:=Tryz.f69) xN (by kernel_rfl) (by kernel_rfl) (fun (a0_s,a1_v) hp KK h=>Eq.mp (Bf a0_s a1_v KK) (DH a0_s a1_v KK h))
def wN:CKt:=bZ [(.sl (.sl (.i .i64)))] [(.sl (.sl (.i .i64)))] (fun x=>Lt.uI x) (fun x=>Lt.eJ x)
def u5:An:=.s .l (.s .l (.s (.s .l (.b (.lp ⟨[0,11,12],[],[],[.ow 3 [.ow [.fr]] (.sl (.i .i64)),.sl 13 (.i .i64)]⟩ (.s .l (.s (.c .l .l) (.s (.b (.s .l (.s .l (.b (.lp ⟨[0,4,11,12,13,18,19],[],[],[.ow 3 [.ow [.fr]] (.sl (.i .i64)),.sl 20 (.i .i64)]⟩ (.s .l (.s (.c .l .l) (.j ⟨[0,4,11,12,13,18,19,20],[],[],[.ow 3 [.ow [.fr]] (.sl (.i .i64))]⟩ (.b (.s .l (.j ⟨[0,3,4,7,11,12,13,18,19,20],[.gh 900003],[],[.sl 40 .bo]⟩ .l (.c .l .l)))) .l)))))))) .l)))))) (.s .l .l)))
abbrev xg:CTt:=[(69,A8)]
theorem yZ (a0_g:List (List Int)) (KK:(List (List Int))->Prop):qm a0_g KK=bq ⟨Tryz.prog,eU,xg,eP,noP⟩ Tryz.f49 u5 [(.sl (.sl (.i .i64)))] [(.sl (.sl (.i .i64)))] a0_g KK:=by kernel_rfl
theorem Jm:Cont Tryz.prog 49 wN:=k1 ⟨Tryz.prog,eU,xg,eP,noP⟩ (En.okc M8 En.ok0) mixed (fn:=Tryz.f49) u5 (by kernel_rfl) (by kernel_rfl) (fun a0_g hp KK h=>Eq.mp (yZ a0_g KK) (C0 a0_g hp KK h))
def p9:CKt:=bX [(.st .Func),.s] [(.i .i64),.bo] (fun x=>Lt.aA x.1 x.2)
def vH:An:=.s .l (.s (.s .l (.b (.lp ⟨[1,9,10],[],[],[.sl 11 (.i .i64)]⟩ (.s .l (.s (.c .l .l) (.s (.b (.s .l (.s .l (.c (.s .l .l) .l)))) .l)))))) (.s .l .l))
theorem yb (a0_f:Lt.Func) (a1_name:List UInt8) (KK:(Int×Bool)->Prop):qP a0_f a1_name KK=bq ⟨Tryz.prog,eU,[],[],noP⟩ Tryz.f51 vH [(.st .Func),.s] [(.i .i64),.bo] (a0_f,a1_name) KK:=by kernel_rfl
theorem xR:Cont Tryz.prog 51 p9:=k0 ⟨Tryz.prog,eU,[],[],noP⟩ En.ok0 mixed (fn:=Tryz.f51) vH (by kernel_rfl) (by kernel_rfl) (fun (a0_f,a1_name) KK h=>Eq.mp (yb a0_f a1_name KK) (BT a0_f a1_name KK h))
def KG:CKt:=bZ [(.st .Func)] [(.sl (.sl (.i .i64)))] (fun x=>Lt.CF x) (fun x=>Lt.fY x)
def G5:An:=.s .l (.s .l (.s (.s .l (.b (.lp ⟨[1,15,16],[.loc 1],[],[.ow 3 [.ow [.fr]] (.sl (.i .i64)),.sl 17 (.i .i64)]⟩ (.s .l (.s (.c .l .l) (.s (.b (.s .l (.s .l (.b (.lp ⟨[1,4,15,16,17,24,25],[.loc 1],[],[.ow 3 [.ow [.fr]] (.sl (.i .i64)),.sl 26 (.i .i64)]⟩ (.s .l (.s (.c .l .l) (.j ⟨[1,4,15,16,17,24,25,26],[.loc 1],[],[.ow 3 [.ow [.fr]] (.sl (.i .i64))]⟩ (.b (.s .l (.s .l (.s .l (.c .l .l))))) .l)))))))) .l)))))) (.s .l .l)))
abbrev MA:CTt:=[(51,p9)]
theorem JK (a0_f:Lt.Func) (KK:(List (List Int))->Prop):Ff a0_f KK=bq ⟨Tryz.prog,eU,MA,eP,noP⟩ Tryz.f50 G5 [(.st .Func)] [(.sl (.sl (.i .i64)))] a0_f KK:=by kernel_rfl
theorem QH:Cont Tryz.prog 50 KG:=k1 ⟨Tryz.prog,eU,MA,eP,noP⟩ (En.okc xR En.ok0) mixed (fn:=Tryz.f50) G5 (by kernel_rfl) (by kernel_rfl) (fun a0_f hp KK h=>Eq.mp (JK a0_f KK) (Kj a0_f hp KK h))
def uH:CKt:=bZ [(.st .Func)] [(.sl (.st .way))] (fun x=>Lt.mB x) (fun x=>Lt.aq x)
def xM:An:=.s .l (.s .l (.s .l (.s (.s .l (.b (.lp ⟨[1,3,15,16],[.loc 1],[],[.ow 4 [.fr,.fr,.fr] (.st .way),.sl 17 (.i .i64)]⟩ (.s .l (.s (.c .l .l) (.j ⟨[1,3,15,16,17],[.loc 1],[],[.ow 4 [.fr,.fr,.fr] (.st .way)]⟩ (.b (.s .l (.s (.s .l (.c .l .l)) (.s .l (.b (.lp ⟨[1,3,5,15,16,17,29,30],[.loc 1],[],[.ow 4 [.fr,.fr,.fr] (.st .way),.sl 31 (.i .i64)]⟩ (.s .l (.s (.c .l .l) (.j ⟨[1,3,5,15,16,17,29,30,31],[.loc 1],[],[.ow 4 [.fr,.fr,.fr] (.st .way)]⟩ (.b (.s .l (.s .l (.j ⟨[1,3,4,5,7,9,15,16,17,29,30,31],[.gh 900004,.loc 1],[],[.sl 50 .bo]⟩ .l (.c .l .l))))) .l))))))))) .l)))))) (.s .l .l))))
abbrev Cf:CTt:=[(49,wN),(50,KG),(51,p9)]
theorem AI (a0_f:Lt.Func) (KK:(List Lt.way)->Prop):uW a0_f KK=bq ⟨Tryz.prog,eU,Cf,[],noP⟩ Tryz.f25 xM [(.st .Func)] [(.sl (.st .way))] a0_f KK:=by kernel_rfl
theorem Cr:Cont Tryz.prog 25 uH:=k1 ⟨Tryz.prog,eU,Cf,[],noP⟩ (En.okc Jm (En.okc QH (En.okc xR En.ok0))) mixed (fn:=Tryz.f25) xM (by kernel_rfl) (by kernel_rfl) (fun a0_f hp KK h=>Eq.mp (AI a0_f KK) (Et a0_f hp KK h))
def Gj:CKt:=bZ [(.st .Func)] [(.st .Func)] (fun x=>Lt.ri x) (fun x=>Lt.fp x)
def tZ:An:=.s .l (.s .l (.s (.s .l (.b (.lp ⟨[1,3,12,13,100000,100001,100002,100010],[.loc 1,.loc 1001,.loc 1002],[],[.sl 14 (.i .i64),.mp (.gh 10) .s .bo]⟩ (.s .l (.s (.c .l .l) (.s (.b (.s .l .l)) .l)))))) (.s (.s .l (.b (.lp ⟨[3,26,27,100000,100001,100002,100010],[.gh 26,.loc 1001,.loc 1002],[],[.sl 28 (.i .i64),.mp (.gh 10) .s .bo]⟩ (.s .l (.s (.c .l .l) (.s (.b (.s .l (.s .l (.b (.lp ⟨[3,26,27,28,32,33,100000,100001,100002,100010],[.gh 26,.loc 1001,.loc 1002],[],[.sl 34 (.i .i64),.mp (.gh 10) .s .bo]⟩ (.s .l (.s (.c .l .l) (.s (.b (.s .l .l)) .l)))))))) .l)))))) (.s .l .l))))
def wB:CKt:=apT (qX ⟨Tryz.prog,eU,[],eA,noP⟩ Tryz.f24 tZ)
def uS:An:=.s .l (.s .l (.b (.lp ⟨[0,1,100001,100002,100003,100006,100018,100019,100020,100021,100022,100023,100024],[.gh 1010,.loc 2001,.loc 2002,.loc 2006],[],[.sl 5 (.i .i64)]⟩ (.s (.b (.s .l (.s .l (.c (.s .l .l) .l)))) .l))))
def vV:CKt:=apT (qX ⟨Tryz.prog,eU,[(56,Al)],eA,noP⟩ Tryz.f27 uS)
def wt:An:=.s .l (.b (.lp ⟨[0,1,2,9,100001,100002,100003,100006,100007,100008,100009,100018,100019,100020,100021,100022,100023,100024,100025,100026,100027,100028,100029,100030,100031,100032,100033,100034,100035,100036,100037,100038,100039,100040,100041,100042,100043,100044,100045,100046,100047,100048,100049,100050],[.gh 1010,.loc 2002,.loc 2006],[],[.sl 10 (.i .i64),.rt (.loc 2001) sh1 (.st .Func)]⟩ (.s .l (.s (.c .l .l) (.s (.b (.s .l (.s .l (.b (.lp ⟨[0,1,2,6,9,10,18,100001,100002,100003,100006,100007,100008,100009,100018,100019,100020,100021,100022,100023,100024,100025,100026,100027,100028,100029,100030,100031,100032,100033,100034,100035,100036,100037,100038,100039,100040,100041,100042,100043,100044,100045,100046,100047,100048,100049,100050],[.gh 1010,.loc 2002,.loc 2006],[],[.sl 19 (.i .i64),.rt (.loc 2001) sh1 (.st .Func)]⟩ (.s .l (.s (.c .l .l) (.j ⟨[0,1,2,6,9,10,18,19,100001,100002,100003,100006,100007,100008,100009,100018,100019,100020,100021,100022,100023,100024,100025,100026,100027,100028,100029,100030,100031,100032,100033,100034,100035,100036,100037,100038,100039,100040,100041,100042,100043,100044,100045,100046,100047,100048,100049,100050],[.gh 1010,.loc 2002,.loc 2006],[],[.rt (.loc 2001) sh1 (.st .Func)]⟩ (.b (.s .l (.s .l (.c .l .l)))) .l)))))))) .l)))))
def zK:CKt:=apT (qX ⟨Tryz.prog,eU,[],eA,noP⟩ Tryz.f28 wt)
def Cp:An:=.s .l (.s .l (.s .l (.s .l (.s (.s .l (.b (.lp ⟨[1,2,3,18,19],[.loc 2],[],[.sl 20 (.i .i64),.mp (.gh 1010) .s .bo,.rt (.loc 1) sh1 (.st .Func)]⟩ (.s .l (.s (.c .l .l) (.s (.b (.s .l (.s .l (.s .l (.s .l (.s .l (.s .l .l))))))) .l)))))) (.s .l .l)))))
abbrev Gy:CTt:=[(24,wB),(25,uH),(26,AX),(27,vV),(28,zK)]
theorem Fw (a0_f:Lt.Func) (KK:Lt.Func->Prop):yL a0_f KK=bq ⟨Tryz.prog,eU,Gy,eA,noP⟩ Tryz.f8 Cp [(.st .Func)] [(.st .Func)] a0_f KK:=by kernel_rfl
theorem Ov:Cont Tryz.prog 8 Gj:=k1 ⟨Tryz.prog,eU,Gy,eA,noP⟩ (En.okc (jk (gQ En.ok0 mixed (fn:=Tryz.f24) (by kernel_rfl) (by kernel_rfl) (by kernel_rfl) (by kernel_rfl) (by kernel_rfl))) (En.okc Cr (En.okc Kr (En.okc (jk (gQ (En.okc Bp En.ok0) mixed (fn:=Tryz.f27) (by kernel_rfl) (by kernel_rfl) (by kernel_rfl) (by kernel_rfl) (by kernel_rfl))) (En.okc (jk (gQ En.ok0 mixed (fn:=Tryz.f28) (by kernel_rfl) (by kernel_rfl) (by kernel_rfl) (by kernel_rfl) (by kernel_rfl))) En.ok0))))) mixed (fn:=Tryz.f8) Cp (by kernel_rfl) (by kernel_rfl) (fun a0_f hp KK h=>Eq.mp (Fw a0_f KK) (Jn a0_f hp KK h))
def AU:CKt:=bZ [(.st .Func)] [(.sl (.st .Pair))] (fun x=>Lt.pO x) (fun x=>Lt.jS x)
def xC:An:=.s .l (.s .l (.s (.s .l (.b (.lp ⟨[1,7,8],[.loc 1],[],[.ow 3 [.fr,.fr] (.st .Pair),.sl 9 (.i .i64)]⟩ (.s .l (.s (.c .l .l) (.s (.b (.s .l .l)) .l)))))) (.s .l .l)))
abbrev C8:CTt:=[(25,uH)]
theorem AK (a0_f:Lt.Func) (KK:(List Lt.Pair)->Prop):sY a0_f KK=bq ⟨Tryz.prog,eU,C8,[],noP⟩ Tryz.f9 xC [(.st .Func)] [(.sl (.st .Pair))] a0_f KK:=by kernel_rfl
theorem ML:Cont Tryz.prog 9 AU:=k1 ⟨Tryz.prog,eU,C8,[],noP⟩ (En.okc Cr En.ok0) mixed (fn:=Tryz.f9) xC (by kernel_rfl) (by kernel_rfl) (fun a0_f hp KK h=>Eq.mp (AK a0_f KK) (DO a0_f hp KK h))
def xA:CKt:=bZ [(.st .Func)] [.bo] (fun x=>Lt.Eh x) (fun x=>Lt.sM x)
def mY:An:=.s .l (.s .l (.s (.s .l (.b (.lp ⟨[4,14,15,100000,100001,100002,100007,100008,100009,100010,100012],[.loc 1001],[],[.sl 16 (.i .i64),.mp (.gh 12) .s (.i .i64)]⟩ (.s .l (.s (.c .l .l) (.s (.b (.s .l (.s (.s .l (.s .l (.c (.s .l .l) .l))) .l))) .l)))))) (.s .l .l)))
def nP:CKt:=apT (qX ⟨Tryz.prog,eU,[],[],noP⟩ Tryz.f29 mY)
def pR:An:=.s .l (.s (.s .l (.b (.lp ⟨[1,13,14,100000,100001,100002,100003,100004,100007,100008,100009,100010,100011,100012,100013,100014,100015,100016,100017,100018,100019,100020],[.gh 1012,.loc 2001],[],[.sl 15 (.i .i64)]⟩ (.s .l (.s (.c .l .l) (.s (.b (.s .l (.s .l (.s .l (.b (.lp ⟨[1,7,13,14,15,22,23,100000,100001,100002,100003,100004,100007,100008,100009,100010,100011,100012,100013,100014,100015,100016,100017,100018,100019,100020],[.gh 1012,.loc 2001],[],[.sl 24 (.i .i64),.mp (.gh 19) .s .bo]⟩ (.s .l (.s (.c .l .l) (.s (.b (.s .l (.s (.s .l (.j ⟨[1,7,9,13,14,15,22,23,24,100000,100001,100002,100003,100004,100007,100008,100009,100010,100011,100012,100013,100014,100015,100016,100017,100018,100019,100020],[.gh 1012,.gh 19,.loc 2001],[],[.sl 44 .bo]⟩ .l (.c (.s .l .l) .l))) .l))) .l))))))))) .l)))))) (.s .l .l))
def qb:CKt:=apT (qX ⟨Tryz.prog,eU,[],[],noP⟩ Tryz.f30 pR)
def ph:An:=.s .l (.s .l (.s .l (.s .l (.s (.b (.lp ⟨[1,2,100000,100001,100002,100003,100004,100007,100008,100009,100010,100011,100012,100013,100014,100015,100016,100017,100018,100019,100020,100021,100022,100023,100024,100025],[.gh 1012,.loc 2,.loc 2001],[],[.ow 5 [.fr] .bo,.ow 6 [.fr] (.i .i64)]⟩ (.s (.s .l (.c .l .l)) (.b (.j ⟨[1,2,5,6,100000,100001,100002,100003,100004,100007,100008,100009,100010,100011,100012,100013,100014,100015,100016,100017,100018,100019,100020,100021,100022,100023,100024,100025],[.gh 1012,.gh 900005,.gh 900006,.loc 2,.loc 2001],[(7,.loc 7,0)],[.rt (.loc 7) [.fr,.fr,.fr,.fr,.fr,.fr,.fr,.fr,.fr] (.st .Block)]⟩ .l (.s .l (.s .l (.b (.lp ⟨[1,2,38,39,100000,100001,100002,100003,100004,100007,100008,100009,100010,100011,100012,100013,100014,100015,100016,100017,100018,100019,100020,100021,100022,100023,100024,100025],[.gh 1012,.loc 2,.loc 2001],[],[.ow 5 [.fr] .bo,.ow 6 [.fr] (.i .i64),.sl 40 (.i .i64)]⟩ (.s .l (.s (.c .l .l) (.j ⟨[1,2,38,39,40,100000,100001,100002,100003,100004,100007,100008,100009,100010,100011,100012,100013,100014,100015,100016,100017,100018,100019,100020,100021,100022,100023,100024,100025],[.gh 1012,.loc 2,.loc 2001],[],[.ow 5 [.fr] .bo,.ow 6 [.fr] (.i .i64)]⟩ (.b (.s .l (.s .l (.s .l (.c (.s .l .l) .l))))) .l)))))))))))) (.s .l .l)))))
def qC:CKt:=apT (qX ⟨Tryz.prog,eU,[],eR,noP⟩ Tryz.f31 ph)
def vC:An:=.s .l (.s (.s .l (.c (.s .l .l) .l)) (.s .l (.s (.s .l (.c (.s .l .l) .l)) (.s (.s .l (.b (.lp ⟨[26,27],[.gh 900005],[],[.sl 28 (.i .i64)]⟩ (.s .l (.s (.c .l .l) (.s (.b (.s .l (.s .l (.c (.s .l .l) .l)))) .l)))))) (.s .l .l)))))
abbrev xj:CTt:=[(29,nP),(30,qb),(31,qC)]
theorem zt (a0_f:Lt.Func) (KK:Bool->Prop):qk a0_f KK=bq ⟨Tryz.prog,eU,xj,[],noP⟩ Tryz.f10 vC [(.st .Func)] [.bo] a0_f KK:=by kernel_rfl
theorem Ja:Cont Tryz.prog 10 xA:=k1 ⟨Tryz.prog,eU,xj,[],noP⟩ (En.okc (jk (gQ En.ok0 mixed (fn:=Tryz.f29) (by kernel_rfl) (by kernel_rfl) (by kernel_rfl) (by kernel_rfl) (by kernel_rfl))) (En.okc (jk (gQ En.ok0 mixed (fn:=Tryz.f30) (by kernel_rfl) (by kernel_rfl) (by kernel_rfl) (by kernel_rfl) (by kernel_rfl))) (En.okc (jk (gQ En.ok0 mixed (fn:=Tryz.f31) (by kernel_rfl) (by kernel_rfl) (by kernel_rfl) (by kernel_rfl) (by kernel_rfl))) En.ok0))) mixed (fn:=Tryz.f10) vC (by kernel_rfl) (by kernel_rfl) (fun a0_f hp KK h=>Eq.mp (zt a0_f KK) (Af a0_f hp KK h))
def Gr:CKt:=bZ [(.st .Phi),(.sl .s)] [.bo] (fun x=>Lt.ur x.1 x.2) (fun x=>Lt.gW x.1 x.2)
def Bm:An:=.s .l (.s (.s .l (.c (.s .l .l) .l)) (.s .l (.s (.s .l (.b (.lp ⟨[2,5,17,18],[.loc 2],[],[.sl 19 (.i .i64),.mp (.gh 16) .s .bo]⟩ (.s .l (.s (.c .l .l) (.s (.b (.s .l .l)) .l)))))) (.s (.s .l (.b (.lp ⟨[5,27,28],[],[],[.sl 29 (.i .i64),.mp (.gh 16) .s .bo]⟩ (.s .l (.s (.c .l .l) (.s (.b (.s .l (.s (.s .l (.c (.s .l .l) .l)) .l))) .l)))))) (.s .l .l)))))
theorem Fj (a0_x:Lt.Phi) (a1_l:List (List UInt8)) (KK:Bool->Prop):yd a0_x a1_l KK=bq ⟨Tryz.prog,eU,[],[],noP⟩ Tryz.f33 Bm [(.st .Phi),(.sl .s)] [.bo] (a0_x,a1_l) KK:=by kernel_rfl
theorem OH:Cont Tryz.prog 33 Gr:=k1 ⟨Tryz.prog,eU,[],[],noP⟩ En.ok0 mixed (fn:=Tryz.f33) Bm (by kernel_rfl) (by kernel_rfl) (fun (a0_x,a1_l) hp KK h=>Eq.mp (Fj a0_x a1_l KK) (Kf a0_x a1_l hp KK h))
def CX:CKt:=bZ [(.st .Func)] [.bo] (fun x=>Lt.ub x) (fun x=>Lt.iK x)
def ql:An:=.s .l (.s .l (.s (.s .l (.b (.lp ⟨[3,10,11,100000,100001,100002,100008],[.loc 1001],[],[.sl 12 (.i .i64),.mo (.gh 8) .s .s]⟩ (.s .l (.s (.c .l .l) (.s (.b (.s .l (.s .l (.b (.lp ⟨[3,5,10,11,12,18,19,100000,100001,100002,100008],[.loc 1001,.loc 5],[],[.sl 20 (.i .i64),.mo (.gh 8) .s .s]⟩ (.s .l (.s (.c .l .l) (.s (.b (.s .l .l)) .l)))))))) .l)))))) (.s .l .l)))
def sa:CKt:=apT (qX ⟨Tryz.prog,eU,[],eF,noP⟩ Tryz.f32 ql)
def xQ:An:=.s .l (.s .l (.s (.s .l (.b (.lp ⟨[3,11,12],[.gh 1008],[],[.sl 13 (.i .i64)]⟩ (.s .l (.s (.c .l .l) (.s (.b (.s .l (.s (.j ⟨[3,5,11,12,13],[.gh 1008,.loc 5],[],[.sl 25 .bo]⟩ .l (.c (.s .l .l) .l)) (.s .l (.b (.lp ⟨[3,5,11,12,13,27,28],[.gh 1008,.loc 5],[],[.sl 29 (.i .i64)]⟩ (.s .l (.s (.c .l .l) (.s (.b (.s .l (.s .l (.c (.s .l .l) .l)))) .l))))))))) .l)))))) (.s .l .l)))
abbrev BS:CTt:=[(32,sa),(33,Gr)]
theorem CS (a0_f:Lt.Func) (KK:Bool->Prop):ut a0_f KK=bq ⟨Tryz.prog,eU,BS,eH,noP⟩ Tryz.f11 xQ [(.st .Func)] [.bo] a0_f KK:=by kernel_rfl
theorem Ki:Cont Tryz.prog 11 CX:=k1 ⟨Tryz.prog,eU,BS,eH,noP⟩ (En.okc (jk (gQ En.ok0 mixed (fn:=Tryz.f32) (by kernel_rfl) (by kernel_rfl) (by kernel_rfl) (by kernel_rfl) (by kernel_rfl))) (En.okc OH En.ok0)) mixed (fn:=Tryz.f11) xQ (by kernel_rfl) (by kernel_rfl) (fun a0_f hp KK h=>CS a0_f KK ▸ (Ef a0_f hp KK h))
def tu:CKt:=bX [(.sl (.st .Var)),(.sl (.st .Var))] [.bo] (fun x=>Lt.kA x.1 x.2)
def rP:An:=.s .l (.s (.s .l (.c (.s .l .l) .l)) (.s (.s .l (.b (.lp ⟨[0,1],[],[],[.sl 5 (.i .i64)]⟩ (.s (.s .l (.c .l .l)) (.s (.b (.s .l (.c (.s .l .l) .l))) .l))))) (.s .l .l)))
theorem vT (a0_a:List Lt.Var) (a1_b:List Lt.Var) (KK:Bool->Prop):nT a0_a a1_b KK=bq ⟨Tryz.prog,eU,[],[],noP⟩ Tryz.f34 rP [(.sl (.st .Var)),(.sl (.st .Var))] [.bo] (a0_a,a1_b) KK:=by kernel_rfl
theorem E7:Cont Tryz.prog 34 tu:=k0 ⟨Tryz.prog,eU,[],[],noP⟩ En.ok0 mixed (fn:=Tryz.f34) rP (by kernel_rfl) (by kernel_rfl) (fun (a0_a,a1_b) KK h=>Eq.mp (vT a0_a a1_b KK) (ym a0_a a1_b KK h))
def u7:CKt:=bX [(.sl (.st .Arg)),(.sl (.st .Arg))] [.bo] (fun x=>Lt.kq x.1 x.2)
def rA:An:=.s .l (.s (.s .l (.c (.s .l .l) .l)) (.s (.s .l (.b (.lp ⟨[0,1],[],[],[.sl 5 (.i .i64)]⟩ (.s (.s .l (.c .l .l)) (.s (.b (.s .l (.c (.s .l .l) .l))) .l))))) (.s .l .l)))
theorem wo (a0_a:List Lt.Arg) (a1_b:List Lt.Arg) (KK:Bool->Prop):nU a0_a a1_b KK=bq ⟨Tryz.prog,eU,[],[],noP⟩ Tryz.f71 rA [(.sl (.st .Arg)),(.sl (.st .Arg))] [.bo] (a0_a,a1_b) KK:=by kernel_rfl
theorem EF:Cont Tryz.prog 71 u7:=k0 ⟨Tryz.prog,eU,[],[],noP⟩ En.ok0 mixed (fn:=Tryz.f71) rA (by kernel_rfl) (by kernel_rfl) (fun (a0_a,a1_b) KK h=>Eq.mp (wo a0_a a1_b KK) (yk a0_a a1_b KK h))
def rV:CKt:=bX [(.st .Instr),(.st .Instr)] [.bo] (fun x=>Lt.j0 x.1 x.2)
def oU:An:=.s .l (.s (.j ⟨[2,3],[.loc 2,.loc 3],[],[.sl 54 .bo]⟩ .l (.c (.s .l .l) .l)) (.s (.s .l (.b (.lp ⟨[2,3],[.loc 2,.loc 3],[],[.sl 5 (.i .i64)]⟩ (.s (.s .l (.c .l .l)) (.s (.b (.s .l (.s .l (.s (.j ⟨[2,3,5,6,7],[.loc 2,.loc 3,.loc 6,.loc 7],[],[.sl 99 .bo]⟩ .l (.c (.s .l .l) .l)) (.s .l (.b (.lp ⟨[2,3,5,6,7],[.loc 2,.loc 3,.loc 6,.loc 7],[],[.sl 8 (.i .i64)]⟩ (.s (.s .l (.c .l .l)) (.s (.b (.s .l (.c (.s .l .l) .l))) .l))))))))) .l))))) (.s (.s .l (.b (.lp ⟨[2,3],[.loc 2,.loc 3],[],[.sl 9 (.i .i64)]⟩ (.s (.s .l (.c .l .l)) (.s (.b (.j ⟨[2,3,9],[.loc 2,.loc 3],[],[.sl 153 .bo]⟩ .l (.c (.s .l .l) .l))) .l))))) (.s .l .l))))
abbrev r7:CTt:=[(71,u7)]
theorem uC (a0_a:Lt.Instr) (a1_b:Lt.Instr) (KK:Bool->Prop):me a0_a a1_b KK=bq ⟨Tryz.prog,eU,r7,[],noP⟩ Tryz.f57 oU [(.st .Instr),(.st .Instr)] [.bo] (a0_a,a1_b) KK:=by kernel_rfl
theorem Bt:Cont Tryz.prog 57 rV:=k0 ⟨Tryz.prog,eU,r7,[],noP⟩ (En.okc EF En.ok0) mixed (fn:=Tryz.f57) oU (by kernel_rfl) (by kernel_rfl) (fun (a0_a,a1_b) KK h=>Eq.mp (uC a0_a a1_b KK) (wk a0_a a1_b KK h))
def rQ:CKt:=bX [(.st .Block),(.st .Block)] [.bo] (fun x=>Lt.jY x.1 x.2)
def pE:An:=.s .l (.s (.j ⟨[2,3],[.loc 2,.loc 3],[],[.sl 69 .bo]⟩ .l (.c (.s .l .l) .l)) (.s (.s .l (.b (.lp ⟨[2,3],[.loc 2,.loc 3],[],[.sl 5 (.i .i64)]⟩ (.s (.s .l (.c .l .l)) (.s (.b (.s .l (.c (.s .l .l) .l))) .l))))) (.s (.s .l (.b (.lp ⟨[2,3],[.loc 2,.loc 3],[],[.sl 6 (.i .i64)]⟩ (.s (.s .l (.c .l .l)) (.s (.b (.s (.j ⟨[2,3,6],[.loc 2,.loc 3],[],[.sl 127 .bo]⟩ .l (.c (.s .l .l) .l)) (.s .l (.b (.lp ⟨[2,3,6],[.loc 2,.loc 3],[],[.sl 7 (.i .i64)]⟩ (.s (.s .l (.c .l .l)) (.s (.b (.s .l (.c (.s .l .l) .l))) .l))))))) .l))))) (.s (.s .l (.b (.lp ⟨[2,3],[.loc 2,.loc 3],[],[.sl 8 (.i .i64)]⟩ (.s (.s .l (.c .l .l)) (.s (.b (.s .l (.c (.s .l .l) .l))) .l))))) (.s .l .l)))))
abbrev rK:CTt:=[(57,rV)]
theorem uy (a0_a:Lt.Block) (a1_b:Lt.Block) (KK:Bool->Prop):l9 a0_a a1_b KK=bq ⟨Tryz.prog,eU,rK,[],noP⟩ Tryz.f35 pE [(.st .Block),(.st .Block)] [.bo] (a0_a,a1_b) KK:=by kernel_rfl
theorem CY:Cont Tryz.prog 35 rQ:=k0 ⟨Tryz.prog,eU,rK,[],noP⟩ (En.okc Bt En.ok0) mixed (fn:=Tryz.f35) pE (by kernel_rfl) (by kernel_rfl) (fun (a0_a,a1_b) KK h=>Eq.mp (uy a0_a a1_b KK) (wm a0_a a1_b KK h))
def sX:CKt:=bX [(.st .Func),(.st .Func)] [.bo] (fun x=>Lt.lX x.1 x.2)
def rN:An:=.s .l (.s (.j ⟨[2,3],[.loc 2,.loc 3],[],[.sl 42 .bo]⟩ .l (.c (.s .l .l) .l)) (.s (.s .l (.b (.lp ⟨[2,3],[.loc 2,.loc 3],[],[.sl 5 (.i .i64)]⟩ (.s (.s .l (.c .l .l)) (.s (.b (.s .l (.c (.s .l .l) .l))) .l))))) (.s .l .l)))
abbrev tg:CTt:=[(34,tu),(35,rQ)]
theorem wy (a0_a:Lt.Func) (a1_b:Lt.Func) (KK:Bool->Prop):nQ a0_a a1_b KK=bq ⟨Tryz.prog,eU,tg,[],noP⟩ Tryz.f12 rN [(.st .Func),(.st .Func)] [.bo] (a0_a,a1_b) KK:=by kernel_rfl
theorem DS:Cont Tryz.prog 12 sX:=k0 ⟨Tryz.prog,eU,tg,[],noP⟩ (En.okc E7 (En.okc CY En.ok0)) mixed (fn:=Tryz.f12) rN (by kernel_rfl) (by kernel_rfl) (fun (a0_a,a1_b) KK h=>Eq.mp (wy a0_a a1_b KK) (yG a0_a a1_b KK h))
def oL:An:=.s .l (.s (.j ⟨[1],[.loc 1],[],[.sl 10 .bo]⟩ .l (.c (.s .l .l) .l)) (.s .l (.s (.j ⟨[1,3],[.loc 1,.loc 3],[],[.sl 31 .bo]⟩ .l (.c (.s .l .l) .l)) (.j ⟨[],[],[],[.sl 2 .bo]⟩ .l .l))))
abbrev rO:CTt:=[(5,wH),(6,Gf),(8,Gj),(9,AU),(10,xA),(11,CX),(12,sX)]
theorem tR (a0_f:Lt.Func) (KK:Bool->Prop):mr a0_f KK=bq ⟨Tryz.prog,eU,rO,[],noP⟩ Tryz.f4 oL [(.st .Func)] [.bo] a0_f KK:=by kernel_rfl
theorem zC:En.ok ⟨Tryz.prog,eU,rO,[],noP⟩:=(En.okc JL (En.okc Ny (En.okc Ov (En.okc ML (En.okc Ja (En.okc Ki (En.okc DS En.ok0)))))))
end Go.Am
end

section
namespace Go.Am
open Go
def Bd (d:Nat):Int:=562949953421312+3001*((min d 10:Nat):Int)
theorem Gv (d:Nat):562949953421312<=Bd d/\Bd d<=562949953621322:=by unfold Bd; omega
def Pc (d:Nat) (b:Int) (w:Nat) (r:Int):Prop:=(3000<r/\r<=Bd d)\/(r=b+(w:Int)/\r<=3000)
def short (s:List UInt8):Prop:=s.length<=140737488355328
theorem ls {α:Type} {d:Nat} (go:List α->Int->Int) (s:Int->α->Int) (w:α->Nat) (h0:∀ b,go [] b=b) (h1:∀ x r b,go (x::r) b=if b<=3000 then go r (s b x) else b) (ok:α->Prop)
  (hs:∀ b x,ok x->0<=b->b<=3000->Pc d b (w x) (s b x)):∀ (l:List α) (b:Int),(∀ x∈l,ok x)->0<=b->b<=Bd d->Pc d b (l.map w).sum (go l b)
 | [],b,_,h2,h3=>by
  rw [h0]; unfold Pc;simp only [List.map_nil,List.sum_nil];omega
 | x::r,b,hok,h2,h3=>by
  rw [h1];by_cases hb:b<=3000
  ·rw [if_pos hb];have hx:=hs b x (hok x (by simp)) h2 hb
   have hB:=Gv d
   have h4:0<=s b x/\s b x<=Bd d:=by unfold Pc at hx; omega
   have ih:=ls go s w h0 h1 ok hs r (s b x) (fun y hy=>hok y (by simp [hy])) h4.1 h4.2
   unfold Pc at hx ih ⊢;simp only [List.map_cons,List.sum_cons];omega
  ·rw [if_neg hb];unfold Pc;omega
theorem gl {n:Int} {k:Nat} (h1:0<=n) (h2:n<=1152921504606846976) (h3:k<=1152921504606846976):Lt.plus n k=n+(k:Int):=by
 unfold Lt.plus;exact ch (by omega) (by omega)
theorem jO {n:Int} (h1:0<=n) (h2:n<=4611686018427387904):IntKind.i64.wrap n=n:=ch (by omega) (by omega)
def Q4 (v:Lt.Var):Nat:=v.Name.length+v.Type_.length
def B2 (l:List Lt.Var):Nat:=l.length+(l.map Q4).sum
def N8 (a:Lt.Arg):Nat:=a.S.length
def GC (l:List Lt.Arg):Nat:=l.length+(l.map N8).sum
def MX (b:Lt.Bind):Nat:=1+b.Name.length+b.A.S.length
def DE (f:Lt.Frame):Nat:=f.Func.length+f.Block.length+(f.Vars.map MX).sum
def QA (o:Lt.Virt):Nat:=o.Class.length+GC o.Vals
def ye (x:Lt.Instr):Nat:=1+x.Dst.length+x.Frames.length+x.Objs.length+x.Name.length+GC x.Args+(x.Frames.map DE).sum+(x.Objs.map QA).sum
def wIn (b:Lt.In):Nat:=1+b.Block.length+b.A.S.length
def Ra (x:Lt.Phi):Nat:=1+x.Dst.length+(x.Ins.map wIn).sum
def wTo (t:List UInt8):Nat:=1+t.length
def yE (b:Lt.Block):Nat:=1+b.Name.length+b.End.A.S.length+(b.End.To.map wTo).sum+(b.Phis.map Ra).sum+(b.Code.map ye).sum
def L2 (f:Lt.Func):Nat:=1+f.Name.length+f.Result.length+B2 f.Params+B2 f.Vars+(f.Blocks.map yE).sum
def Ka (v:Lt.Var):Prop:=short v.Name/\short v.Type_
def tJ (a:Lt.Arg):Prop:=short a.S
def LW (b:Lt.Bind):Prop:=short b.Name/\tJ b.A
def EE (f:Lt.Frame):Prop:=short f.Func/\short f.Block/\∀ b∈f.Vars,LW b
def Qu (o:Lt.Virt):Prop:=short o.Class/\∀ a∈o.Vals,tJ a
def sQ (x:Lt.Instr):Prop:=short x.Dst/\short x.Name/\(∀ a∈x.Args,tJ a)/\(∀ f∈x.Frames,EE f)/\∀ o∈x.Objs,Qu o
def sIn (b:Lt.In):Prop:=short b.Block/\tJ b.A
def Oq (x:Lt.Phi):Prop:=short x.Dst/\∀ i∈x.Ins,sIn i
def tc (b:Lt.Block):Prop:=short b.Name/\tJ b.End.A/\(∀ t∈b.End.To,short t)/\(∀ x∈b.Phis,Oq x)/\∀ i∈b.Code,sQ i
def Px (f:Lt.Func):Prop:=short f.Name/\short f.Result/\(∀ v∈f.Params,Ka v)/\(∀ v∈f.Vars,Ka v)/\∀ b∈f.Blocks,tc b
theorem nO {d:Nat} {b0:Int} {w0:Nat} {n:Int} {k:Nat} {r:Int} (hd:d < 9) (h0:0<=b0) (h:Pc (d+1) b0 w0 n) (hk:Pc d 0 k r):Pc (d+1) b0 (w0+k) (Lt.upto 3000 n r):=by
 unfold Lt.upto;unfold Pc Bd at h hk ⊢;split
 ·rw [jO (by omega) (by omega)]; omega
 ·omega
theorem yO {d:Nat} {b0:Int} {w0:Nat} {n:Int} {k:Nat} (h0:0<=b0) (h:Pc d b0 w0 n) (hk:k<=140737488355328):Pc d b0 (w0+k) (if n<=3000 then Lt.plus n k else n):=by
 unfold Pc Bd at h ⊢;split
 ·rw [gl (by omega) (by omega) (by omega)]; omega
 ·omega
theorem M9 {d:Nat} {k:Nat} (hk:k<=140737488355328):Pc d 0 k (k:Int):=by unfold Pc Bd; omega
theorem Of {d:Nat} (l:List Lt.Var) (b:Int) (h:∀ v∈l,Ka v) (h0:0<=b) (h1:b<=Bd d):Pc d b (l.map Q4).sum (Lt.vN 3000 l b):=by
 refine ls (Lt.vN 3000) (fun n v=>if Lt.plus n v.Name.length<=3000 then Lt.plus (Lt.plus n v.Name.length) v.Type_.length else Lt.plus n v.Name.length) Q4 (fun _=>rfl) (fun _ _ _=>rfl) Ka (fun b x hx h0 h1=>?_) l b h h0 h1;have hn:Pc d b x.Name.length (Lt.plus b x.Name.length):=by
  have:=hx.1; unfold short at this
  unfold Pc Bd; rw [gl h0 (by omega) (by omega)]; omega
 exact yO h0 hn hx.2
theorem r8 {d:Nat} (l:List Lt.Var) (h:∀ v∈l,Ka v):Pc d 0 (B2 l) (Lt.dW l 3000):=by
 unfold Lt.dW B2;split
 ·rw [jO (by omega) (by omega)]; unfold Pc Bd; omega
 ·have:=Of (d:=d) l (l.length:Int) h (by omega) (by have:=Gv d; omega)
  unfold Pc at this ⊢; omega
theorem Pb {d:Nat} (l:List Lt.Arg) (b:Int) (h:∀ v∈l,tJ v) (h0:0<=b) (h1:b<=Bd d):Pc d b (l.map N8).sum (Lt.uQ 3000 l b):=by
 refine ls (Lt.uQ 3000) (fun n v=>Lt.plus n v.S.length) N8 (fun _=>rfl) (fun _ _ _=>rfl) tJ (fun b x hx h0 h1=>?_) l b h h0 h1;unfold tJ short at hx;unfold Pc Bd N8; rw [gl h0 (by omega) (by omega)]; omega
theorem rR {d:Nat} (l:List Lt.Arg) (h:∀ v∈l,tJ v):Pc d 0 (GC l) (Lt.dk l 3000):=by
 unfold Lt.dk GC;split
 ·rw [jO (by omega) (by omega)]; unfold Pc Bd; omega
 ·have:=Pb (d:=d) l (l.length:Int) h (by omega) (by have:=Gv d; omega)
  unfold Pc at this ⊢; omega
theorem GU {d:Nat} {b:Int} {k:Nat} (h0:0<=b) (h1:b<=3000) (hk:k<=140737488355328):Pc d b (1+k) (Lt.plus (IntKind.i64.wrap (b+1)) k):=by
 rw [jO (by omega) (by omega),gl (by omega) (by omega) (by omega)]; unfold Pc Bd; omega
theorem Lo {d:Nat} (l:List Lt.Bind) (b:Int) (h:∀ v∈l,LW v) (h0:0<=b) (h1:b<=Bd d):Pc d b (l.map MX).sum (Lt.lC 3000 l b):=by
 refine ls (Lt.lC 3000) (fun n b=>if Lt.plus (IntKind.i64.wrap (n+1)) b.Name.length<=3000 then Lt.plus (Lt.plus (IntKind.i64.wrap (n+1)) b.Name.length) b.A.S.length else Lt.plus (IntKind.i64.wrap (n+1)) b.Name.length) MX (fun _=>rfl) (fun _ _ _=>rfl) LW (fun b x hx h0 h1=>?_) l b h h0 h1;exact yO h0 (GU h0 h1 hx.1) hx.2
theorem Qa {d:Nat} (l:List Lt.In) (b:Int) (h:∀ v∈l,sIn v) (h0:0<=b) (h1:b<=Bd d):Pc d b (l.map wIn).sum (Lt.Aq 3000 l b):=by
 refine ls (Lt.Aq 3000) (fun n b=>if Lt.plus (IntKind.i64.wrap (n+1)) b.Block.length<=3000 then Lt.plus (Lt.plus (IntKind.i64.wrap (n+1)) b.Block.length) b.A.S.length else Lt.plus (IntKind.i64.wrap (n+1)) b.Block.length) wIn (fun _=>rfl) (fun _ _ _=>rfl) sIn (fun b x hx h0 h1=>?_) l b h h0 h1;exact yO h0 (GU h0 h1 hx.1) hx.2
theorem jo {d:Nat} {b:Int} {w w':Nat} {n r:Int} (h0:0<=b) (h:Pc d b w n) (h':0<=n->n<=Bd d->Pc d n w' r):Pc d b (w+w') r:=by
 have hB:=Gv d
 have h2:=h' (by unfold Pc at h; omega) (by unfold Pc at h; omega)
 unfold Pc at h h2 ⊢; omega
theorem LI {d:Nat} {b:Int} {k:Nat} (h0:0<=b) (h1:b<=3000) (hk:k<=140737488355328):Pc d b k (Lt.plus b k):=by
 rw [gl (by omega) (by omega) (by omega)]; unfold Pc Bd; omega
theorem Jj {d:Nat} (l:List Lt.Frame) (b:Int) (h:∀ v∈l,EE v) (h0:0<=b) (h1:b<=Bd d):Pc d b (l.map DE).sum (Lt.jq 3000 l b):=by
 refine ls (Lt.jq 3000) (fun n f=>Lt.lC 3000 f.Vars (if Lt.plus n f.Func.length<=3000 then Lt.plus (Lt.plus n f.Func.length) f.Block.length else Lt.plus n f.Func.length)) DE (fun _=>rfl) (fun _ _ _=>rfl) EE (fun b x hx h0 h1=>?_) l b h h0 h1;exact jo h0 (yO h0 (LI h0 h1 hx.1) hx.2.1) (Lo x.Vars _ hx.2.2)
theorem NJ {d:Nat} (hd:d < 9) (l:List Lt.Virt) (b:Int) (h:∀ v∈l,Qu v) (h0:0<=b) (h1:b<=Bd (d+1)):Pc (d+1) b (l.map QA).sum (Lt.pM 3000 l b):=by
 refine ls (Lt.pM 3000) (fun n o=>if Lt.plus n o.Class.length<=3000 then IntKind.i64.wrap (Lt.plus n o.Class.length+Lt.dk o.Vals 3000) else Lt.plus n o.Class.length) QA (fun _=>rfl) (fun _ _ _=>rfl) Qu (fun b x hx h0 h1=>?_) l b h h0 h1;exact nO hd h0 (LI h0 h1 hx.1) (rR _ hx.2)
theorem RB {d:Nat} (l:List (List UInt8)) (b:Int) (h:∀ v∈l,short v) (h0:0<=b) (h1:b<=Bd d):Pc d b (l.map wTo).sum (Lt.cTo 3000 l b):=by
 refine ls (Lt.cTo 3000) (fun n t=>Lt.plus (IntKind.i64.wrap (n+1)) t.length) wTo (fun _=>rfl) (fun _ _ _=>rfl) short (fun b x hx h0 h1=>?_) l b h h0 h1;exact GU h0 h1 hx
theorem NZ {d:Nat} (l:List Lt.Phi) (b:Int) (h:∀ v∈l,Oq v) (h0:0<=b) (h1:b<=Bd d):Pc d b (l.map Ra).sum (Lt.oP 3000 l b):=by
 refine ls (Lt.oP 3000) (fun n x=>Lt.Aq 3000 x.Ins (Lt.plus (IntKind.i64.wrap (n+1)) x.Dst.length)) Ra (fun _=>rfl) (fun _ _ _=>rfl) Oq (fun b x hx h0 h1=>?_) l b h h0 h1;exact jo h0 (GU h0 h1 hx.1) (Qa x.Ins _ hx.2)
theorem PD {d:Nat} {b:Int} {w k:Nat} {n r:Int} (hd:d < 9) (h0:0<=b) (hn:n=b+(w:Int)) (h1:n<=3000) (hk:Pc d 0 k r):Pc (d+1) b (w+k) (IntKind.i64.wrap (n+r)):=by
 unfold Pc Bd at hk ⊢;rw [jO (by omega) (by omega)]; omega
theorem yr (x:Lt.Instr) (h:sQ x):Pc 1 0 (ye x) (Lt.dN x 3000):=by
 obtain ⟨h1,h2,h3,h4,h5⟩:=h;unfold short at h1 h2;unfold Lt.dN;split
 ·rename_i hc;rw [jO (by omega) (by omega)]; unfold Pc Bd; omega
 ·rename_i hc;simp only [T5,decide_eq_true_eq,not_or] at hc;have e:Lt.plus (Lt.plus (Lt.plus 1 x.Dst.length) x.Frames.length) x.Objs.length=1+(x.Dst.length:Int)+x.Frames.length+x.Objs.length:=by
   have e1:=gl (n:=1) (k:=x.Dst.length) (by omega) (by omega) (by omega)
   have e2:=gl (n:=1+(x.Dst.length:Int)) (k:=x.Frames.length) (by omega) (by omega) (by omega)
   have e3:=gl (n:=1+(x.Dst.length:Int)+x.Frames.length) (k:=x.Objs.length) (by omega) (by omega) (by omega)
   rw [e1,e2,e3]
  have p1:Pc 1 0 (1+x.Dst.length+x.Frames.length+x.Objs.length) (Lt.plus (Lt.plus (Lt.plus 1 x.Dst.length) x.Frames.length) x.Objs.length):=by
   rw [e]; unfold Pc Bd; omega
  have p2:=nO (by omega) (by omega) p1 (M9 h2)
  have p3:=nO (by omega) (by omega) p2 (rR x.Args h3)
  have p4:=jo (by omega) p3 (Jj x.Frames _ h4)
  exact jo (by omega) p4 (NJ (by omega) x.Objs _ h5)
theorem Nr (l:List Lt.Instr) (b:Int) (h:∀ v∈l,sQ v) (h0:0<=b) (h1:b<=Bd 2):Pc 2 b (l.map ye).sum (Lt.nl 3000 l b):=by
 refine ls (Lt.nl 3000) (fun n x=>IntKind.i64.wrap (n+Lt.dN x 3000)) ye (fun _=>rfl) (fun _ _ _=>rfl) sQ (fun b x hx h0 h1=>?_) l b h h0 h1;have:=PD (b:=b) (w:=0) (n:=b) (by omega) h0 (by omega) h1 (yr x hx)
 rwa [TJ] at this
theorem zF (x:Lt.Block) (h:tc x):Pc 2 0 (yE x) (Lt.dB x 3000):=by
 obtain ⟨h1,h2,h3,h4,h5⟩:=h;unfold tJ at h2;unfold short at h1 h2;unfold Lt.dB;split
 ·rw [jO (by omega) (by omega)]; unfold Pc Bd; omega
 ·have p1:Pc 2 0 (1+x.Name.length) (Lt.plus 1 x.Name.length):=by
   rw [gl (by omega) (by omega) (by omega)]; unfold Pc Bd; omega
  have p2:=nO (by omega) (by omega) p1 (M9 h2)
  have p3:=jo (by omega) p2 (RB x.End.To _ h3)
  have p4:=jo (by omega) p3 (NZ x.Phis _ h4)
  exact jo (by omega) p4 (Nr x.Code _ h5)
theorem JH (l:List Lt.Block) (b:Int) (h:∀ v∈l,tc v) (h0:0<=b) (h1:b<=Bd 3):Pc 3 b (l.map yE).sum (Lt.kU 3000 l b):=by
 refine ls (Lt.kU 3000) (fun n x=>IntKind.i64.wrap (n+Lt.dB x 3000)) yE (fun _=>rfl) (fun _ _ _=>rfl) tc (fun b x hx h0 h1=>?_) l b h h0 h1;have:=PD (b:=b) (w:=0) (n:=b) (by omega) h0 (by omega) h1 (zF x hx)
 rwa [TJ] at this
theorem It (f:Lt.Func) (h:Px f):Pc 3 0 (L2 f) (Lt.jG f 3000):=by
 obtain ⟨h1,h2,h3,h4,h5⟩:=h;unfold short at h1 h2;unfold Lt.jG;split
 ·rw [jO (by omega) (by omega)]; unfold Pc Bd; omega
 ·have p1:Pc 3 0 (1+f.Name.length) (Lt.plus 1 f.Name.length):=by
   rw [gl (by omega) (by omega) (by omega)]; unfold Pc Bd; omega
  have p2:=nO (by omega) (by omega) p1 (M9 h2)
  have p3:=nO (by omega) (by omega) p2 (r8 f.Params h3)
  have p4:=nO (by omega) (by omega) p3 (r8 f.Vars h4)
  exact jo (by omega) p4 (JH f.Blocks _ h5)
end Go.Am
end
