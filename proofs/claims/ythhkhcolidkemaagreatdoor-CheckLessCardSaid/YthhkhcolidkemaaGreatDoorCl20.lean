/-
  Part 20: AmRd · AmCl14 · AmKC · AmCl14b · AmKL · AmFew6a · AmFew6.
-/
import Derived.Test.YthhkhcolidkemaaGreatDoorCl19
import Derived.MapFrom
set_option linter.unusedSimpArgs false
set_option linter.unusedVariables false
set_option linter.unusedSectionVars false
set_option linter.unnecessarySimpa false
open Lt
open Go.Proofs.Tryz
open Go.IntKind (i64)
section
namespace Go.Am
open Go Go.RowKit Go.Proofs Go.MapKept
def pF (w:List UInt8) (df:Nat):List (List UInt8×Nat)->Nat
 | []=>df
 | (w0,f)::r=>if decide (w=w0)=true then f else pF w df r
theorem yE (w:List UInt8) (K:Nat->Prop) (df:Nat):∀ tab,swP w K df tab=K (pF w df tab)
 | []=>rfl
 | (w0,f)::r=>by
  rw [swP,pF,yE w K df r];split <;> rfl
section
variable {P:Program}
theorem SY {o:Oper} {a:Act} {next:Act->World->Prop} {Q:Exit->Act->World->Prop} {mt kt et:TypeId} {r:Nat} {es:Array MapEntry} {clock:Nat} {k:ByteArray} {v:Value} {w:World}
  (hm:P.underlying mt=some (.map kt et)) (hd:P.underlying kt=some .string) (hb:w.heap[r]? = some (.map es clock)) (hf:Instr.findNow .string (.string k) es.toList 0=some none)
  (h:∀ w2,w2.heap[r]? = some (.map (es.push { key:=.string k,val:=v,born:=clock }) (clock+1))->Below r w w2->next (a.put o.dst undef) w2) :
  o.upon P a next Q (((Instr.mapUpdate mt (.map (some r)) (.string k) v).run P w).andThen fun _ w'=>.ok Next.skip w'):=by
 have hrun:(Instr.mapUpdate mt (.map (some r)) (.string k) v).run P w=.ok () { w with heap:=w.heap.setIfInBounds r (.map (es.push { key:=.string k,val:=v,born:=clock }) (clock+1)) }:=by
  simp [Instr.mapUpdate,run_underlying hm,MapKept.run_getObj_map hb,run_checkKey hd (k:=.string k) trivial,run_findKey hd hf,run_setObj_map _ hb,Result.andThen]
 rw [hrun];exact h _ (heap_set hb).1 ⟨rfl,rfl,rfl,by simp,fun j hj=>(heap_set hb).2 j (by omega)⟩
theorem E1 (s:ByteArray):∀ (es:List MapEntry) (tab:List (List UInt8×Nat)) (i:Nat),es.map (fun e=>(e.key,e.val))=tab.map (fun x=>(Value.string ⟨x.1.toArray⟩,Value.func (.func x.2) #[] #[])) ->
  (∃ x∈tab,(∃ j,Instr.findNow .string (.string s) es i=some (some (j,.func (.func x.2) #[] #[])))/\∀ df,pF s.data.toList df tab=x.2)\/(Instr.findNow .string (.string s) es i=some none/\∀ df,pF s.data.toList df tab=df)
 | [],[],i,_=>.inr ⟨rfl,fun _=>rfl⟩
 | [],_::_,i,h=>by simp at h
 | _::_,[],i,h=>by simp at h
 | e::es,(k,f)::tab,i,h=>by
  obtain ⟨ek,ev,eb⟩:=e;simp only [List.map_cons,List.cons.injEq,Prod.mk.injEq] at h;obtain ⟨⟨rfl,rfl⟩,h⟩:=h;unfold Instr.findNow;simp only [Instr.sameNow];by_cases hc:s=⟨k.toArray⟩
  ·have e1:(s==⟨k.toArray⟩)=true:=(bytes_beq _ _).2 hc
   rw [e1];refine .inl ⟨(k,f),by simp,⟨i,rfl⟩,fun df=>?_⟩;have:s.data.toList=k:=by rw [hc]
   rw [pF,if_pos (by simp [this])]
  ·have e1:(s==⟨k.toArray⟩)=false:=by
    rw [Bool.eq_false_iff]; exact fun e=>hc ((bytes_beq _ _).1 e)
   rw [e1];have n1:¬ s.data.toList=k:=by
    rintro rfl
    exact hc (by obtain ⟨x⟩:=s; simp)
   rcases E1 s es tab (i+1) h with ⟨x,hx,hj,hp⟩ | ⟨h1,h2⟩
   ·exact .inl ⟨x,by simp [hx],hj,fun df=>by rw [pF,if_neg (by simpa using n1)]; exact hp df⟩
   ·exact .inr ⟨h1,fun df=>by rw [pF,if_neg (by simpa using n1)]; exact h2 df⟩
theorem GF {mt kt et:TypeId} {r:Nat} {es:Array MapEntry} {clock:Nat} {s:ByteArray} {w:World} (hm:P.underlying mt=some (.map kt et)) (hd:P.underlying kt=some .string) (hz:(zeroValue et).run P w=.ok .nilFunc w)
  (hb:w.heap[r]? = some (.map es clock)) {x:Option (Nat×Value)} (hf:Instr.findNow .string (.string s) es.toList 0=some x) :
  (Instr.lookup mt (.map (some r)) (.string s) false).run P w=.ok (match x with | some (_,v)=>v | none=>.nilFunc) w:=by
 cases x with
 | none=>simp [Instr.lookup,run_underlying hm,MapKept.run_getObj_map hb,run_checkKey hd (k:=.string s) trivial,run_findKey hd hf,hz,Result.andThen]
 | some y=>obtain ⟨j,v⟩:=y; simp [Instr.lookup,run_underlying hm,MapKept.run_getObj_map hb,run_checkKey hd (k:=.string s) trivial,run_findKey hd hf,Result.andThen]
end
theorem Ui {P:Program} {t:TypeId} {ps rs:Array TypeId} {va:Bool} {f:Fn} {a b:Array Value} (h:P.underlying t=some (.func ps rs va)) (w:World):(Op.equal t (.func f a b) .nilFunc).run P w=.ok false w:=by
 unfold Op.equal Op.maxDepth;rw [show (10000:Nat)=9999+1 from rfl];unfold Op.equalIn;simp only [Sem.run_bind,run_underlying h,Result.andThen];rfl
theorem Jr {P:Program} {t:TypeId} {ps rs:Array TypeId} {va:Bool} (h:P.underlying t=some (.func ps rs va)) (w:World):(Op.equal t .nilFunc .nilFunc).run P w=.ok true w:=by
 unfold Op.equal Op.maxDepth;rw [show (10000:Nat)=9999+1 from rfl];unfold Op.equalIn;simp only [Sem.run_bind,run_underlying h,Result.andThen];rfl
theorem RW {P:Program} {t:TypeId} {ps rs:Array TypeId} {va:Bool} {f:Fn} {a b:Array Value} (h:P.underlying t=some (.func ps rs va)) (w:World):(binOp .neq t (.func f a b) .nilFunc).run P w=.ok (.bool true) w:=by
 show (do pure (.bool (!(<- Op.equal t (.func f a b) .nilFunc))):Sem Value).run P w=_
 simp only [Sem.run_bind,Ui h,Result.andThen];rfl
theorem Gi {P:Program} {t:TypeId} {ps rs:Array TypeId} {va:Bool} (h:P.underlying t=some (.func ps rs va)) (w:World):(binOp .neq t .nilFunc .nilFunc).run P w=.ok (.bool false) w:=by
 show (do pure (.bool (!(<- Op.equal t .nilFunc .nilFunc))):Sem Value).run P w=_
 simp only [Sem.run_bind,Jr h,Result.andThen];rfl
theorem Wi {es0:Array MapEntry} {c0:Nat} {f:Option Obj} (hb:f=some (.map es0 c0)) {L:List (Value×Value)} (he:es0.toList.map (fun e=>(e.key,e.val))=L):∃ es c,f=some (.map es c)/\es.toList.map (fun e=>(e.key,e.val))=L:=⟨es0,c0,hb,he⟩
def OM:List (List UInt8×Nat):=[([115,115,97],132),([99,108,97,115,115],133),([102,105,101,108,100],134),([103,108,111,98,97,108],135),([101,120,116,101,114,110],136),([102,117,110,99],137),([112,97,114,97,109],138),([118,97,114],139),([98,108,111,99,107],140),([112,104,105],141),([97,116],142),([111,98,106],143),([106,117,109,112],144),([98,114,97,110,99,104],144),([114,101,116],144),([116,114,97,112],144)]
set_option maxRecDepth 100000 in
theorem C0 (s:ByteArray) (w:World) :
  Calls prog 78 #[.string s] w fun e w'=>e=.returned (.func (.func (pF s.data.toList 79 OM)) #[] #[])/\Below w.heap.size w w':=by
 have hmm:=@run_makeMap prog
 have hm:=underlying199
 have hd:=underlying9
 have hz:∀ w,(zeroValue 132).run prog w=.ok .nilFunc w:=zeroValue132
 have hb:(w.alloc (.map #[] 0)).heap[w.heap.size]? = some (.map #[] 0):=(heap_alloc w _).1
 have hB:Below w.heap.size w (w.alloc (.map #[] 0)):=(Below.refl _ w).alloc (YY _) _
 go_enter func78,Tryz.ntmps78
 go_wp2
 iterate 16
  refine SY hm hd hb (by kernel_rfl) (fun w2 hb2 hB2=>?_)
  replace hB:=hB.trans hB2
  replace hb:=hb2
  clear hB2 hb2
  go_wp2
 obtain ⟨es,c,hb,he⟩:=Wi hb (L:=OM.map (fun x=>(Value.string ⟨x.1.toArray⟩,Value.func (.func x.2) #[] #[]))) (by kernel_rfl);rcases E1 s es.toList OM 0 he with ⟨x,hx,⟨j,hj⟩,hp⟩ | ⟨h1,hp⟩
 ·rw [GF hm hd (hz _) hb hj];simp only [Result.andThen];rw [Oper.upon_value]
  go_wp2
  rw [RW underlying132];simp only [Result.andThen];rw [Oper.upon_value]
  go_wp2
  go_ret
  exact ⟨by rw [hp]; rfl,hB⟩
 ·rw [GF hm hd (hz _) hb h1];simp only [Result.andThen];rw [Oper.upon_value]
  go_wp2
  rw [Gi underlying132];simp only [Result.andThen];rw [Oper.upon_value]
  go_wp2
  go_ret
  exact ⟨by rw [hp]; rfl,hB⟩
theorem WI {v:At} {x:List UInt8} (h:bq [.s] [v]=some x):v.noRf=true/\v.toV.isFz=true/\v.toV.map T.canon=.one (.c (.d (.str x))):=by
 obtain ⟨h1,h2,h3⟩:=cR h;refine ⟨by simpa using h1,by simpa using h2,?_⟩;have:[v.toV.map T.canon]=[AV.one (.c (.d (.str x)))]:=h3
 simpa using this
def pQ:CKt:=swT OM 79
theorem Jm:Cont prog 78 pQ:=by
 refine ⟨gE (fn:=f78) (by kernel_rfl) (by kernel_rfl) (by kernel_rfl),fun pk s ops k k' hk hc=>?_,fun g pk s a w H γ F1 ops k hX hops hc=>?_⟩
 ·unfold pQ swT at hc ⊢;dsimp only at hc ⊢;split at hc
  ·rw [yE] at hc ⊢;exact hk _ _ (bz _ _) hc
  ·exact hc.elim
 ·unfold pQ swT at hc;dsimp only at hc;obtain ⟨H1,F2,h1⟩:=cg (ops.map (evA s)) s H F1 hX;generalize bm s (ops.map (evA s))=s1 at hc h1;split at hc
  ·rename_i x hx;rw [yE] at hc
   match ops,hx with
   | [],hx=>simp [bq] at hx
   | [o],hx=>
    obtain ⟨_,hz,hcn⟩:=WI hx;have hop:au o=true:=by simpa using hops
    have hv:=az h1 hop
    rw [ac hop] at hv;have hv2:=dl bT (j6 (w':=w) (γ':=γ) (m':=[]) (fun _ _ _ h=>h) hz hv)
    rw [hcn] at hv2;obtain ⟨e1,_⟩:=j7 hv2;show Calls _ _ #[a.eval o] w _
    rw [e1];refine (C0 ⟨x.toArray⟩ w).mono ?_;rintro e w' ⟨rfl,hb⟩
    rw [oM];have hsame:∀ b,tot F2 s1.toS.m b≠0->w'.heap[b]? = w.heap[b]? := fun b hb'=>hb.block b (h1.mem.lt b hb')
    have hKp:=cf (w':=w') h1.mem hsame
    have hmem:Mem w' H1 γ s1.toS.m F2:=by
     refine ⟨fun b o y hy=>?_,fun x hx=>aI hKp (fun _ _ _ h=>h) rfl (fun b hb'=>hsame b (by have:=aN (F:=F2) hx b; omega)) (h1.mem.roots x hx),h1.mem.keys,h1.mem.le1,fun b hb'=>by have:=h1.mem.lt b hb'; have:=hb.size; omega,h1.mem.nofz⟩;have hlt:b<w.heap.size:=(h1.mem.agree b o y hy).lt
     exact (h1.mem.agree b o y hy).frame (hb.block b hlt)
    have hFr:Fr w H1 (tot F2 s1.toS.m) w' H1 (tot F2 s1.toS.m):=
     ⟨hb.size,hb.os,hb.tape,hb.output,fun b hb' _=>hb.block b hb',fun _ _ _ h=>h,fun b o h2 h3=>absurd h3 h2,fun b hb=>.inl hb,fun b h0=>h0.of_block (hb.block b h0.lt),iT.2⟩
    exact .inl ⟨_,s1,sct (.v (.func (.func (pF x 79 OM)) #[] #[])),H1,γ,F2,rfl,hc,⟨fun _=>rfl,0,rfl,rfl⟩,eG h1 hmem hFr (fun i=>bQ hKp (fun _ _ _ h=>h) (h1.t i)) (fun _=>rfl)⟩
   | _::_::_,hx=>simp [bq] at hx
  ·exact hc.elim
end Go.Am
end

section
namespace Go.Am
open Go Go.Proofs
set_option maxRecDepth 100000
def eU:Ut:=[(58,(.st .Class)),(95,(.st .Var)),(60,(.st .Extern)),(36,(.st .Func)),(49,(.st .Block)),(88,(.st .Phi)),(54,(.st .Instr)),(9,.s),(44,(.st .Arg)),(147,(.st .Frame)),(151,(.st .Virt)),(64,(.st .Asked)),(79,(.st .Line)),(5,.b8),(90,(.st .In)),(4,.bo),(118,(.mp .s .bo)),(3,(.i .i64)),(149,(.st .Bind)),(134,(.sl (.i .i64))),(182,(.st .RLine)),(255,(.st .step))]
def eS:List (TypeId×List Sh):=[(27,[.fr,.ow [.fr,.ow [.fr,.fr]],.ow [.fr,.fr],.ow [.fr,.fr],.ow [.fr,.fr,.ow [.fr,.fr],.ow [.fr,.fr],.ow [.fr,.ow [.fr,.fr],.ow [.fr,.fr,.fr,.fr,.ow [.fr,.fr,.fr,.fr],.ow [.fr,.fr]],.fr,.fr,.fr,.fr,.fr,.fr]]]),(36,[.fr,.fr,.ow [.fr,.fr],.ow [.fr,.fr],.ow [.fr,.ow [.fr,.fr],.ow [.fr,.fr,.fr,.fr,.ow [.fr,.fr,.fr,.fr],.ow [.fr,.fr]],.fr,.fr,.fr,.fr,.fr,.fr]]),(49,[.fr,.ow [.fr,.fr],.ow [.fr,.fr,.fr,.fr,.ow [.fr,.fr,.fr,.fr],.ow [.fr,.fr]],.fr,.fr,.fr,.fr,.fr,.fr]),(54,[.fr,.fr,.fr,.fr,.ow [.fr,.fr,.fr,.fr],.ow [.fr,.fr]]),(58,[.fr,.ow [.fr,.fr]]),(73,[.fr,.ow [.fr,.ow [.fr,.fr]],.ow [.fr,.fr],.ow [.fr,.fr],.ow [.fr,.fr,.ow [.fr,.fr],.ow [.fr,.fr],.ow [.fr,.ow [.fr,.fr],.ow [.fr,.fr,.fr,.fr,.ow [.fr,.fr,.fr,.fr],.ow [.fr,.fr]],.fr,.fr,.fr,.fr,.fr,.fr]],.fr,.fr,.fr,.fr]),(74,[.fr,.ow [.fr,.ow [.fr,.fr]],.ow [.fr,.fr],.ow [.fr,.fr],.ow [.fr,.fr,.ow [.fr,.fr],.ow [.fr,.fr],.ow [.fr,.ow [.fr,.fr],.ow [.fr,.fr,.fr,.fr,.ow [.fr,.fr,.fr,.fr],.ow [.fr,.fr]],.fr,.fr,.fr,.fr,.fr,.fr]],.fr,.fr,.fr,.fr]),(157,[.fr,.ow [.fr,.ow [.fr,.fr]],.ow [.fr,.fr],.ow [.fr,.fr],.ow [.fr,.fr,.ow [.fr,.fr],.ow [.fr,.fr],.ow [.fr,.ow [.fr,.fr],.ow [.fr,.fr,.fr,.fr,.ow [.fr,.fr,.fr,.fr],.ow [.fr,.fr]],.fr,.fr,.fr,.fr,.fr,.fr]],.fr,.fr,.fr,.fr,.ow [.fr,.fr,.fr,.fr],.ow [.fr,.fr],.fr,.fr]),(158,[.fr,.ow [.fr,.ow [.fr,.fr]],.ow [.fr,.fr],.ow [.fr,.fr],.ow [.fr,.fr,.ow [.fr,.fr],.ow [.fr,.fr],.ow [.fr,.ow [.fr,.fr],.ow [.fr,.fr,.fr,.fr,.ow [.fr,.fr,.fr,.fr],.ow [.fr,.fr]],.fr,.fr,.fr,.fr,.fr,.fr]],.fr,.fr,.fr,.fr,.ow [.fr,.fr,.fr,.fr],.ow [.fr,.fr],.fr,.fr]),(179,[.fr,.ow [.fr,.ow [.fr,.fr]],.ow [.fr,.fr],.ow [.fr,.fr],.ow [.fr,.fr,.ow [.fr,.fr],.ow [.fr,.fr],.ow [.fr,.ow [.fr,.fr],.ow [.fr,.fr,.fr,.fr,.ow [.fr,.fr,.fr,.fr],.ow [.fr,.fr]],.fr,.fr,.fr,.fr,.fr,.fr]],.fr,.fr]),(180,[.fr,.ow [.fr,.ow [.fr,.fr]],.ow [.fr,.fr],.ow [.fr,.fr],.ow [.fr,.fr,.ow [.fr,.fr],.ow [.fr,.fr],.ow [.fr,.ow [.fr,.fr],.ow [.fr,.fr,.fr,.fr,.ow [.fr,.fr,.fr,.fr],.ow [.fr,.fr]],.fr,.fr,.fr,.fr,.fr,.fr]],.fr,.fr])]
abbrev eP:List (TypeId×List Sh):=[(134,[.ow [.fr]])]
abbrev shR:List Sh:=[.fr,.ow [.fr,.ow [.fr,.fr]],.ow [.fr,.fr],.ow [.fr,.fr],.ow [.fr,.fr,.ow [.fr,.fr],.ow [.fr,.fr],.ow [.fr,.ow [.fr,.fr],.ow [.fr,.fr,.fr,.fr,.ow [.fr,.fr,.fr,.fr],.ow [.fr,.fr]],.fr,.fr,.fr,.fr,.fr,.fr]],.fr,.fr,.fr,.fr]
noncomputable def x75:Cl 75:=⟨fnB [.s,.s] [.sl .s] (fun x=>decide (x.1.length < 4294967281)&&decide (1<=x.2.length)) (fun x=>Ce x.1 x.2),_,xz (fun x h=>by simp only [YV,decide_eq_true_eq] at h; exact h),QN⟩
noncomputable def x76:Cl 76:=⟨fnB [.s,.s] [.s,.s,.bo] (fun x=>decide (x.1.length < 4294967281)) (fun x=>XT x.1 x.2),_,xz (fun x h=>of_decide_eq_true h),WD⟩
noncomputable def Yv:Cl 131:=clL eU eP [] 80 f131 [.b8] [.bo]
noncomputable def x77:Cl 77:=clP eU eP [⟨_,Yv⟩] 80 f77 [.s] [.sl .s,.bo]
noncomputable def x35:Cl 35:=clP eU eP [⟨_,x75⟩,⟨_,x76⟩,⟨_,x77⟩] 80 f35 [.s] [(.sl (.st .Line)),.i .i64,.i .i64]
noncomputable def x80:Cl 80:=clN eU eS [] 80 f80
noncomputable def Yw:Cl 132:=clM eU eS [⟨_,x80⟩] 80 f132 [.sl .s] [] shR (.st .Reader)
noncomputable def x81:Cl 81:=clL eU eS [] 80 f81 [(.sl (.i .i64)),.i .i64] [.bo]
noncomputable def x38:Cl 38:=clN eU eS [⟨_,x81⟩,⟨_,x80⟩] 80 f38
noncomputable def x89:Cl 89:=clL eU eP [] 80 f89 [.b8] [.bo]
noncomputable def x90:Cl 90:=clL eU eP [] 80 f90 [.s] [.bo]
noncomputable def x91:Cl 91:=clL eU eP [] 80 f91 [.b8] [.bo]
noncomputable def x47:Cl 47:=clL eU eP [⟨_,x89⟩,⟨_,x90⟩,⟨_,x91⟩] 80 f47 [.s] [.bo]
noncomputable def uh:Cl 145:=clL eU eS [⟨_,x47⟩,⟨_,x80⟩] 80 f145 [.s] [.s]
noncomputable def vo:Cl 190:=clN eU eS [] 80 f190
noncomputable def Yx:Cl 133:=clM eU eS [⟨_,x38⟩,⟨_,x80⟩,⟨_,uh⟩,⟨_,vo⟩] 80 f133 [.sl .s] [] shR (.st .Reader)
noncomputable def Ta:Cl 191:=clL eU eS [⟨_,x47⟩,⟨_,x80⟩] 80 f191 [.s] [.s]
noncomputable def Yy:Cl 134:=clM eU eS [⟨_,x38⟩,⟨_,x80⟩,⟨_,uh⟩,⟨_,Ta⟩,⟨_,vo⟩] 80 f134 [.sl .s] [] shR (.st .Reader)
noncomputable def Yz:Cl 135:=clM eU eS [⟨_,x38⟩,⟨_,x80⟩,⟨_,uh⟩,⟨_,Ta⟩,⟨_,vo⟩] 80 f135 [.sl .s] [] shR (.st .Reader)
noncomputable def YN:Cl 233:=clF [.i .i64] [.s] (fun _=>[49]) (fun x=>decide (x=(1:Int))) (fun x h=>of_decide_eq_true h) WF
noncomputable def VB:Cl 197:=clL eU eP [⟨_,YN⟩] 80 f197 [.s] [.i .i64,.bo]
noncomputable def Yf:Cl 192:=clL eU eS [⟨_,VB⟩,⟨_,x80⟩] 80 f192 [.s,.i .i64,.i .i64] [.i .i64]
noncomputable def YA:Cl 136:=clM eU eS [⟨_,x38⟩,⟨_,x80⟩,⟨_,uh⟩,⟨_,Yf⟩,⟨_,vo⟩] 80 f136 [.sl .s] [] shR (.st .Reader)
noncomputable def YB:Cl 137:=clM eU eS [⟨_,x38⟩,⟨_,x80⟩,⟨_,uh⟩,⟨_,Ta⟩,⟨_,vo⟩] 80 f137 [.sl .s] [] shR (.st .Reader)
noncomputable def Vz:Cl 193:=clN eU eS [] 80 f193
noncomputable def YC:Cl 138:=clM eU eS [⟨_,x38⟩,⟨_,x80⟩,⟨_,uh⟩,⟨_,Ta⟩,⟨_,Vz⟩,⟨_,vo⟩] 80 f138 [.sl .s] [] shR (.st .Reader)
noncomputable def YD:Cl 139:=clM eU eS [⟨_,x38⟩,⟨_,x80⟩,⟨_,uh⟩,⟨_,Ta⟩,⟨_,Vz⟩,⟨_,vo⟩] 80 f139 [.sl .s] [] shR (.st .Reader)
noncomputable def YK:Cl 194:=clN eU eS [] 80 f194
noncomputable def YE:Cl 140:=clM eU eS [⟨_,YK⟩,⟨_,x80⟩,⟨_,uh⟩,⟨_,Vz⟩,⟨_,vo⟩] 80 f140 [.sl .s] [] shR (.st .Reader)
noncomputable def YR:Cl 264:=⟨fnB [.s,.s] [.s,.bo] (fun _=>true) (fun x=>VX x.1 x.2),_,Rf,T3⟩
noncomputable def YS:Cl 265:=⟨fnB [.s,.b8] [.i .i64] (fun _=>true) (fun x=>Rk x.1 x.2),_,Rf,QM⟩
noncomputable def YP:Cl 247:=clL eU eP [] 80 f247 [.i .i64] [.i .i64]
noncomputable def YQ:Cl 252:=clL eU eP [⟨_,YR⟩,⟨_,YS⟩,⟨_,YP⟩] 80 f252 [.s] [.i .i64,.bo]
noncomputable def YO:Cl 245:=clP eU eP [⟨_,YQ⟩,⟨_,VB⟩] 80 f245 [.s] [.st .Arg,.bo]
noncomputable def YM:Cl 232:=clP eU eP [⟨_,x47⟩,⟨_,VB⟩,⟨_,YO⟩] 80 f232 [.s] [.st .Arg,.bo]
noncomputable def VA:Cl 195:=clP eU eS [⟨_,YM⟩,⟨_,x80⟩] 80 f195 [.s,.bo] [.st .Arg]
noncomputable def Ye:Cl 149:=clN eU eS [⟨_,vo⟩] 80 f149
noncomputable def Vy:Cl 150:=clN eU eS [⟨_,Vz⟩] 80 f150
noncomputable def YF:Cl 141:=clM eU eS [⟨_,x38⟩,⟨_,x80⟩,⟨_,uh⟩,⟨_,VA⟩,⟨_,vo⟩,⟨_,Ye⟩,⟨_,Vy⟩] 80 f141 [.sl .s] [] shR (.st .Reader)
noncomputable def Yg:Cl 196:=clN eU eS [⟨_,Vy⟩] 80 f196
noncomputable def YG:Cl 142:=clM eU eS [⟨_,x38⟩,⟨_,x80⟩,⟨_,uh⟩,⟨_,Yf⟩,⟨_,VA⟩,⟨_,vo⟩,⟨_,Yg⟩] 80 f142 [.sl .s] [] shR (.st .Reader)
noncomputable def Yd:Cl 148:=clP eU eS [⟨_,VA⟩] 80 f148 [.sl .s,.bo] [(.sl (.st .Arg))]
noncomputable def YH:Cl 143:=clM eU eS [⟨_,x38⟩,⟨_,x80⟩,⟨_,uh⟩,⟨_,Yd⟩,⟨_,Yg⟩,⟨_,vo⟩] 80 f143 [.sl .s] [] shR (.st .Reader)
noncomputable def YI:Cl 144:=clM eU eS [⟨_,x38⟩,⟨_,x80⟩,⟨_,uh⟩,⟨_,VA⟩,⟨_,VB⟩,⟨_,Vy⟩] 80 f144 [.sl .s] [] shR (.st .Reader)
noncomputable def YL:Cl 198:=clL eU eS [] 80 f198 [.s,.i .i64] [.s]
noncomputable def Yc:Cl 147:=clP eU eS [⟨_,YL⟩] 80 f147 [.i .i64] [.st .Form,.bo]
noncomputable def YJ:Cl 146:=clL eU eS [⟨_,Yc⟩] 80 f146 [.s] [.i .i64,.bo]
noncomputable def x79:Cl 79:=clM eU eS [⟨_,x38⟩,⟨_,uh⟩,⟨_,YJ⟩,⟨_,x80⟩,⟨_,Yc⟩,⟨_,Yd⟩,⟨_,Ye⟩,⟨_,Vy⟩] 80 f79 [.sl .s] [] shR (.st .Reader)
noncomputable def x78:Cl 78:=⟨swB OM 79,_,Xd,Jm⟩
noncomputable def x37:Cl 37:=clM eU eS [⟨_,x78⟩,⟨_,Yw⟩,⟨_,Yx⟩,⟨_,Yy⟩,⟨_,Yz⟩,⟨_,YA⟩,⟨_,YB⟩,⟨_,YC⟩,⟨_,YD⟩,⟨_,YE⟩,⟨_,YF⟩,⟨_,YG⟩,⟨_,YH⟩,⟨_,YI⟩,⟨_,x79⟩] 80 f37 [.sl .s] [] shR (.st .Reader)
noncomputable abbrev lParse:ClS:=[⟨_,x35⟩,⟨_,x37⟩,⟨_,x38⟩]
abbrev X7:List UInt8:=[102,117,110,99,32,102,32,105,110,116,10,112,97,114,97,109,32,107,32,105,110,116,10,98,108,111,99,107,32,97,10,114,101,116,32,107,10]
abbrev XS:Lt.Func:=⟨[102],[105,110,116],[⟨[107],[105,110,116]⟩],[],[⟨[97],[],[],⟨3,⟨1,[107],0⟩,[],0⟩⟩]⟩
abbrev vj:Lt.Program:=⟨false,[],[],[],[XS]⟩
theorem ta0:tj 80 (clE eU eS lParse) f13 (kLs 4 (f13.body.getD .skip)) (kRs (4+1) (f13.body.getD .skip)) [.s] [.st .Program,.i .i64,.i .i64] X7 (fun y=>decide (y=(vj,0,0)))=true:=by kernel_rfl
abbrev X8:List UInt8:=[102,117,110,99,32,102,32,105,110,116,10,118,97,114,32,120,32,105,110,116,10,98,108,111,99,107,32,97,10,114,101,116,32,120,10]
abbrev Rg:Lt.Func:=⟨[102],[105,110,116],[],[⟨[120],[105,110,116]⟩],[⟨[97],[],[],⟨3,⟨1,[120],0⟩,[],0⟩⟩]⟩
abbrev qt:Lt.Program:=⟨false,[],[],[],[Rg]⟩
theorem ta1:tj 80 (clE eU eS lParse) f13 (kLs 4 (f13.body.getD .skip)) (kRs (4+1) (f13.body.getD .skip)) [.s] [.st .Program,.i .i64,.i .i64] X8 (fun y=>decide (y=(qt,0,0)))=true:=by kernel_rfl
abbrev X9:List UInt8:=[102,117,110,99,32,102,32,105,110,116,10,98,108,111,99,107,32,97,10,114,101,116,32,49,10,98,108,111,99,107,32,98,10,114,101,116,32,49,10]
abbrev Uo:Lt.Func:=⟨[102],[105,110,116],[],[],[⟨[97],[],[],⟨3,⟨2,[],1⟩,[],0⟩⟩,⟨[98],[],[],⟨3,⟨2,[],1⟩,[],0⟩⟩]⟩
abbrev r7:Lt.Program:=⟨false,[],[],[],[Uo]⟩
theorem ta2:tj 80 (clE eU eS lParse) f13 (kLs 4 (f13.body.getD .skip)) (kRs (4+1) (f13.body.getD .skip)) [.s] [.st .Program,.i .i64,.i .i64] X9 (fun y=>decide (y=(r7,0,0)))=true:=by kernel_rfl
set_option maxRecDepth 100000
abbrev eO:List (TypeId×List Sh):=[(7000000,[])]
abbrev eR:List (TypeId×List Sh):=[(3000035,[])]
abbrev eW:List (TypeId×List Sh):=[(3000053,[])]
def zS:CKt:=kH [.mp .s .bo] [.sl .s] (fun x=>ig x) (fun x y=>fp x y)
theorem NK:Cont prog 175 zS:=Jj
def vX:CKt:=RR (.gh 800000)
theorem En.ok0 {P:Program} {u:Ut} {sh:List (TypeId×List Sh)} {pk:PKt}:En.ok ⟨P,u,[],sh,pk⟩:=fun _ h=>by cases h
theorem En.okc {P:Program} {u:Ut} {sh:List (TypeId×List Sh)} {pk:PKt} {f:Nat} {C:CKt} {cs:CTt} (h:Cont P f C) (hs:En.ok ⟨P,u,cs,sh,pk⟩) (hf:Nat.blt f 1000000=true:=by rfl):En.ok ⟨P,u,(f,C)::cs,sh,pk⟩:=by
 intro x hx;rcases Y2.1 hx with rfl | hx
 ·exact ⟨fun _=>h,fun hb=>absurd hb (Nat.not_le.2 (YZ hf))⟩
 ·exact hs x hx
theorem En.okk {P:Program} {u:Ut} {sh:List (TypeId×List Sh)} {pk:PKt} {f:Nat} {C:CKt} {cs:CTt} (h:ContC P f C) (hs:En.ok ⟨P,u,cs,sh,pk⟩):En.ok ⟨P,u,(f,C)::cs,sh,pk⟩:=by
 intro x hx;rcases Y2.1 hx with rfl | hx
 ·exact ⟨fun hb=>absurd h.big (Nat.not_le.2 (YZ hb)),fun _=>h⟩
 ·exact hs x hx
theorem mixed:prog.follows .mixedOrders=true:=by kernel_rfl
def okF (n:Nat) (fn:Func):Bool:=fn.name != "runtime.NumGoroutine" && (fn.body.isSome&&(Nat.ble n fn.ntmps&&eX fn.ntmps (fn.body.getD .skip)))
theorem da {n:Nat} {fn:Func} (h:okF n fn=true):(fn.name == "runtime.NumGoroutine")=false/\fn.body.isSome=true/\Nat.ble n fn.ntmps=true/\eX fn.ntmps (fn.body.getD .skip)=true:=by
 unfold okF at h;simp only [YV,bne,Z2] at h;exact h
theorem kI {e:En} (he:e.ok) {f:Nat} {fn:Func} {an:An} (hf:e.P.funcs[f]? = some fn:=by kernel_rfl) (hb:(okF 0 fn&&Nat.ble fn.ntmps 100000)=true:=by kernel_rfl) (hm:e.P.follows .mixedOrders=true:=by exact mixed):Cont e.P f (cm e fn an):=
 have h:=da ((YV _ _).mp hb).1
 DS he hm hf h.1 h.2.1 h.2.2.2 ((YV _ _).mp hb).2
theorem kC {e:En} (he:e.ok) {f:Nat} {fn:Func} {an:An} (hf:e.P.funcs[f]? = some fn:=by kernel_rfl) (hb:(okF 0 fn&&Nat.ble fn.ntmps 100000)=true:=by kernel_rfl) (hm:e.P.follows .mixedOrders=true:=by exact mixed):ContC e.P (f+1000000) (ze e fn an):=
 have h:=da ((YV _ _).mp hb).1
 PE he hm hf h.1 h.2.1 h.2.2.2 ((YV _ _).mp hb).2
theorem k0 (e:En) (he:e.ok) {f:Nat} {fn:Func} (an:An) {ps rs:List U} {F:Fl ps->Fl rs} (law:∀ x,∀ KK:Fl rs->Prop,KK (F x)->ao e fn an ps rs x KK) (hf:e.P.funcs[f]? = some fn:=by kernel_rfl) (hb:okF ps.length fn=true:=by kernel_rfl) (hm:e.P.follows .mixedOrders=true:=by exact mixed):Cont e.P f (ay ps rs F):=
 wc he hm hf (da hb).1 (da hb).2.1 (da hb).2.2.1 (da hb).2.2.2 law
theorem k1 (e:En) (he:e.ok) {f:Nat} {fn:Func} (an:An) {ps rs:List U} {pre:Fl ps->Prop} {F:Fl ps->Fl rs} (law:∀ x,pre x->∀ KK:Fl rs->Prop,KK (F x)->ao e fn an ps rs x KK) (hf:e.P.funcs[f]? = some fn:=by kernel_rfl) (hb:okF ps.length fn=true:=by kernel_rfl) (hm:e.P.follows .mixedOrders=true:=by exact mixed):Cont e.P f (bg ps rs pre F):=
 Ab he hm hf (da hb).1 (da hb).2.1 (da hb).2.2.1 (da hb).2.2.2 law
theorem k2 (e:En) (he:e.ok) {f:Nat} {fn:Func} (an:An) {sh:List Sh} {u:U} {ps rs:List U} {pre:El u->Fl ps->Prop} {Fn:El u->Fl ps->Fl rs×El u} (law:∀ x y,pre x y->∀ KK:Fl rs×El u->Prop,KK (Fn x y)->QE e fn an sh u ps rs x y KK) (hf:e.P.funcs[f]? = some fn:=by kernel_rfl) (hb:okF (ps.length+1) fn=true:=by kernel_rfl) (hm:e.P.follows .mixedOrders=true:=by exact mixed):Cont e.P f (U4 sh u ps rs pre Fn):=
 PH he hm hf (da hb).1 (da hb).2.1 (da hb).2.2.1 (da hb).2.2.2 law
theorem k3 (e:En) (he:e.ok) {f:Nat} {fn:Func} (an:An) {u:U} {ps:List U} {pre:List (El u)->Fl ps->Prop} {Fn:List (El u)->Fl ps->List (El u)} (law:∀ x y,pre x y->∀ KK:List (El u)->Prop,KK (Fn x y)->QD e fn an u ps x y KK) (hf:e.P.funcs[f]? = some fn:=by kernel_rfl) (hb:okF (ps.length+1) fn=true:=by kernel_rfl) (hm:e.P.follows .mixedOrders=true:=by exact mixed):Cont e.P f (UZ u ps pre Fn):=
 PG he hm hf (da hb).1 (da hb).2.1 (da hb).2.2.1 (da hb).2.2.2 law
noncomputable abbrev eZ:En:=⟨prog,eU,[],[],noP⟩
theorem k6 (e:En) (he:e.ok) {f:Nat} {fn:Func} (an:An) {ps rs:List U} {pre:Fl ps->Prop} {F:Fl ps->Fl rs} (law:∀ x,pre x->∀ KK:Fl rs->Prop,KK (F x)->ao e fn an ps rs x KK) (hf:e.P.funcs[f]? = some fn:=by kernel_rfl) (hb:okF ps.length fn=true:=by kernel_rfl) (hm:e.P.follows .mixedOrders=true:=by exact mixed):Cont e.P f (FSx ps rs pre F):=
 MS he hm hf (da hb).1 (da hb).2.1 (da hb).2.2.1 (da hb).2.2.2 law
theorem k8 (e:En) (he:e.ok) {f:Nat} {fn:Func} (an:An) {ps rs:List U} {pre:Fl ps->Prop} {post:Fl ps->Fl rs->Prop} (law:∀ x,pre x->∀ KK:Fl rs->Prop,(∀ y,post x y->KK y)->ao e fn an ps rs x KK) (hf:e.P.funcs[f]? = some fn:=by kernel_rfl) (hb:okF ps.length fn=true:=by kernel_rfl) (hm:e.P.follows .mixedOrders=true:=by exact mixed):Cont e.P f (kH ps rs pre post):=
 PI he hm hf (da hb).1 (da hb).2.1 (da hb).2.2.1 (da hb).2.2.2 law
abbrev sh4:List Sh:=[.fr,.fr,.fr,.fr,.ow [.fr,.fr,.fr,.fr],.ow [.fr,.fr]]
abbrev sh0:List Sh:=[.fr,.fr,.ow [.fr,.fr],.ow [.fr,.fr],.ow [.fr,.ow [.fr,.fr],.ow sh4,.fr,.fr,.fr,.fr,.fr,.fr]]
abbrev sh2:List Sh:=[.fr,.ow [.fr,.ow [.fr,.fr]],.ow [.fr,.fr],.ow [.fr,.fr],.ow sh0,.fr,.fr,.fr,.fr]
def DK:CKt:=ay [.b8] [.bo] (fun x=>Lt.letter x)
def Au:An:=.s .l (.j ⟨[],[],[],[.sl 2 .bo]⟩ .l .l)
theorem G9 (a0_c:UInt8) (KK:Bool->Prop):wm a0_c KK=ao eZ f89 Au [.b8] [.bo] a0_c KK:=by kernel_rfl
theorem QR:Cont prog 89 DK:=k0 eZ En.ok0 (fn:=f89) Au (fun a0_c KK h=>Eq.mp (G9 a0_c KK) (JI a0_c KK h))
def Pz:CKt:=ay [.s] [.bo] (fun x=>Lt.kept x)
def LW:An:=.s .l (.j ⟨[],[],[],[.sl 2 .bo]⟩ .l .l)
theorem O8 (a0_s:List UInt8) (KK:Bool->Prop):ID a0_s KK=ao eZ f90 LW [.s] [.bo] a0_s KK:=by kernel_rfl
theorem WE:Cont prog 90 Pz:=k0 eZ En.ok0 (fn:=f90) LW (fun a0_s KK h=>Eq.mp (O8 a0_s KK) (Rx a0_s KK h))
def um:CKt:=ay [.b8] [.bo] (fun x=>pd x)
def rv:An:=.s .l (.s .l .l)
theorem yT (a0_c:UInt8) (KK:Bool->Prop):np a0_c KK=ao eZ f91 rv [.b8] [.bo] a0_c KK:=by kernel_rfl
theorem EK:Cont prog 91 um:=k0 eZ En.ok0 (fn:=f91) rv (fun a0_c KK h=>Eq.mp (yT a0_c KK) (zo a0_c KK h))
def jk:CKt:=ay [.s] [.bo] (fun x=>Lt.Name x)
def LU:An:=.s .l (.s (.j ⟨[0],[],[],[.sl 20 .bo]⟩ .l (.c (.s .l .l) .l)) (.s (.s .l (.b (.lp ⟨[0,22],[],[],[.sl 23 (.i .i64)]⟩ (.s .l (.s (.c .l .l) (.s (.b (.s .l (.j ⟨[0,22,23],[],[],[.sl 37 .bo]⟩ .l (.c (.s .l .l) .l)))) .l)))))) (.s .l .l)))
noncomputable abbrev e_Name:En:=⟨prog,eU,[(89,DK),(90,Pz),(91,um)],[],noP⟩
theorem O6 (a0_s:List UInt8) (KK:Bool->Prop):IB a0_s KK=ao e_Name f47 LU [.s] [.bo] a0_s KK:=by kernel_rfl
theorem kZ:Cont prog 47 jk:=k0 e_Name (En.okc QR (En.okc WE (En.okc EK En.ok0))) (fn:=f47) LU (fun a0_s KK h=>Eq.mp (O6 a0_s KK) (Ru a0_s KK h))
def Ip:CKt:=ay [.s] [.bo] (fun x=>Lt.kind x)
def LX:An:=.s .l (.j ⟨[],[],[],[.sl 2 .bo]⟩ .l .l)
noncomputable abbrev e_kind:En:=⟨prog,eU,[(47,jk)],[],noP⟩
theorem O9 (a0_s:List UInt8) (KK:Bool->Prop):IE a0_s KK=ao e_kind f88 LX [.s] [.bo] a0_s KK:=by kernel_rfl
theorem QQ:Cont prog 88 Ip:=k0 e_kind (En.okc kZ En.ok0) (fn:=f88) LX (fun a0_s KK h=>Eq.mp (O9 a0_s KK) (Ry a0_s KK h))
def Bt:CKt:=ay [(.sl (.st .Var)),.i .i64] [.bo] (fun x=>Lt.typed x.1 x.2)
def Et:An:=.s .l (.s (.s .l (.c (.s .l .l) .l)) (.s (.s .l (.b (.lp ⟨[11,12],[],[],[.sl 13 (.i .i64)]⟩ (.s .l (.s (.c .l .l) (.s (.b (.s .l (.j ⟨[11,12,13],[],[],[.sl 26 .bo]⟩ .l (.c (.s .l .l) .l)))) .l)))))) (.s .l .l)))
noncomputable abbrev e_typed:En:=⟨prog,eU,[(47,jk),(88,Ip)],[],noP⟩
theorem La (a0_l:List Lt.Var) (a1_most:Int) (KK:Bool->Prop):BK a0_l a1_most KK=ao e_typed f46 Et [(.sl (.st .Var)),.i .i64] [.bo] (a0_l,a1_most) KK:=by kernel_rfl
theorem L5:Cont prog 46 Bt:=k0 e_typed (En.okc kZ (En.okc QQ En.ok0)) (fn:=f46) Et (fun (a0_l,a1_most) KK h=>Eq.mp (La a0_l a1_most KK) (Ot a0_l a1_most KK h))
def Ll:CKt:=ay [.i .i64] [.i .i64] (fun x=>Lt.Plain x)
def Ef:An:=.s .l (.s (.j ⟨[0],[],[],[.sl 10 .bo]⟩ .l (.c (.s .l .l) .l)) (.s .l .l))
theorem KY (a0_n:Int) (KK:Int->Prop):Bz a0_n KK=ao eZ f247 Ef [.i .i64] [.i .i64] a0_n KK:=by kernel_rfl
theorem TY:Cont prog 247 Ll:=k0 eZ En.ok0 (fn:=f247) Ef (fun a0_n KK h=>Eq.mp (KY a0_n KK) (Oc a0_n KK h))
def uo:CKt:=ay [.st .Arg] [.bo] (fun x=>l6 x)
def rz:An:=.s .l (.s (.s .l (.b (.s .l (.c (.s .l .l) (.s .l (.c (.s .l .l) (.s .l (.c (.j ⟨[],[],[],[.sl 2 .bo]⟩ .l .l) (.s .l (.c (.s .l .l) (.s .l (.c (.j ⟨[],[],[],[.sl 2 .bo]⟩ .l .l) .l)))))))))))) (.s .l .l))
noncomputable abbrev e_wordRight:En:=⟨prog,eU,[(47,jk),(247,Ll)],[],noP⟩
theorem yU (a0_a:Lt.Arg) (KK:Bool->Prop):nr a0_a KK=ao e_wordRight f234 rz [.st .Arg] [.bo] a0_a KK:=by kernel_rfl
theorem EL:Cont prog 234 uo:=k0 e_wordRight (En.okc kZ (En.okc TY En.ok0)) (fn:=f234) rz (fun a0_a KK h=>Eq.mp (yU a0_a KK) (zp a0_a KK h))
def jo:CKt:=ay [(.sl (.st .Arg)),.bo] [.bo] (fun x=>cV x.1 x.2)
def uA:An:=.s .l (.s (.s .l (.b (.lp ⟨[1,7,8],[],[],[.sl 9 (.i .i64)]⟩ (.s .l (.s (.c .l .l) (.s (.b (.s .l (.j ⟨[1,7,8,9],[],[],[.sl 24 .bo]⟩ .l (.c (.s .l .l) .l)))) .l)))))) (.s .l .l))
noncomputable abbrev e_showArgs:En:=⟨prog,eU,[(234,uo)],[],noP⟩
theorem zF (a0_l:List Lt.Arg) (a1_objs:Bool) (KK:Bool->Prop):pX a0_l a1_objs KK=ao e_showArgs f200 uA [(.sl (.st .Arg)),.bo] [.bo] (a0_l,a1_objs) KK:=by kernel_rfl
theorem my:Cont prog 200 jo:=k0 e_showArgs (En.okc EL En.ok0) (fn:=f200) uA (fun (a0_l,a1_objs) KK h=>Eq.mp (zF a0_l a1_objs KK) (Cq a0_l a1_objs KK h))
def zU:CKt:=ay [.st .Term] [.bo] (fun x=>si x)
def wS:An:=.s .l (.s (.s .l (.b (.lp ⟨[1,8,9],[.loc 1],[],[.sl 10 (.i .i64)]⟩ (.s .l (.s (.c .l .l) (.s (.b (.s .l (.s .l (.c (.s .l .l) .l)))) .l)))))) (.s .l (.s .l (.s (.s .l (.b (.s .l (.c (.j ⟨[],[],[],[.sl 2 .bo]⟩ .l .l) (.s .l (.c (.j ⟨[],[],[],[.sl 2 .bo]⟩ .l .l) (.s .l (.c (.j ⟨[],[],[],[.sl 2 .bo]⟩ .l .l) (.s .l (.c (.s .l .l) .l)))))))))) (.s .l .l)))))
noncomputable abbrev e_showEnd:En:=⟨prog,eU,[(47,jk),(200,jo)],[],noP⟩
theorem Dp (a0_t:Lt.Term) (KK:Bool->Prop):sU a0_t KK=ao e_showEnd f155 wS [.st .Term] [.bo] a0_t KK:=by kernel_rfl
theorem NN:Cont prog 155 zU:=k0 e_showEnd (En.okc kZ (En.okc my En.ok0)) (fn:=f155) wS (fun a0_t KK h=>Eq.mp (Dp a0_t KK) (FJ a0_t KK h))
def VG:CKt:=ay [.st .Phi] [.bo] (fun x=>Lt.phi x)
def Qt:An:=.s .l (.s (.j ⟨[1],[.loc 1],[],[.sl 20 .bo]⟩ .l (.c (.s .l .l) .l)) (.s (.s .l (.b (.lp ⟨[22,23],[],[],[.sl 24 (.i .i64)]⟩ (.s .l (.s (.c .l .l) (.s (.b (.s .l (.j ⟨[22,23,24],[],[],[.sl 38 .bo]⟩ .l (.c (.s .l .l) .l)))) .l)))))) (.s .l .l)))
noncomputable abbrev e_phi:En:=⟨prog,eU,[(47,jk),(200,jo)],[],noP⟩
theorem S4 (a0_x:Lt.Phi) (KK:Bool->Prop):PV a0_x KK=ao e_phi f156 Qt [.st .Phi] [.bo] a0_x KK:=by kernel_rfl
theorem XI:Cont prog 156 VG:=k0 e_phi (En.okc kZ (En.okc my En.ok0)) (fn:=f156) Qt (fun a0_x KK h=>Eq.mp (S4 a0_x KK) (UE a0_x KK h))
def VF:CKt:=ay [.s,.i .i64] [.s] (fun x=>Lt.nth x.1 x.2)
def Qs:An:=.s .l (.s .l (.s (.s .l (.b (.lp ⟨[0],[],[],[.sl 1 (.i .i64),.sl 5 (.i .i64),.sl 6 (.i .i64)]⟩ (.s (.s .l (.c .l .l)) (.j ⟨[0,6],[],[],[.sl 1 (.i .i64),.sl 5 (.i .i64)]⟩ (.b (.s (.s .l (.c .l .l)) (.s (.s .l (.s .l (.c (.s .l .l) .l))) .l))) .l))))) (.s .l .l)))
theorem S3 (a0_list:List UInt8) (a1_n:Int) (KK:(List UInt8)->Prop):PU a0_list a1_n KK=ao eZ f198 Qs [.s,.i .i64] [.s] (a0_list,a1_n) KK:=by kernel_rfl
theorem XH:Cont prog 198 VF:=k0 eZ En.ok0 (fn:=f198) Qs (fun (a0_list,a1_n) KK h=>Eq.mp (S3 a0_list a1_n KK) (UD a0_list a1_n KK h))
def Wa:CKt:=ay [.i .i64] [.st .Form,.bo] (fun x=>Lt.Of x)
def VO:An:=.s .l (.s (.b (.j ⟨[0,2],[.loc 2],[],[.sl 4 .bo]⟩ .l (.c (.s .l .l) (.j ⟨[0,2],[.loc 2],[],[.sl 14 .bo]⟩ .l (.c (.s .l .l) .l))))) (.s (.s .l (.b (.s .l (.c (.s .l .l) (.s .l (.c (.s .l .l) (.s .l (.c (.s .l .l) (.s .l (.c (.s .l .l) (.s .l (.c (.s .l .l) (.s .l (.c (.s .l .l) (.s .l (.c (.s .l .l) (.s .l (.c (.s .l .l) (.s .l (.c (.s .l .l) (.s .l (.c (.s .l .l) .l)))))))))))))))))))))) (.s .l .l)))
noncomputable abbrev e_Of:En:=⟨prog,eU,[(198,VF)],[],noP⟩
theorem Vt (a0_op:Int) (KK:(Lt.Form×Bool)->Prop):Wd a0_op KK=ao e_Of f147 VO [.i .i64] [.st .Form,.bo] a0_op KK:=by kernel_rfl
theorem XG:Cont prog 147 Wa:=k0 e_Of (En.okc XH En.ok0) (fn:=f147) VO (fun a0_op KK h=>Eq.mp (Vt a0_op KK) (WU a0_op KK h))
def Lo:CKt:=ay [.st .Frame] [.bo] (fun x=>Lt.frame x)
def Ei:An:=.s .l (.s (.j ⟨[1],[.loc 1],[],[.sl 30 .bo]⟩ .l (.c (.s .l .l) .l)) (.s (.s .l (.b (.lp ⟨[32,33],[],[],[.sl 34 (.i .i64)]⟩ (.s .l (.s (.c .l .l) (.s (.b (.s .l (.j ⟨[32,33,34],[],[],[.sl 48 .bo]⟩ .l (.c (.s .l .l) .l)))) .l)))))) (.s .l .l)))
noncomputable abbrev e_frame:En:=⟨prog,eU,[(47,jk),(200,jo)],[],noP⟩
theorem K2 (a0_f:Lt.Frame) (KK:Bool->Prop):BC a0_f KK=ao e_frame f201 Ei [.st .Frame] [.bo] a0_f KK:=by kernel_rfl
theorem T2:Cont prog 201 Lo:=k0 e_frame (En.okc kZ (En.okc my En.ok0)) (fn:=f201) Ei (fun a0_f KK h=>Eq.mp (K2 a0_f KK) (Oh a0_f KK h))
def Lp:CKt:=ay [.st .Instr] [.bo] (fun x=>Lt.instr x)
def Ej:An:=.s .l (.s .l (.s (.j ⟨[1,3],[.loc 1,.loc 3],[],[.sl 52 .bo]⟩ .l (.c (.s .l .l) .l)) (.s (.j ⟨[1],[.loc 1],[],[.sl 84 .bo]⟩ .l (.c (.s .l .l) .l)) (.s (.j ⟨[1],[.loc 1],[],[.sl 92 .bo]⟩ .l (.c (.s .l .l) .l)) (.s (.s .l (.b (.lp ⟨[1,104,105],[.loc 1],[],[.sl 106 (.i .i64)]⟩ (.s .l (.s (.c .l .l) (.s (.b (.s .l (.s .l (.c (.s .l .l) .l)))) .l)))))) (.s (.s .l (.b (.lp ⟨[115,116],[],[],[.sl 117 (.i .i64)]⟩ (.s .l (.s (.c .l .l) (.s (.b (.s .l (.j ⟨[115,116,117],[],[],[.sl 136 .bo]⟩ .l (.c (.s .l .l) .l)))) .l)))))) (.s .l .l)))))))
noncomputable abbrev e_instr:En:=⟨prog,eU,[(47,jk),(147,Wa),(200,jo),(201,Lo)],[],noP⟩
theorem K3 (a0_i:Lt.Instr) (KK:Bool->Prop):BD a0_i KK=ao e_instr f157 Ej [.st .Instr] [.bo] a0_i KK:=by kernel_rfl
theorem T4:Cont prog 157 Lp:=k0 e_instr (En.okc kZ (En.okc XG (En.okc my (En.okc T2 En.ok0)))) (fn:=f157) Ej (fun a0_i KK h=>Eq.mp (K3 a0_i KK) (Oi a0_i KK h))
def Ln:CKt:=ay [.st .Block] [.bo] (fun x=>Lt.block x)
def Eh:An:=.s .l (.s (.j ⟨[1],[.loc 1],[],[.sl 16 .bo]⟩ .l (.c (.s .l .l) .l)) (.s (.s .l (.b (.lp ⟨[1,18,19],[.loc 1],[],[.sl 20 (.i .i64)]⟩ (.s .l (.s (.c .l .l) (.s (.b (.s .l (.s .l (.c (.s .l .l) .l)))) .l)))))) (.s (.s .l (.b (.lp ⟨[29,30],[],[],[.sl 31 (.i .i64)]⟩ (.s .l (.s (.c .l .l) (.s (.b (.s .l (.s .l (.c (.s .l .l) .l)))) .l)))))) (.s .l .l))))
noncomputable abbrev e_block:En:=⟨prog,eU,[(47,jk),(155,zU),(156,VG),(157,Lp)],[],noP⟩
theorem K0 (a0_b:Lt.Block) (KK:Bool->Prop):BB a0_b KK=ao e_block f92 Eh [.st .Block] [.bo] a0_b KK:=by kernel_rfl
theorem T1:Cont prog 92 Ln:=k0 e_block (En.okc kZ (En.okc NN (En.okc XI (En.okc T4 En.ok0)))) (fn:=f92) Eh (fun a0_b KK h=>Eq.mp (K0 a0_b KK) (Og a0_b KK h))
def m8:CKt:=ay [.st .Func] [.bo] (fun x=>cC x)
def mS:An:=.s .l (.s (.j ⟨[1],[.loc 1],[],[.sl 39 .bo]⟩ .l (.c (.s .l .l) .l)) (.s .l (.s (.s .l (.b (.lp ⟨[41,42],[],[],[.sl 3 (.i .i64),.sl 43 (.i .i64)]⟩ (.s .l (.s (.c .l .l) (.s (.b (.s .l (.s (.j ⟨[3,5,41,42,43],[.loc 5],[],[.sl 56 .bo]⟩ .l (.c (.s .l .l) .l)) (.s .l (.j ⟨[3,41,42,43],[],[],[.sl 72 .bo]⟩ .l (.c (.s .l .l) .l)))))) .l)))))) (.s .l .l))))
noncomputable abbrev e_showFunction:En:=⟨prog,eU,[(46,Bt),(47,jk),(88,Ip),(92,Ln)],[],noP⟩
theorem sB (a0_f:Lt.Func) (KK:Bool->Prop):js a0_f KK=ao e_showFunction f48 mS [.st .Func] [.bo] a0_f KK:=by kernel_rfl
theorem xj:Cont prog 48 m8:=k0 e_showFunction (En.okc L5 (En.okc kZ (En.okc QQ (En.okc T1 En.ok0)))) (fn:=f48) mS (fun a0_f KK h=>Eq.mp (sB a0_f KK) (tL a0_f KK h))
def uk:CKt:=ay [.st .Program] [.bo] (fun x=>dk x)
def rm:An:=.s .l (.s (.j ⟨[1],[.loc 1],[],[.sl 30 .bo]⟩ .l (.c (.s .l .l) .l)) (.s (.s .l (.b (.lp ⟨[1,32,33],[.loc 1],[],[.sl 34 (.i .i64)]⟩ (.s .l (.s (.c .l .l) (.s (.b (.s .l (.j ⟨[1,32,33,34],[.loc 1],[],[.sl 47 .bo]⟩ .l (.c (.s .l .l) .l)))) .l)))))) (.s (.s .l (.b (.lp ⟨[1,50,51],[.loc 1],[],[.sl 52 (.i .i64)]⟩ (.s .l (.s (.c .l .l) (.s (.b (.s .l (.j ⟨[1,50,51,52],[.loc 1],[],[.sl 69 .bo]⟩ .l (.c (.s .l .l) .l)))) .l)))))) (.s (.s .l (.b (.lp ⟨[72,73],[],[],[.sl 74 (.i .i64)]⟩ (.s .l (.s (.c .l .l) (.s (.b (.s .l (.s .l (.c (.s .l .l) .l)))) .l)))))) (.s .l .l)))))
noncomputable abbrev e_showRight:En:=⟨prog,eU,[(46,Bt),(47,jk),(48,m8)],[],noP⟩
theorem yQ (a0_p:Lt.Program) (KK:Bool->Prop):nj a0_p KK=ao e_showRight f19 rm [.st .Program] [.bo] a0_p KK:=by kernel_rfl
theorem EH:Cont prog 19 uk:=k0 e_showRight (En.okc L5 (En.okc kZ (En.okc xj En.ok0))) (fn:=f19) rm (fun a0_p KK h=>Eq.mp (yQ a0_p KK) (zk a0_p KK h))
def zO:CKt:=ay [.st .Program] [.bo] (fun x=>fK x)
def wN:An:=.s .l (.s (.s .l (.b (.lp ⟨[1,10,11],[.loc 1],[],[.sl 12 (.i .i64)]⟩ (.s .l (.s (.c .l .l) (.s (.b (.s .l (.s .l (.b (.lp ⟨[1,10,11,12,17,18],[.loc 1],[],[.sl 19 (.i .i64)]⟩ (.s .l (.s (.c .l .l) (.s (.b (.s .l (.s (.s .l (.c (.s .l .l) .l)) (.s .l (.b (.lp ⟨[1,10,11,12,17,18,19,28,29],[.loc 1],[],[.sl 30 (.i .i64)]⟩ (.s .l (.s (.c .l .l) (.s (.b (.s .l (.j ⟨[1,10,11,12,17,18,19,28,29,30],[.loc 1],[],[.sl 43 .bo]⟩ .l (.c (.s .l .l) .l)))) .l))))))))) .l)))))))) .l)))))) (.s .l .l))
theorem Dk (a0_p:Lt.Program) (KK:Bool->Prop):sP a0_p KK=ao eZ f20 wN [.st .Program] [.bo] a0_p KK:=by kernel_rfl
theorem NG:Cont prog 20 zO:=k0 eZ En.ok0 (fn:=f20) wN (fun a0_p KK h=>Eq.mp (Dk a0_p KK) (FC a0_p KK h))
def DH:CKt:=bg [.st .Func] [.i .i64] (fun x=>vE x) (fun x=>vF x)
def Aq:An:=.s .l (.s .l (.s (.s .l (.b (.lp ⟨[7,8],[],[],[.sl 3 (.i .i64),.sl 9 (.i .i64)]⟩ (.s .l (.s (.c .l .l) (.s (.b (.s .l .l)) .l)))))) (.s .l .l)))
theorem G6 (a0_f:Lt.Func) (KK:Int->Prop):wl a0_f KK=ao eZ f11 Aq [.st .Func] [.i .i64] a0_f KK:=by kernel_rfl
theorem QL:Cont prog 11 DH:=k1 eZ En.ok0 (fn:=f11) Aq (fun a0_f hp KK h=>Eq.mp (G6 a0_f KK) (JF a0_f hp KK h))
def vW:CKt:=bg [.st .Program] [.bo] (fun x=>t7 x) (fun x=>gS x)
def uz:An:=.s .l (.s (.s .l (.b (.lp ⟨[6,7],[],[],[.sl 8 (.i .i64)]⟩ (.s .l (.s (.c .l .l) (.s (.b (.s .l (.j ⟨[6,7,8],[],[],[.sl 30 .bo]⟩ .l (.c (.s .l .l) .l)))) .l)))))) (.s .l .l))
noncomputable abbrev e_ckWithin:En:=⟨prog,eU,[(11,DH)],[],noP⟩
theorem zE (a0_p:Lt.Program) (KK:Bool->Prop):pW a0_p KK=ao e_ckWithin f22 uz [.st .Program] [.bo] a0_p KK:=by kernel_rfl
theorem Ji:Cont prog 22 vW:=k1 e_ckWithin (En.okc QL En.ok0) (fn:=f22) uz (fun a0_p hp KK h=>Eq.mp (zE a0_p KK) (Cp a0_p hp KK h))
def qJ:CKt:=ay [.st .Program,.s] [.st .Class,.bo] (fun x=>bN x.1 x.2)
def fT:An:=.s .l (.s .l .l)
def fV:CKt:=apT (cm ⟨prog,eU,[],[],noP⟩ f50 fT)
def nD:An:=.s .l (.s (.s .l (.b (.lp ⟨[1,2,6,11,12,100000,100001,100002,100004,100005,100006,100007,100008],[.loc 1002,.loc 1004,.loc 6],[],[.sl 13 (.i .i64)]⟩ (.s .l (.s (.c .l .l) (.s (.b (.s .l (.s .l (.c (.s .l .l) .l)))) .l)))))) (.s .l (.s .l .l)))
def pe:CKt:=apT (cm ⟨prog,eU,[(50,fV)],[],noP⟩ f158 nD)
def Aw:An:=.s .l (.s .l .l)
noncomputable abbrev e_tClass:En:=⟨prog,eU,[(158,pe)],[],noP⟩
theorem Ib (a0_p:Lt.Program) (a1_name:List UInt8) (KK:(Lt.Class×Bool)->Prop):wo a0_p a1_name KK=ao e_tClass f95 Aw [.st .Program,.s] [.st .Class,.bo] (a0_p,a1_name) KK:=by kernel_rfl
theorem xk:Cont prog 95 qJ:=k0 e_tClass (En.okc (aC (kI (En.okc (aC (kI En.ok0 (fn:=f50))) En.ok0) (fn:=f158))) En.ok0) (fn:=f95) Aw (fun (a0_p,a1_name) KK h=>Ib a0_p a1_name KK ▸ (JK a0_p a1_name KK h))
def vY:CKt:=ay [.st .Program,.s] [.bo] (fun x=>iB x.1 x.2)
def AA:An:=.s .l (.s .l (.j ⟨[],[],[],[.sl 4 .bo]⟩ .l .l))
noncomputable abbrev e_tKnown:En:=⟨prog,eU,[(95,qJ)],[],noP⟩
theorem Ig (a0_p:Lt.Program) (a1_t:List UInt8) (KK:Bool->Prop):wu a0_p a1_t KK=ao e_tKnown f56 AA [.st .Program,.s] [.bo] (a0_p,a1_t) KK:=by kernel_rfl
theorem EJ:Cont prog 56 vY:=k0 e_tKnown (En.okc xk En.ok0) (fn:=f56) AA (fun (a0_p,a1_t) KK h=>Eq.mp (Ig a0_p a1_t KK) (JO a0_p a1_t KK h))
def ul:CKt:=ay [.st .Program,(.sl (.st .Var))] [.bo] (fun x=>cM x.1 x.2)
def fF:An:=.s .l (.s .l .l)
def fS:CKt:=apT (cm ⟨prog,eU,[],[],noP⟩ f94 fF)
def dX:An:=.s .l (.s .l .l)
def d9:CKt:=apT (cm ⟨prog,eU,[],[],noP⟩ f94 dX)
def lD:An:=.s .l (.s .l (.s (.s .l (.b (.lp ⟨[1,5,9,10,100001,100002,100007,100008,100009,100010,100019],[.loc 1002],[],[.sl 11 (.i .i64),.mp (.gh 8) .s .bo]⟩ (.s .l (.s (.c .l .l) (.s (.b (.s .l (.s (.s .l (.c (.s .l .l) .l)) .l))) .l)))))) (.s .l .l)))
def mf:CKt:=apT (cm ⟨prog,eU,[(94,(yA 17 fS d9))],[],noP⟩ f93 lD)
def ro:An:=.s .l (.s (.s .l (.b (.lp ⟨[1,2,7,8],[.loc 2],[],[.sl 9 (.i .i64)]⟩ (.s .l (.s (.c .l .l) (.s (.b (.s .l (.s .l (.c (.s .l .l) .l)))) .l)))))) (.s .l .l))
noncomputable abbrev e_tDeclared:En:=⟨prog,eU,[(56,vY),(93,mf)],[],noP⟩
theorem yR (a0_p:Lt.Program) (a1_l:List Lt.Var) (KK:Bool->Prop):nk a0_p a1_l KK=ao e_tDeclared f55 ro [.st .Program,(.sl (.st .Var))] [.bo] (a0_p,a1_l) KK:=by kernel_rfl
theorem EI:Cont prog 55 ul:=k0 e_tDeclared (En.okc EJ (En.okc (aC (kI (En.okc (gH (aC (kI En.ok0 (fn:=f94))) (aC (kI En.ok0 (fn:=f94)))) En.ok0) (fn:=f93))) En.ok0)) (fn:=f55) ro (fun (a0_p,a1_l) KK h=>yR a0_p a1_l KK ▸ (zm a0_p a1_l KK h))
def DN:CKt:=bg [.st .Program] [.bo] (fun x=>jQ x) (fun x=>dQ x)
def fw:An:=.s .l (.s .l .l)
def fB:CKt:=apT (cm ⟨prog,eU,[],[],noP⟩ f50 fw)
def dM:An:=.s .l (.s .l .l)
def dW:CKt:=apT (cm ⟨prog,eU,[],[],noP⟩ f50 dM)
def mq:An:=.s .l (.s .l (.s (.s .l (.b (.lp ⟨[1,5,9,10,100000,100001,100002,100008,100009],[.loc 1001],[],[.sl 11 (.i .i64),.mp (.gh 8) .s .bo]⟩ (.s .l (.s (.c .l .l) (.s (.b (.s .l (.s (.s .l (.c (.s .l .l) .l)) .l))) .l)))))) (.s .l .l)))
def mX:CKt:=apT (cm ⟨prog,eU,[(50,(yA 17 fB dW))],[],noP⟩ f49 mq)
def ea:An:=.s .l (.s .l .l)
def eM:CKt:=apT (cm ⟨prog,eU,[],[],noP⟩ f52 ea)
def dv:An:=.s .l (.s .l .l)
def dx:CKt:=apT (cm ⟨prog,eU,[],[],noP⟩ f52 dv)
def lC:An:=.s .l (.s .l (.s (.s .l (.b (.lp ⟨[1,5,9,10,100000,100001,100002,100008,100009,100010,100011,100012,100013,100014],[.loc 2001],[],[.sl 11 (.i .i64),.mp (.gh 8) .s .bo]⟩ (.s .l (.s (.c .l .l) (.s (.b (.s .l (.s (.s .l (.c (.s .l .l) .l)) .l))) .l)))))) (.s .l .l)))
def me:CKt:=apT (cm ⟨prog,eU,[(52,(yA 17 eM dx))],[],noP⟩ f51 lC)
def fU:An:=.s .l (.s .l .l)
def fW:CKt:=apT (cm ⟨prog,eU,[],[],noP⟩ f54 fU)
def ef:An:=.s .l (.s .l .l)
def eN:CKt:=apT (cm ⟨prog,eU,[],[],noP⟩ f54 ef)
def mZ:An:=.s .l (.s .l (.s (.s .l (.b (.lp ⟨[1,5,9,10,100000,100001,100002,100008,100009,100010,100011,100012,100013,100014,100015,100016,100017,100018,100019,100020],[.loc 1001],[],[.sl 11 (.i .i64),.mp (.gh 8) .s .bo]⟩ (.s .l (.s (.c .l .l) (.s (.b (.s .l (.s (.s .l (.c (.s .l .l) .l)) .l))) .l)))))) (.s .l .l)))
def na:CKt:=apT (cm ⟨prog,eU,[(54,(yA 17 fW eN))],[],noP⟩ f53 mZ)
def Ay:An:=.s .l (.s (.j ⟨[1],[.loc 1],[],[.sl 30 .bo]⟩ .l (.c (.s .l .l) .l)) (.s (.s .l (.b (.lp ⟨[1,32,33],[.loc 1],[],[.sl 34 (.i .i64)]⟩ (.s .l (.s (.c .l .l) (.s (.b (.s .l (.s .l (.c (.s .l .l) .l)))) .l)))))) (.s (.s .l (.b (.lp ⟨[1,45,46],[.loc 1],[],[.sl 47 (.i .i64)]⟩ (.s .l (.s (.c .l .l) (.s (.b (.s .l (.j ⟨[1,6,45,46,47],[.loc 1,.loc 6],[],[.ow 7 [.fr,.fr] (.st .Var)]⟩ .l (.j ⟨[1,45,46,47],[.loc 1],[],[.sl 68 .bo]⟩ .l (.c (.s .l .l) .l))))) .l)))))) (.s .l .l))))
noncomputable abbrev e_tHeads:En:=⟨prog,eU,[(49,mX),(51,me),(53,na),(55,ul),(56,vY)],[],noP⟩
theorem Ie (a0_p:Lt.Program) (KK:Bool->Prop):wr a0_p KK=ao e_tHeads f24 Ay [.st .Program] [.bo] a0_p KK:=by kernel_rfl
theorem QV:Cont prog 24 DN:=k1 e_tHeads (En.okc (aC (kI (En.okc (gH (aC (kI En.ok0 (fn:=f50))) (aC (kI En.ok0 (fn:=f50)))) En.ok0) (fn:=f49))) (En.okc (aC (kI (En.okc (gH (aC (kI En.ok0 (fn:=f52))) (aC (kI En.ok0 (fn:=f52)))) En.ok0) (fn:=f51))) (En.okc (aC (kI (En.okc (gH (aC (kI En.ok0 (fn:=f54))) (aC (kI En.ok0 (fn:=f54)))) En.ok0) (fn:=f53))) (En.okc EI (En.okc EJ En.ok0))))) (fn:=f24) Ay (fun a0_p hp KK h=>Ie a0_p KK ▸ (JM a0_p hp KK h))
def zT:CKt:=bg [.st .Func] [.bo] (fun x=>Kw x) (fun x=>eK x)
def ph:An:=.s .l (.s .l (.s (.s .l (.b (.lp ⟨[4,14,15,100000,100001,100002,100007,100008,100009,100010,100012],[.loc 1001],[],[.sl 16 (.i .i64),.mp (.gh 12) .s (.i .i64)]⟩ (.s .l (.s (.c .l .l) (.s (.b (.s .l (.s (.s .l (.s .l (.c (.s .l .l) .l))) .l))) .l)))))) (.s .l .l)))
def pO:CKt:=apT (cm ⟨prog,eU,[],[],noP⟩ f57 ph)
def rl:An:=.s .l (.s (.s .l (.b (.lp ⟨[1,13,14,100000,100001,100002,100003,100004,100007,100008,100009,100010,100011,100012,100013,100014,100015,100016,100017,100018,100019,100020],[.gh 1012,.loc 2001],[],[.sl 15 (.i .i64)]⟩ (.s .l (.s (.c .l .l) (.s (.b (.s .l (.s .l (.s .l (.b (.lp ⟨[1,7,13,14,15,22,23,100000,100001,100002,100003,100004,100007,100008,100009,100010,100011,100012,100013,100014,100015,100016,100017,100018,100019,100020],[.gh 1012,.loc 2001],[],[.sl 24 (.i .i64),.mp (.gh 19) .s .bo]⟩ (.s .l (.s (.c .l .l) (.s (.b (.s .l (.s (.s .l (.j ⟨[1,7,9,13,14,15,22,23,24,100000,100001,100002,100003,100004,100007,100008,100009,100010,100011,100012,100013,100014,100015,100016,100017,100018,100019,100020],[.gh 1012,.gh 19,.loc 2001],[],[.sl 44 .bo]⟩ .l (.c (.s .l .l) .l))) .l))) .l))))))))) .l)))))) (.s .l .l))
def sI:CKt:=apT (cm ⟨prog,eU,[],[],noP⟩ f58 rl)
def rk:An:=.s .l (.s .l (.s .l (.s .l (.s (.b (.lp ⟨[1,2,100000,100001,100002,100003,100004,100007,100008,100009,100010,100011,100012,100013,100014,100015,100016,100017,100018,100019,100020,100021,100022,100023,100024,100025],[.gh 1012,.loc 2,.loc 2001],[],[.ow 5 [.fr] .bo,.ow 6 [.fr] (.i .i64)]⟩ (.s (.s .l (.c .l .l)) (.b (.j ⟨[1,2,5,6,100000,100001,100002,100003,100004,100007,100008,100009,100010,100011,100012,100013,100014,100015,100016,100017,100018,100019,100020,100021,100022,100023,100024,100025],[.gh 1012,.gh 900005,.gh 900006,.loc 2,.loc 2001],[(7,.loc 7,0)],[.rt (.loc 7) [.fr,.fr,.fr,.fr,.fr,.fr,.fr,.fr,.fr] (.st .Block)]⟩ .l (.s .l (.s .l (.b (.lp ⟨[1,2,38,39,100000,100001,100002,100003,100004,100007,100008,100009,100010,100011,100012,100013,100014,100015,100016,100017,100018,100019,100020,100021,100022,100023,100024,100025],[.gh 1012,.loc 2,.loc 2001],[],[.ow 5 [.fr] .bo,.ow 6 [.fr] (.i .i64),.sl 40 (.i .i64)]⟩ (.s .l (.s (.c .l .l) (.j ⟨[1,2,38,39,40,100000,100001,100002,100003,100004,100007,100008,100009,100010,100011,100012,100013,100014,100015,100016,100017,100018,100019,100020,100021,100022,100023,100024,100025],[.gh 1012,.loc 2,.loc 2001],[],[.ow 5 [.fr] .bo,.ow 6 [.fr] (.i .i64)]⟩ (.b (.s .l (.s .l (.s .l (.c (.s .l .l) .l))))) .l)))))))))))) (.s .l .l)))))
def sH:CKt:=apT (cm ⟨prog,eU,[],eR,noP⟩ f59 rk)
def wR:An:=.s .l (.s (.s .l (.c (.s .l .l) .l)) (.s .l (.s (.s .l (.c (.s .l .l) .l)) (.s (.s .l (.b (.lp ⟨[26,27],[.gh 900005],[],[.sl 28 (.i .i64)]⟩ (.s .l (.s (.c .l .l) (.s (.b (.s .l (.s .l (.c (.s .l .l) .l)))) .l)))))) (.s .l .l)))))
noncomputable abbrev e_shRight:En:=⟨prog,eU,[(57,pO),(58,sI),(59,sH)],[],noP⟩
theorem Do (a0_f:Lt.Func) (KK:Bool->Prop):sT a0_f KK=ao e_shRight f26 wR [.st .Func] [.bo] a0_f KK:=by kernel_rfl
theorem NM:Cont prog 26 zT:=k1 e_shRight (En.okc (aC (kI En.ok0 (fn:=f57))) (En.okc (aC (kI En.ok0 (fn:=f58))) (En.okc (aC (kI En.ok0 (fn:=f59))) En.ok0))) (fn:=f26) wR (fun a0_f hp KK h=>Do a0_f KK ▸ (FI a0_f hp KK h))
def nf:CKt:=ay [.st .Func,.s] [.st .Var,.bo] (fun x=>jU x.1 x.2)
def fZ:An:=.s .l (.s .l .l)
def gG:CKt:=apT (cm ⟨prog,eU,[],[],noP⟩ f94 fZ)
def mY:An:=.s .l (.s (.s .l (.b (.lp ⟨[1,2,6,11,12,100000,100001,100002,100004,100005,100009,100010,100011],[.loc 1002,.loc 1004,.loc 6],[],[.sl 13 (.i .i64)]⟩ (.s .l (.s (.c .l .l) (.s (.b (.s .l (.s .l (.c (.s .l .l) .l)))) .l)))))) (.s .l (.s .l .l)))
def m9:CKt:=apT (cm ⟨prog,eU,[(94,gG)],[],noP⟩ f202 mY)
def eV:An:=.s .l (.s .l .l)
def fu:CKt:=apT (cm ⟨prog,eU,[],[],noP⟩ f94 eV)
def jZ:An:=.s .l (.s (.s .l (.b (.lp ⟨[1,2,6,11,12,100001,100002,100004,100006,100007,100015,100017,100018,100019],[.loc 1002,.loc 1004,.loc 1006,.loc 6],[],[.sl 13 (.i .i64)]⟩ (.s .l (.s (.c .l .l) (.s (.b (.s .l (.s .l (.c (.s .l .l) .l)))) .l)))))) (.s .l (.s .l .l)))
def kS:CKt:=apT (cm ⟨prog,eU,[(94,fu)],[],noP⟩ f202 jZ)
def ru:An:=.s .l (.s (.j ⟨[1,2,4],[.loc 2,.loc 4],[(6,.loc 6,0)],[.sl 7 .bo,.rt (.loc 6) [.fr,.fr] (.st .Var)]⟩ .l (.s .l (.c (.s .l .l) .l))) (.s .l .l))
noncomputable abbrev e_tVariable:En:=⟨prog,eU,[(202,(yA 10 m9 kS))],[],noP⟩
theorem yS (a0_f:Lt.Func) (a1_name:List UInt8) (KK:(Lt.Var×Bool)->Prop):nl a0_f a1_name KK=ao e_tVariable f159 ru [.st .Func,.s] [.st .Var,.bo] (a0_f,a1_name) KK:=by kernel_rfl
theorem uD:Cont prog 159 nf:=k0 e_tVariable (En.okc (gH (aC (kI (En.okc (aC (kI En.ok0 (fn:=f94))) En.ok0) (fn:=f202))) (aC (kI (En.okc (aC (kI En.ok0 (fn:=f94))) En.ok0) (fn:=f202)))) En.ok0) (fn:=f159) ru (fun (a0_f,a1_name) KK h=>yS a0_f a1_name KK ▸ (zn a0_f a1_name KK h))
def PC:CKt:=ay [.st .Func,.st .Arg] [.s,.bo] (fun x=>iw x.1 x.2)
def Qu:An:=.s .l (.s (.s .l (.b (.s .l (.c (.s .l (.s .l .l)) (.s .l (.c (.s .l .l) (.s .l (.c (.s .l .l) (.s .l (.c (.s .l .l) .l)))))))))) (.s .l .l))
noncomputable abbrev e_tOf:En:=⟨prog,eU,[(159,nf)],[],noP⟩
theorem S5 (a0_f:Lt.Func) (a1_a:Lt.Arg) (KK:(List UInt8×Bool)->Prop):PW a0_f a1_a KK=ao e_tOf f98 Qu [.st .Func,.st .Arg] [.s,.bo] (a0_f,a1_a) KK:=by kernel_rfl
theorem VQ:Cont prog 98 PC:=k0 e_tOf (En.okc uD En.ok0) (fn:=f98) Qu (fun (a0_f,a1_a) KK h=>Eq.mp (S5 a0_f a1_a KK) (UF a0_f a1_a KK h))
def PA:CKt:=bg [.st .Program,.st .Func,.st .Instr] [.st .asked,.bo] (fun x=>r8 x.1 x.2.1 x.2.2) (fun x=>mQ x.1 x.2.1 x.2.2)
def LY:An:=.s .l (.s .l (.s (.j ⟨[3,4,5,6,8],[.loc 3,.loc 4,.loc 5,.loc 6,.loc 8],[],[.sl 40 .bo]⟩ .l (.c (.s .l .l) .l)) (.s .l (.j ⟨[4,5,6,10],[.loc 4,.loc 5,.loc 6],[],[.rt (.loc 10) [.fr,.fr,.fr,.fr,.fr,.fr,.fr,.fr,.fr,.fr,.fr,.fr,.ow []] (.st .asked)]⟩ (.s .l (.c (.s .l (.s (.s .l (.c (.s .l .l) .l)) .l)) .l)) (.s (.s .l (.b (.lp ⟨[4,6,10,61,62],[.loc 4,.loc 6],[],[.sl 63 (.i .i64),.rt (.loc 10) [.fr,.fr,.fr,.fr,.fr,.fr,.fr,.fr,.fr,.fr,.fr,.fr,.ow [.fr]] (.st .asked)]⟩ (.s .l (.s (.c .l .l) (.s (.b (.s .l (.s .l (.s (.s .l (.c (.s .l .l) .l)) .l)))) .l)))))) (.s .l .l))))))
noncomputable abbrev e_tAsk:En:=⟨prog,eU,[(98,PC),(147,Wa),(159,nf)],eO,noP⟩
theorem Pa (a0_p:Lt.Program) (a1_f:Lt.Func) (a2_i:Lt.Instr) (KK:(Lt.asked×Bool)->Prop):IF a0_p a1_f a2_i KK=ao e_tAsk f96 LY [.st .Program,.st .Func,.st .Instr] [.st .asked,.bo] (a0_p,a1_f,a2_i) KK:=by kernel_rfl
theorem WG:Cont prog 96 PA:=k1 e_tAsk (En.okc VQ (En.okc XG (En.okc uD En.ok0))) (fn:=f96) LY (fun (a0_p,a1_f,a2_i) hp KK h=>Pa a0_p a1_f a2_i KK ▸ (Rz a0_p a1_f a2_i hp KK h))
def Br:CKt:=ay [.s] [.bo] (fun x=>lS x)
def L1:An:=.s .l (.s .l .l)
theorem Pe (a0_t:List UInt8) (KK:Bool->Prop):II a0_t KK=ao eZ f168 L1 [.s] [.bo] a0_t KK:=by kernel_rfl
theorem Jk:Cont prog 168 Br:=k0 eZ En.ok0 (fn:=f168) L1 (fun a0_t KK h=>Eq.mp (Pe a0_t KK) (RD a0_t KK h))
def qN:CKt:=ay [.s,.s] [.bo] (fun x=>fd x.1 x.2)
def Eo:An:=.s .l (.j ⟨[],[],[],[.sl 4 .bo]⟩ .l .l)
noncomputable abbrev e_tFits:En:=⟨prog,eU,[(168,Br)],[],noP⟩
theorem K6 (a0_have:List UInt8) (a1_want:List UInt8) (KK:Bool->Prop):BG a0_have a1_want KK=ao e_tFits f99 Eo [.s,.s] [.bo] (a0_have,a1_want) KK:=by kernel_rfl
theorem vz:Cont prog 99 qN:=k0 e_tFits (En.okc Jk En.ok0) (fn:=f99) Eo (fun (a0_have,a1_want) KK h=>Eq.mp (K6 a0_have a1_want KK) (Om a0_have a1_want KK h))
def Lv:CKt:=ay [.st .asked,.s,.s] [.bo] (fun x=>kP x.1 x.2.1 x.2.2)
def Es:An:=.s .l (.s (.s .l (.b (.lp ⟨[1,2,3,10,11],[.loc 3],[],[.sl 12 (.i .i64)]⟩ (.s .l (.s (.c .l .l) (.s (.b (.s .l (.s .l (.c (.s .l .l) .l)))) .l)))))) (.s .l .l))
theorem K9 (a0_q:Lt.asked) (a1_args:List UInt8) (a2_dst:List UInt8) (KK:Bool->Prop):BJ a0_q a1_args a2_dst KK=ao eZ f160 Es [.st .asked,.s,.s] [.bo] (a0_q,a1_args,a2_dst) KK:=by kernel_rfl
theorem Ua:Cont prog 160 Lv:=k0 eZ En.ok0 (fn:=f160) Es (fun (a0_q,a1_args,a2_dst) KK h=>Eq.mp (K9 a0_q a1_args a2_dst KK) (Oq a0_q a1_args a2_dst KK h))
def Ir:CKt:=ay [.sl .s,(.sl (.st .Var))] [.bo] (fun x=>jS x.1 x.2)
def L0:An:=.s .l (.s (.s .l (.c (.s .l .l) .l)) (.s (.s .l (.b (.lp ⟨[1,12,13],[],[],[.sl 14 (.i .i64)]⟩ (.s .l (.s (.c .l .l) (.s (.b (.s .l (.s .l (.c (.s .l .l) .l)))) .l)))))) (.s .l .l)))
noncomputable abbrev e_tFit:En:=⟨prog,eU,[(99,qN)],[],noP⟩
theorem Pd (a0_args:List (List UInt8)) (a1_l:List Lt.Var) (KK:Bool->Prop):IH a0_args a1_l KK=ao e_tFit f166 L0 [.sl .s,(.sl (.st .Var))] [.bo] (a0_args,a1_l) KK:=by kernel_rfl
theorem QU:Cont prog 166 Ir:=k0 e_tFit (En.okc vz En.ok0) (fn:=f166) L0 (fun (a0_args,a1_l) KK h=>Eq.mp (Pd a0_args a1_l KK) (RB a0_args a1_l KK h))
def DP:CKt:=ay [.st .asked] [.bo] (fun x=>yJ x)
def AB:An:=.s .l (.s .l (.j ⟨[],[],[],[.sl 2 .bo]⟩ .l .l))
noncomputable abbrev e_tqMade:En:=⟨prog,eU,[(95,qJ),(166,Ir)],[],noP⟩
theorem Ih (a0_q:Lt.asked) (KK:Bool->Prop):wv a0_q KK=ao e_tqMade f161 AB [.st .asked] [.bo] a0_q KK:=by kernel_rfl
theorem QX:Cont prog 161 DP:=k0 e_tqMade (En.okc xk (En.okc QU En.ok0)) (fn:=f161) AB (fun a0_q KK h=>Eq.mp (Ih a0_q KK) (JP a0_q KK h))
def DM:CKt:=ay [.st .Program,.s,.s] [.st .Var,.bo] (fun x=>o8 x.1 x.2.1 x.2.2)
def iN:An:=.s .l (.s .l .l)
def jp:CKt:=apT (cm ⟨prog,eU,[],[],noP⟩ f94 iN)
def p7:An:=.s .l (.s (.s .l (.b (.lp ⟨[1,2,6,11,12,100000,100001,100002,100003,100006,100007,100008,100009,100010,100011,100012,100013,100014,100015,100016,100017,100019,100020,100021],[.loc 1003,.loc 1006,.loc 1008,.loc 6],[],[.sl 13 (.i .i64)]⟩ (.s .l (.s (.c .l .l) (.s (.b (.s .l (.s .l (.c (.s .l .l) .l)))) .l)))))) (.s .l (.s .l .l)))
def qM:CKt:=apT (cm ⟨prog,eU,[(94,jp)],[],noP⟩ f202 p7)
def Ax:An:=.s .l (.s .l (.s (.s .l (.c (.s .l .l) .l)) (.s .l .l)))
noncomputable abbrev e_tField:En:=⟨prog,eU,[(95,qJ),(202,qM)],[],noP⟩
theorem Ic (a0_p:Lt.Program) (a1_class:List UInt8) (a2_name:List UInt8) (KK:(Lt.Var×Bool)->Prop):wq a0_p a1_class a2_name KK=ao e_tField f203 Ax [.st .Program,.s,.s] [.st .Var,.bo] (a0_p,a1_class,a2_name) KK:=by kernel_rfl
theorem QT:Cont prog 203 DM:=k0 e_tField (En.okc xk (En.okc (aC (kI (En.okc (aC (kI En.ok0 (fn:=f94))) En.ok0) (fn:=f202))) En.ok0)) (fn:=f203) Ax (fun (a0_p,a1_class,a2_name) KK h=>Ic a0_p a1_class a2_name KK ▸ (JL a0_p a1_class a2_name KK h))
def zY:CKt:=bg [.st .asked] [.st .Var,.bo] (fun x=>CS x) (fun x=>fQ x)
def wW:An:=.s .l (.s (.s .l (.c (.s .l .l) .l)) (.s .l .l))
noncomputable abbrev e_tqField:En:=⟨prog,eU,[(203,DM)],[],noP⟩
theorem Dt (a0_q:Lt.asked) (KK:(Lt.Var×Bool)->Prop):sY a0_q KK=ao e_tqField f162 wW [.st .asked] [.st .Var,.bo] a0_q KK:=by kernel_rfl
theorem NR:Cont prog 162 zY:=k1 e_tqField (En.okc QT En.ok0) (fn:=f162) wW (fun a0_q hp KK h=>Eq.mp (Dt a0_q KK) (FN a0_q hp KK h))
def Lu:CKt:=ay [.s,.s] [.bo] (fun x=>GR x.1 x.2)
def Er:An:=.s .l (.j ⟨[],[],[],[.sl 4 .bo]⟩ .l .l)
noncomputable abbrev e_tSame:En:=⟨prog,eU,[(168,Br)],[],noP⟩
theorem K8 (a0_a:List UInt8) (a1_b:List UInt8) (KK:Bool->Prop):BI a0_a a1_b KK=ao e_tSame f163 Er [.s,.s] [.bo] (a0_a,a1_b) KK:=by kernel_rfl
theorem T9:Cont prog 163 Lu:=k0 e_tSame (En.okc Jk En.ok0) (fn:=f163) Er (fun (a0_a,a1_b) KK h=>Eq.mp (K8 a0_a a1_b KK) (Oo a0_a a1_b KK h))
def zX:CKt:=ay [.st .Program,.s] [.st .Var,.bo] (fun x=>eA x.1 x.2)
def iq:An:=.s .l (.s .l .l)
def iJ:CKt:=apT (cm ⟨prog,eU,[],[],noP⟩ f94 iq)
def pi:An:=.s .l (.s (.s .l (.b (.lp ⟨[1,2,6,11,12,100000,100001,100002,100004,100005,100006,100007,100008],[.loc 1002,.loc 1004,.loc 6],[],[.sl 13 (.i .i64)]⟩ (.s .l (.s (.c .l .l) (.s (.b (.s .l (.s .l (.c (.s .l .l) .l)))) .l)))))) (.s .l (.s .l .l)))
def pP:CKt:=apT (cm ⟨prog,eU,[(94,iJ)],[],noP⟩ f202 pi)
def wV:An:=.s .l (.s .l .l)
noncomputable abbrev e_tGlobal:En:=⟨prog,eU,[(202,pP)],[],noP⟩
theorem Ds (a0_p:Lt.Program) (a1_name:List UInt8) (KK:(Lt.Var×Bool)->Prop):sX a0_p a1_name KK=ao e_tGlobal f204 wV [.st .Program,.s] [.st .Var,.bo] (a0_p,a1_name) KK:=by kernel_rfl
theorem NQ:Cont prog 204 zX:=k0 e_tGlobal (En.okc (aC (kI (En.okc (aC (kI En.ok0 (fn:=f94))) En.ok0) (fn:=f202))) En.ok0) (fn:=f204) wV (fun (a0_p,a1_name) KK h=>Ds a0_p a1_name KK ▸ (FM a0_p a1_name KK h))
def vZ:CKt:=bg [.st .asked] [.bo] (fun x=>CU x) (fun x=>oo x)
def uB:An:=.s .l (.s .l (.s (.s .l (.c (.s .l .l) .l)) (.s .l .l)))
noncomputable abbrev e_tqGlobal:En:=⟨prog,eU,[(99,qN),(204,zX)],[],noP⟩
theorem zG (a0_q:Lt.asked) (KK:Bool->Prop):pY a0_q KK=ao e_tqGlobal f164 uB [.st .asked] [.bo] a0_q KK:=by kernel_rfl
theorem Jl:Cont prog 164 vZ:=k1 e_tqGlobal (En.okc vz (En.okc NQ En.ok0)) (fn:=f164) uB (fun a0_q hp KK h=>Eq.mp (zG a0_q KK) (Cr a0_q hp KK h))
def Ls:CKt:=ay [.st .Program,.s] [.st .Func,.bo] (fun x=>fe x.1 x.2)
def ip:An:=.s .l (.s .l .l)
def iI:CKt:=apT (cm ⟨prog,eU,[],[],noP⟩ f54 ip)
def p6:An:=.s .l (.s (.s .l (.b (.lp ⟨[1,2,6,11,12,100000,100001,100002,100004,100005,100006,100007,100008],[.loc 1002,.loc 1004,.loc 6],[],[.sl 13 (.i .i64)]⟩ (.s .l (.s (.c .l .l) (.s (.b (.s .l (.s .l (.c (.s .l .l) .l)))) .l)))))) (.s .l (.s .l .l)))
def qL:CKt:=apT (cm ⟨prog,eU,[(54,iI)],[],noP⟩ f205 p6)
def Ep:An:=.s .l (.s .l .l)
noncomputable abbrev e_tFunc:En:=⟨prog,eU,[(205,qL)],[],noP⟩
theorem K7 (a0_p:Lt.Program) (a1_name:List UInt8) (KK:(Lt.Func×Bool)->Prop):BH a0_p a1_name KK=ao e_tFunc f165 Ep [.st .Program,.s] [.st .Func,.bo] (a0_p,a1_name) KK:=by kernel_rfl
theorem T8:Cont prog 165 Ls:=k0 e_tFunc (En.okc (aC (kI (En.okc (aC (kI En.ok0 (fn:=f54))) En.ok0) (fn:=f205))) En.ok0) (fn:=f165) Ep (fun (a0_p,a1_name) KK h=>K7 a0_p a1_name KK ▸ (On a0_p a1_name KK h))
def zW:CKt:=ay [.st .Program,.s] [.st .Extern,.bo] (fun x=>lR x.1 x.2)
def eT:An:=.s .l (.s .l .l)
def fq:CKt:=apT (cm ⟨prog,eU,[],[],noP⟩ f52 eT)
def mn:An:=.s .l (.s (.s .l (.b (.lp ⟨[1,2,6,11,12,100000,100001,100002,100004,100005,100006,100007,100008],[.loc 1002,.loc 1004,.loc 6],[],[.sl 13 (.i .i64)]⟩ (.s .l (.s (.c .l .l) (.s (.b (.s .l (.s .l (.c (.s .l .l) .l)))) .l)))))) (.s .l (.s .l .l)))
def mW:CKt:=apT (cm ⟨prog,eU,[(52,fq)],[],noP⟩ f206 mn)
def wU:An:=.s .l (.s .l .l)
noncomputable abbrev e_tExtern:En:=⟨prog,eU,[(206,mW)],[],noP⟩
theorem Dr (a0_p:Lt.Program) (a1_name:List UInt8) (KK:(Lt.Extern×Bool)->Prop):sW a0_p a1_name KK=ao e_tExtern f167 wU [.st .Program,.s] [.st .Extern,.bo] (a0_p,a1_name) KK:=by kernel_rfl
theorem NP:Cont prog 167 zW:=k0 e_tExtern (En.okc (aC (kI (En.okc (aC (kI En.ok0 (fn:=f52))) En.ok0) (fn:=f206))) En.ok0) (fn:=f167) wU (fun (a0_p,a1_name) KK h=>Dr a0_p a1_name KK ▸ (FL a0_p a1_name KK h))
def zZ:CKt:=bg [.st .asked] [.bo] (fun x=>qu x) (fun x=>iW x)
def wX:An:=.s .l (.s (.s .l (.b (.s .l (.c (.s .l .l) (.s .l (.c (.s .l .l) (.s .l (.c (.s .l .l) .l)))))))) (.s (.s .l (.b (.s .l (.c (.s .l .l) (.s .l (.c (.s .l .l) (.s .l (.c (.s .l .l) (.s .l (.c (.s .l .l) (.s .l (.c (.s .l (.s .l .l)) (.s .l (.c (.s .l (.s .l .l)) (.s .l (.c (.s .l .l) (.j ⟨[1,32],[.loc 1],[],[.sl 102 .bo]⟩ (.s .l (.c .l .l)) (.c (.s .l .l) (.s .l (.c (.s .l (.j ⟨[],[],[],[.sl 2 .bo]⟩ .l .l)) (.s .l (.c (.s .l (.j ⟨[],[],[],[.sl 2 .bo]⟩ .l .l)) (.s .l (.c (.s .l .l) .l)))))))))))))))))))))))) (.s .l .l)))
noncomputable abbrev e_tqRight:En:=⟨prog,eU,[(99,qN),(160,Lv),(161,DP),(162,zY),(163,Lu),(164,vZ),(165,Ls),(166,Ir),(167,zW),(168,Br)],[],noP⟩
theorem Du (a0_q:Lt.asked) (KK:Bool->Prop):sZ a0_q KK=ao e_tqRight f97 wX [.st .asked] [.bo] a0_q KK:=by kernel_rfl
theorem NS:Cont prog 97 zZ:=k1 e_tqRight (En.okc vz (En.okc Ua (En.okc QX (En.okc NR (En.okc T9 (En.okc Jl (En.okc T8 (En.okc QU (En.okc NP (En.okc Jk En.ok0)))))))))) (fn:=f97) wX (fun a0_q hp KK h=>Eq.mp (Du a0_q KK) (FO a0_q hp KK h))
def DO:CKt:=bg [.st .Program,.st .Func,.st .Instr] [.bo] (fun x=>Su x.1 x.2.1 x.2.2) (fun x=>iA x.1 x.2.1 x.2.2)
def Az:An:=.s .l (.s .l (.s .l .l))
noncomputable abbrev e_tInstr:En:=⟨prog,eU,[(96,PA),(97,zZ)],[],noP⟩
theorem If (a0_p:Lt.Program) (a1_f:Lt.Func) (a2_i:Lt.Instr) (KK:Bool->Prop):wt a0_p a1_f a2_i KK=ao e_tInstr f60 Az [.st .Program,.st .Func,.st .Instr] [.bo] (a0_p,a1_f,a2_i) KK:=by kernel_rfl
theorem QW:Cont prog 60 DO:=k1 e_tInstr (En.okc WG (En.okc NS En.ok0)) (fn:=f60) Az (fun (a0_p,a1_f,a2_i) hp KK h=>Eq.mp (If a0_p a1_f a2_i KK) (JN a0_p a1_f a2_i hp KK h))
def PB:CKt:=ay [.st .Func,.st .Term] [.bo] (fun x=>uO x.1 x.2)
def LZ:An:=.s .l (.s .l (.s (.s .l (.b (.s .l (.c (.s .l .l) (.s .l (.c (.s .l .l) (.s .l (.c (.s .l .l) (.s .l (.c (.s .l .l) .l)))))))))) (.s .l .l)))
noncomputable abbrev e_tEnd:En:=⟨prog,eU,[(98,PC),(99,qN)],[],noP⟩
theorem Pb (a0_f:Lt.Func) (a1_t:Lt.Term) (KK:Bool->Prop):IG a0_f a1_t KK=ao e_tEnd f61 LZ [.st .Func,.st .Term] [.bo] (a0_f,a1_t) KK:=by kernel_rfl
theorem WH:Cont prog 61 PB:=k0 e_tEnd (En.okc VQ (En.okc vz En.ok0)) (fn:=f61) LZ (fun (a0_f,a1_t) KK h=>Eq.mp (Pb a0_f a1_t KK) (RA a0_f a1_t KK h))
def zP:CKt:=bg [.st .Program,.st .Func] [.bo] (fun x=>jR x.1 x.2) (fun x=>kl x.1 x.2)
def wO:An:=.s .l (.s (.s .l (.b (.lp ⟨[2,3,10,11],[.loc 2,.loc 3],[],[.sl 12 (.i .i64)]⟩ (.s .l (.s (.c .l .l) (.s (.b (.s .l (.s (.s .l (.b (.lp ⟨[2,3,6,10,11,12,17,18],[.loc 2,.loc 3,.loc 6],[],[.sl 19 (.i .i64)]⟩ (.s .l (.s (.c .l .l) (.s (.b (.s .l (.s .l (.c (.s .l .l) .l)))) .l)))))) (.s .l (.c (.s .l .l) .l))))) .l)))))) (.s .l .l))
noncomputable abbrev e_ckTyped:En:=⟨prog,eU,[(60,DO),(61,PB)],[],noP⟩
theorem Dl (a0_p:Lt.Program) (a1_f:Lt.Func) (KK:Bool->Prop):sQ a0_p a1_f KK=ao e_ckTyped f28 wO [.st .Program,.st .Func] [.bo] (a0_p,a1_f) KK:=by kernel_rfl
theorem NH:Cont prog 28 zP:=k1 e_ckTyped (En.okc QW (En.okc WH En.ok0)) (fn:=f28) wO (fun (a0_p,a1_f) hp KK h=>Eq.mp (Dl a0_p a1_f KK) (FE a0_p a1_f hp KK h))
def vT:CKt:=bg [.mp .s .bo,.st .Block] [.mp .s .bo] (fun x=>pG x.1 x.2) (fun x=>ir x.1 x.2)
def Ak:An:=.s .l (.s .l (.s (.s .l (.b (.lp ⟨[5,11,12],[],[],[.sl 13 (.i .i64),.mp (.gh 800000) .s .bo]⟩ (.s .l (.s (.c .l .l) (.j ⟨[5,11,12,13],[],[],[.mp (.gh 800000) .s .bo]⟩ (.b (.s .l (.s .l (.c .l .l)))) .l)))))) (.s .l .l)))
noncomputable abbrev e_aqOver:En:=⟨prog,eU,[(106,vX)],[],noP⟩
theorem G2 (a0_s:Option (List ((List UInt8)×Bool))) (a1_b:Lt.Block) (KK:(Option (List ((List UInt8)×Bool)))->Prop):wh a0_s a1_b KK=ao e_aqOver f64 Ak [.mp .s .bo,.st .Block] [.mp .s .bo] (a0_s,a1_b) KK:=by kernel_rfl
theorem EF:Cont prog 64 vT:=k1 e_aqOver (En.okc xi En.ok0) (fn:=f64) Ak (fun (a0_s,a1_b) hp KK h=>Eq.mp (G2 a0_s a1_b KK) (JB a0_s a1_b hp KK h))
def zV:CKt:=ay [.st .Func,.s] [.i .i64,.bo] (fun x=>gF x.1 x.2)
def wT:An:=.s .l (.s (.s .l (.b (.lp ⟨[1,9,10],[],[],[.sl 11 (.i .i64)]⟩ (.s .l (.s (.c .l .l) (.s (.b (.s .l (.s .l (.c (.s .l .l) .l)))) .l)))))) (.s .l .l))
theorem Dq (a0_f:Lt.Func) (a1_name:List UInt8) (KK:(Int×Bool)->Prop):sV a0_f a1_name KK=ao eZ f169 wT [.st .Func,.s] [.i .i64,.bo] (a0_f,a1_name) KK:=by kernel_rfl
theorem NO:Cont prog 169 zV:=k0 eZ En.ok0 (fn:=f169) wT (fun (a0_f,a1_name) KK h=>Eq.mp (Dq a0_f a1_name KK) (FK a0_f a1_name KK h))
def Pw:CKt:=bg [.st .Func] [(.sl (.sl (.i .i64)))] (fun x=>pH x) (fun x=>gk x)
def LV:An:=.s .l (.s .l (.s (.s .l (.b (.lp ⟨[1,15,16],[.loc 1],[],[.ow 3 [.ow [.fr]] (.sl (.i .i64)),.sl 17 (.i .i64)]⟩ (.s .l (.s (.c .l .l) (.s (.b (.s .l (.s .l (.b (.lp ⟨[1,4,15,16,17,24,25],[.loc 1],[],[.ow 3 [.ow [.fr]] (.sl (.i .i64)),.sl 26 (.i .i64)]⟩ (.s .l (.s (.c .l .l) (.j ⟨[1,4,15,16,17,24,25,26],[.loc 1],[],[.ow 3 [.ow [.fr]] (.sl (.i .i64))]⟩ (.b (.s .l (.s .l (.s .l (.c .l .l))))) .l)))))))) .l)))))) (.s .l .l)))
noncomputable abbrev e_flOf:En:=⟨prog,eU,[(169,zV)],eP,noP⟩
theorem O7 (a0_f:Lt.Func) (KK:(List (List Int))->Prop):IC a0_f KK=ao e_flOf f100 LV [.st .Func] [(.sl (.sl (.i .i64)))] a0_f KK:=by kernel_rfl
theorem WC:Cont prog 100 Pw:=k1 e_flOf (En.okc NO En.ok0) (fn:=f100) LV (fun a0_f hp KK h=>Eq.mp (O7 a0_f KK) (Rv a0_f hp KK h))
def Lq:CKt:=ay [(.sl (.i .i64)),.i .i64] [.i .i64] (fun x=>A3 x.1 x.2)
def Ek:An:=.s .l (.s (.s .l (.b (.lp ⟨[0,1,7],[],[],[.sl 8 (.i .i64)]⟩ (.s .l (.s (.c .l .l) (.s (.b (.s .l (.s .l (.c (.s .l .l) .l)))) .l)))))) (.s .l .l))
theorem K4 (a0_s:List Int) (a1_v:Int) (KK:Int->Prop):BE a0_s a1_v KK=ao eZ f207 Ek [(.sl (.i .i64)),.i .i64] [.i .i64] (a0_s,a1_v) KK:=by kernel_rfl
theorem T5:Cont prog 207 Lq:=k0 eZ En.ok0 (fn:=f207) Ek (fun (a0_s,a1_v) KK h=>Eq.mp (K4 a0_s a1_v KK) (Oj a0_s a1_v KK h))
def DI:CKt:=FSx [(.sl (.i .i64)),.i .i64] [.bo] (fun x=>True) (fun x=>tJ x.1 x.2)
def Ar:An:=.s .l (.s .l .l)
noncomputable abbrev e_hasInt:En:=⟨prog,eU,[(207,Lq)],[],noP⟩
theorem G7 (a0_s:List Int) (a1_v:Int) (KK:Bool->Prop):DV a0_s a1_v KK=ao e_hasInt f170 Ar [(.sl (.i .i64)),.i .i64] [.bo] (a0_s,a1_v) KK:=by kernel_rfl
theorem QO:Cont prog 170 DI:=k6 e_hasInt (En.okc T5 En.ok0) (fn:=f170) Ar (fun (a0_s,a1_v) hp KK h=>Eq.mp (G7 a0_s a1_v KK) (JG a0_s a1_v KK h))
def zR:CKt:=bg [(.sl (.sl (.i .i64)))] [(.sl (.sl (.i .i64)))] (fun x=>n3 x) (fun x=>eH x)
def wQ:An:=.s .l (.s .l (.s (.s .l (.b (.lp ⟨[0,11,12],[],[],[.ow 3 [.ow [.fr]] (.sl (.i .i64)),.sl 13 (.i .i64)]⟩ (.s .l (.s (.c .l .l) (.s (.b (.s .l (.s .l (.b (.lp ⟨[0,4,11,12,13,18,19],[],[],[.ow 3 [.ow [.fr]] (.sl (.i .i64)),.sl 20 (.i .i64)]⟩ (.s .l (.s (.c .l .l) (.j ⟨[0,4,11,12,13,18,19,20],[],[],[.ow 3 [.ow [.fr]] (.sl (.i .i64))]⟩ (.b (.s .l (.j ⟨[0,3,4,7,11,12,13,18,19,20],[.gh 900003],[],[.sl 40 .bo]⟩ .l (.c .l .l)))) .l)))))))) .l)))))) (.s .l .l)))
noncomputable abbrev e_flPreds:En:=⟨prog,eU,[(170,DI)],eP,noP⟩
theorem Dn (a0_g:List (List Int)) (KK:(List (List Int))->Prop):sS a0_g KK=ao e_flPreds f101 wQ [(.sl (.sl (.i .i64)))] [(.sl (.sl (.i .i64)))] a0_g KK:=by kernel_rfl
theorem NJ:Cont prog 101 zR:=k1 e_flPreds (En.okc QO En.ok0) (fn:=f101) wQ (fun a0_g hp KK h=>Eq.mp (Dn a0_g KK) (FG a0_g hp KK h))
def zQ:CKt:=kH [(.sl (.sl (.i .i64)))] [(.sl (.i .i64))] (fun x=>r9 x) (fun x y=>tY x y)
def ri:An:=.s .l (.s .l (.s .l (.s (.s .l (.c (.s .l .l) .l)) (.s .l (.s .l (.s (.b (.lp ⟨[0,100000,100002,100006],[],[],[.ow 4 [.fr] .bo,.ow 5 [.fr] (.i .i64),.ow 6 [.fr,.fr] (.st .step)]⟩ (.s (.s .l (.c .l .l)) (.b (.s .l (.s (.s .l (.c (.s .l (.s .l .l)) .l)) (.s .l (.s .l (.j ⟨[0,4,5,6,8,100000,100002,100006],[.gh 900004,.gh 900005,.gh 900006],[],[.sl 88 .bo]⟩ .l (.c (.s .l .l) .l)))))))))) (.s .l .l)))))))
def sF:CKt:=apT (cm ⟨prog,eU,[],eW,noP⟩ f171 ri)
def tb:An:=.s .l (.b (.lp ⟨[0,100004,100010],[],[],[.sl 2 (.i .i64),.sl 3 (.i .i64),.gw (.gh 900004) [.fr] (.i .i64)]⟩ (.s (.s .l (.c .l .l)) (.s (.b .l) .l))))
def uX:CKt:=apT (cm ⟨prog,eU,[],eO,noP⟩ f172 tb)
def wP:An:=.s .l (.j ⟨[],[],[],[.ow 4 [.fr] (.i .i64)]⟩ .l (.s .l (.s .l .l)))
noncomputable abbrev e_flOrder:En:=⟨prog,eU,[(171,sF),(172,uX)],eO,noP⟩
theorem Dm (a0_g:List (List Int)) (KK:(List Int)->Prop):sR a0_g KK=ao e_flOrder f102 wP [(.sl (.sl (.i .i64)))] [(.sl (.i .i64))] a0_g KK:=by kernel_rfl
theorem NI:Cont prog 102 zQ:=k8 e_flOrder (En.okc (aC (kI En.ok0 (fn:=f171))) (En.okc (aC (kI En.ok0 (fn:=f172))) En.ok0)) (fn:=f102) wP (fun a0_g hp KK h=>Dm a0_g KK ▸ (FF a0_g hp KK h))
def vU:CKt:=ay [.st .Func] [.mp .s .bo] (fun x=>wZ x)
def uw:An:=.s .l (.s .l (.s (.s .l (.b (.lp ⟨[3,8,9],[],[],[.sl 10 (.i .i64),.mp (.gh 6) .s .bo]⟩ (.s .l (.s (.c .l .l) (.s (.b (.s .l .l)) .l)))))) (.s .l .l)))
theorem zC (a0_f:Lt.Func) (KK:(Option (List ((List UInt8)×Bool)))->Prop):pU a0_f KK=ao eZ f103 uw [.st .Func] [.mp .s .bo] a0_f KK:=by kernel_rfl
theorem Jh:Cont prog 103 vU:=k0 eZ En.ok0 (fn:=f103) uw (fun a0_f KK h=>Eq.mp (zC a0_f KK) (Cn a0_f KK h))
def DE:CKt:=kH [.mp .s .bo,.mp .s .bo] [.mp .s .bo] (fun x=>CR x.1 x.2) (fun x y=>yg x.1 x.2 y)
def Ao:An:=.s .l (.s (.s .l (.c (.s .l .l) .l)) (.s .l (.s (.s .l (.b (.lp ⟨[1,5,12],[],[],[.mp (.gh 10) .s .bo,.it (.gh 12) .s .bo]⟩ (.s .l (.s (.c .l .l) (.b (.s .l (.s .l (.c .l .l))))))))) (.s .l .l))))
theorem G4 (a0_a:Option (List ((List UInt8)×Bool))) (a1_b:Option (List ((List UInt8)×Bool))) (KK:(Option (List ((List UInt8)×Bool)))->Prop):wj a0_a a1_b KK=ao eZ f104 Ao [.mp .s .bo,.mp .s .bo] [.mp .s .bo] (a0_a,a1_b) KK:=by kernel_rfl
theorem QJ:Cont prog 104 DE:=k8 eZ En.ok0 (fn:=f104) Ao (fun (a0_a,a1_b) hp KK h=>Eq.mp (G4 a0_a a1_b KK) (JD a0_a a1_b hp KK h))
def DD:CKt:=bg [.mp .s .bo,.st .Block] [.mp .s .bo] (fun x=>pG x.1 x.2) (fun x=>jw x.1 x.2)
def Al:An:=.s .l (.s .l (.s (.s .l (.b (.lp ⟨[5,11,12],[],[],[.sl 13 (.i .i64),.mp (.gh 800000) .s .bo]⟩ (.s .l (.s (.c .l .l) (.s (.b (.s .l .l)) .l)))))) (.s .l .l)))
noncomputable abbrev e_aqPhis:En:=⟨prog,eU,[(106,vX)],[],noP⟩
theorem G3 (a0_s:Option (List ((List UInt8)×Bool))) (a1_b:Lt.Block) (KK:(Option (List ((List UInt8)×Bool)))->Prop):wi a0_s a1_b KK=ao e_aqPhis f105 Al [.mp .s .bo,.st .Block] [.mp .s .bo] (a0_s,a1_b) KK:=by kernel_rfl
theorem QI:Cont prog 105 DD:=k1 e_aqPhis (En.okc xi En.ok0) (fn:=f105) Al (fun (a0_s,a1_b) hp KK h=>Eq.mp (G3 a0_s a1_b KK) (JC a0_s a1_b hp KK h))
def Lm:CKt:=kH [.st .Func] [(.sl (.mp .s .bo))] (fun x=>nZ x) (fun x y=>o7 x y)
def Eg:An:=.s .l (.s .l (.s .l (.s .l (.s .l (.s .l (.s (.s .l (.b (.lp ⟨[1,4,5],[.loc 1],[],[.ow 6 [.fr] (.mp .s .bo),.ow 7 [.fr] (.mp .s .bo),.sl 8 .bo]⟩ (.s (.s .l (.c .l .l)) (.b (.s .l (.s .l (.b (.lp ⟨[1,4,5,29,30],[.loc 1],[],[.ow 6 [.fr] (.mp .s .bo),.ow 7 [.fr] (.mp .s .bo),.sl 8 .bo,.sl 31 (.i .i64)]⟩ (.s .l (.s (.c .l .l) (.s (.b (.s .l (.s .l (.j ⟨[1,4,5,6,7,8,10,29,30,31],[.gh 900006,.gh 900007,.loc 1],[],[.sl 11 (.mp .s .bo)]⟩ (.s .l (.c .l .l)) (.s (.s .l (.b (.lp ⟨[1,4,5,6,7,8,10,29,30,31,42,43],[.gh 900006,.gh 900007,.loc 1],[],[.sl 11 (.mp .s .bo),.sl 44 (.i .i64)]⟩ (.s .l (.s (.c .l .l) (.j ⟨[1,4,5,6,7,8,10,29,30,31,42,43,44],[.gh 900006,.gh 900007,.loc 1],[],[.sl 11 (.mp .s .bo)]⟩ (.b (.s .l (.s .l (.c .l .l)))) .l)))))) (.j ⟨[1,4,5,6,7,8,10,29,30,31],[.gh 900006,.gh 900007,.loc 1],[],[.sl 11 (.mp .s .bo)]⟩ (.s .l (.c .l .l)) (.s .l (.j ⟨[1,4,5,6,7,10,11,29,30,31],[.gh 900006,.gh 900007,.loc 1],[],[.sl 8 .bo]⟩ (.j ⟨[1,4,5,6,7,8,10,11,29,30,31],[.gh 900006,.gh 900007,.loc 1],[],[.sl 84 .bo]⟩ .l (.c .l .l)) .l)))))))) .l)))))))))))) (.s .l .l)))))))
noncomputable abbrev e_asAll:En:=⟨prog,eU,[(64,vT),(100,Pw),(101,zR),(102,zQ),(103,vU),(104,DE),(105,DD)],[],noP⟩
theorem KZ (a0_f:Lt.Func) (KK:(List (Option (List ((List UInt8)×Bool))))->Prop):BA a0_f KK=ao e_asAll f62 Eg [.st .Func] [(.sl (.mp .s .bo))] a0_f KK:=by kernel_rfl
theorem TZ:Cont prog 62 Lm:=k8 e_asAll (En.okc EF (En.okc WC (En.okc NJ (En.okc NI (En.okc Jh (En.okc QJ (En.okc QI En.ok0))))))) (fn:=f62) Eg (fun a0_f hp KK h=>Eq.mp (KZ a0_f KK) (Oe a0_f hp KK h))
def DL:CKt:=kH [.st .Instr] [.sl .s] (fun x=>eJ x) (fun x y=>yh x y)
def lA:An:=.s .l (.s .l (.c .l .l))
def ma:CKt:=apT (cm ⟨prog,eU,[],[],noP⟩ f208 lA)
def iL:An:=.s .l (.s .l (.c .l .l))
def jl:CKt:=apT (cm ⟨prog,eU,[],[],noP⟩ f208 iL)
def iM:An:=.s .l (.s .l (.c .l .l))
def jm:CKt:=apT (cm ⟨prog,eU,[],[],noP⟩ f208 iM)
def rj:An:=.s .l (.s (.s .l (.b (.lp ⟨[0,3,15,16,100000,100001,100002,100003,100004,100005,100006],[.loc 1001,.loc 3],[],[.sl 17 (.i .i64),.mp (.gh 1004) .s .bo]⟩ (.s .l (.s (.c .l .l) (.j ⟨[0,3,15,16,17,100000,100001,100002,100003,100004,100005,100006],[.loc 1001,.loc 3],[],[.mp (.gh 1004) .s .bo]⟩ (.b (.s .l .l)) .l)))))) (.s (.s .l (.b (.lp ⟨[0,3,26,27,100000,100001,100002,100003,100004,100005,100006],[.loc 1001,.loc 3],[],[.sl 28 (.i .i64),.mp (.gh 1004) .s .bo]⟩ (.s .l (.s (.c .l .l) (.s (.b (.s .l (.s .l (.b (.lp ⟨[0,3,26,27,28,33,34,100000,100001,100002,100003,100004,100005,100006],[.loc 1001,.loc 3],[],[.sl 35 (.i .i64),.mp (.gh 1004) .s .bo]⟩ (.s .l (.s (.c .l .l) (.j ⟨[0,3,26,27,28,33,34,35,100000,100001,100002,100003,100004,100005,100006],[.loc 1001,.loc 3],[],[.mp (.gh 1004) .s .bo]⟩ (.b (.s .l .l)) .l)))))))) .l)))))) (.s .l (.b (.lp ⟨[0,46,47,100000,100001,100002,100003,100004,100005,100006],[.loc 1001],[],[.sl 48 (.i .i64),.mp (.gh 1004) .s .bo]⟩ (.s .l (.s (.c .l .l) (.s (.b (.s .l (.s .l (.b (.lp ⟨[0,46,47,48,53,54,100000,100001,100002,100003,100004,100005,100006],[.loc 1001],[],[.sl 55 (.i .i64),.mp (.gh 1004) .s .bo]⟩ (.s .l (.s (.c .l .l) (.j ⟨[0,46,47,48,53,54,55,100000,100001,100002,100003,100004,100005,100006],[.loc 1001],[],[.mp (.gh 1004) .s .bo]⟩ (.b (.s .l .l)) .l)))))))) .l))))))))
def sG:CKt:=apT (cm ⟨prog,eU,[(208,(yA 21 ma (yA 39 jl jm)))],[],noP⟩ f174 rj)
def Av:An:=.s .l (.s .l (.s .l (.s .l .l)))
noncomputable abbrev e_lvUses:En:=⟨prog,eU,[(174,sG),(175,zS)],[],noP⟩
theorem Ia (a0_i:Lt.Instr) (KK:(List (List UInt8))->Prop):wn a0_i KK=ao e_lvUses f108 Av [.st .Instr] [.sl .s] a0_i KK:=by kernel_rfl
theorem QS:Cont prog 108 DL:=k8 e_lvUses (En.okc (aC (kI (En.okc (gH (aC (kI En.ok0 (fn:=f208))) (gH (aC (kI En.ok0 (fn:=f208))) (aC (kI En.ok0 (fn:=f208))))) En.ok0) (fn:=f174))) (En.okc NK En.ok0)) (fn:=f108) Av (fun a0_i hp KK h=>Ia a0_i KK ▸ (JJ a0_i hp KK h))
def zK:CKt:=bg [.mp .s .bo,.st .Block] [.bo] (fun x=>Ku x.1 x.2) (fun x=>iO x.1 x.2)
def ta:An:=.s .l (.s (.s .l (.b (.lp ⟨[0,7,8,100003,100005,100007,100011,100012,100013,100014,100015,100016,100017,100018,100019],[.gh 800000,.loc 1003,.loc 1007],[],[.sl 9 (.i .i64)]⟩ (.s .l (.s (.c .l .l) (.s (.b (.s .l (.s .l (.c (.s .l .l) .l)))) .l)))))) (.s .l .l))
def uW:CKt:=apT (cm ⟨prog,eU,[],[],noP⟩ f107 ta)
def s9:An:=.s .l (.s .l .l)
def uV:CKt:=apT (cm ⟨prog,eU,[],[],noP⟩ f109 s9)
def wK:An:=.s .l (.s .l (.s (.s .l (.b (.lp ⟨[3,5,11,12],[.loc 3],[],[.sl 13 (.i .i64),.mp (.gh 800000) .s .bo]⟩ (.s .l (.s (.c .l .l) (.j ⟨[3,5,11,12,13],[.loc 3],[],[.mp (.gh 800000) .s .bo]⟩ (.b (.s .l (.s (.j ⟨[3,5,7,11,12,13],[.gh 800000,.loc 3,.loc 7],[],[.sl 21 .bo]⟩ .l (.c (.s .l .l) .l)) (.s .l (.c .l .l))))) .l)))))) (.j ⟨[],[],[],[.sl 4 .bo]⟩ .l .l)))
noncomputable abbrev e_aqBlock:En:=⟨prog,eU,[(106,vX),(107,uW),(108,DL),(109,uV)],[],noP⟩
theorem Dh (a0_s:Option (List ((List UInt8)×Bool))) (a1_b:Lt.Block) (KK:Bool->Prop):sM a0_s a1_b KK=ao e_aqBlock f63 wK [.mp .s .bo,.st .Block] [.bo] (a0_s,a1_b) KK:=by kernel_rfl
theorem NB:Cont prog 63 zK:=k1 e_aqBlock (En.okc xi (En.okc (aC (kI En.ok0 (fn:=f107))) (En.okc QS (En.okc (aC (kI En.ok0 (fn:=f109))) En.ok0)))) (fn:=f63) wK (fun (a0_s,a1_b) hp KK h=>Dh a0_s a1_b KK ▸ (Fz a0_s a1_b hp KK h))
def Lr:CKt:=ay [.sl .s,.s] [.i .i64] (fun x=>Fw x.1 x.2)
def Em:An:=.s .l (.s (.s .l (.b (.lp ⟨[0,1,7],[],[],[.sl 8 (.i .i64)]⟩ (.s .l (.s (.c .l .l) (.s (.b (.s .l (.s .l (.c (.s .l .l) .l)))) .l)))))) (.s .l .l))
theorem K5 (a0_s:List (List UInt8)) (a1_v:List UInt8) (KK:Int->Prop):BF a0_s a1_v KK=ao eZ f211 Em [.sl .s,.s] [.i .i64] (a0_s,a1_v) KK:=by kernel_rfl
theorem T6:Cont prog 211 Lr:=k0 eZ En.ok0 (fn:=f211) Em (fun (a0_s,a1_v) KK h=>Eq.mp (K5 a0_s a1_v KK) (Ol a0_s a1_v KK h))
def DJ:CKt:=ay [.sl .s,.s] [.bo] (fun x=>Ch x.1 x.2)
def As:An:=.s .l (.s .l .l)
noncomputable abbrev e_hasStr:En:=⟨prog,eU,[(211,Lr)],[],noP⟩
theorem G8 (a0_s:List (List UInt8)) (a1_v:List UInt8) (KK:Bool->Prop):DW a0_s a1_v KK=ao e_hasStr f176 As [.sl .s,.s] [.bo] (a0_s,a1_v) KK:=by kernel_rfl
theorem QP:Cont prog 176 DJ:=k0 e_hasStr (En.okc T6 En.ok0) (fn:=f176) As (fun (a0_s,a1_v) KK h=>Eq.mp (G8 a0_s a1_v KK) (JH a0_s a1_v KK h))
def zL:CKt:=ay [.st .Func,.s,.s] [.bo] (fun x=>BX x.1 x.2.1 x.2.2)
def wL:An:=.s .l (.s (.s .l (.b (.lp ⟨[1,2,10,11],[],[],[.sl 12 (.i .i64)]⟩ (.s .l (.s (.c .l .l) (.s (.b (.s .l (.s .l (.c (.s .l .l) .l)))) .l)))))) (.s .l .l))
noncomputable abbrev e_asLeads:En:=⟨prog,eU,[(176,DJ)],[],noP⟩
theorem Di (a0_f:Lt.Func) (a1_from:List UInt8) (a2_to:List UInt8) (KK:Bool->Prop):sN a0_f a1_from a2_to KK=ao e_asLeads f110 wL [.st .Func,.s,.s] [.bo] (a0_f,a1_from,a2_to) KK:=by kernel_rfl
theorem NC:Cont prog 110 zL:=k0 e_asLeads (En.okc QP En.ok0) (fn:=f110) wL (fun (a0_f,a1_from,a2_to) KK h=>Eq.mp (Di a0_f a1_from a2_to KK) (FA a0_f a1_from a2_to KK h))
def DG:CKt:=bg [.st .Func,(.mp .s (.mp .s .bo))] [.bo] (fun x=>tZ x.1 x.2) (fun x=>I6 x.1 x.2)
def u5:An:=.s .l (.s .l .l)
def vS:CKt:=apT (cm ⟨prog,eU,[],[],noP⟩ f109 u5)
def Ap:An:=.s .l (.s (.s .l (.b (.lp ⟨[1,2,14,15],[.loc 2],[],[.sl 16 (.i .i64)]⟩ (.s .l (.s (.c .l .l) (.s (.b (.s .l (.s .l (.b (.lp ⟨[1,2,6,14,15,16,21,22],[.loc 2,.loc 6],[],[.sl 23 (.i .i64)]⟩ (.s .l (.s (.c .l .l) (.s (.b (.s .l (.s .l (.b (.lp ⟨[1,2,6,14,15,16,21,22,23,28,29],[.loc 2,.loc 6],[],[.sl 30 (.i .i64)]⟩ (.s .l (.s (.c .l .l) (.s (.b (.s .l (.s .l (.j ⟨[1,2,6,14,15,16,21,22,23,28,29,30],[.loc 2,.loc 6],[],[.sl 56 .bo]⟩ .l (.c (.s .l .l) .l))))) .l)))))))) .l)))))))) .l)))))) (.s .l .l))
noncomputable abbrev e_asPhis:En:=⟨prog,eU,[(109,vS),(110,zL)],[],noP⟩
theorem G5 (a0_f:Lt.Func) (a1_outs:Option (List ((List UInt8)×(Option (List ((List UInt8)×Bool)))))) (KK:Bool->Prop):wk a0_f a1_outs KK=ao e_asPhis f65 Ap [.st .Func,(.mp .s (.mp .s .bo))] [.bo] (a0_f,a1_outs) KK:=by kernel_rfl
theorem QK:Cont prog 65 DG:=k1 e_asPhis (En.okc (aC (kI En.ok0 (fn:=f109))) (En.okc NC En.ok0)) (fn:=f65) Ap (fun (a0_f,a1_outs) hp KK h=>G5 a0_f a1_outs KK ▸ (JE a0_f a1_outs hp KK h))
def zM:CKt:=bg [.st .Func] [.bo] (fun x=>Kv x) (fun x=>iP x)
def wM:An:=.s .l (.s .l (.s (.s .l (.b (.lp ⟨[1,3,8,9],[.loc 1],[],[.sl 10 (.i .i64),.mp (.gh 6) .s (.mp .s .bo)]⟩ (.s .l (.s (.c .l .l) (.j ⟨[1,3,8,9,10],[.loc 1],[],[.mp (.gh 6) .s (.mp .s .bo)]⟩ (.b (.s .l (.s (.s .l (.c (.s .l .l) .l)) .l))) .l)))))) (.s .l .l)))
noncomputable abbrev e_asRight:En:=⟨prog,eU,[(62,Lm),(63,zK),(64,vT),(65,DG)],[],noP⟩
theorem Dj (a0_f:Lt.Func) (KK:Bool->Prop):sO a0_f KK=ao e_asRight f30 wM [.st .Func] [.bo] a0_f KK:=by kernel_rfl
theorem NE:Cont prog 30 zM:=k1 e_asRight (En.okc TZ (En.okc NB (En.okc EF (En.okc QK En.ok0)))) (fn:=f30) wM (fun a0_f hp KK h=>Eq.mp (Dj a0_f KK) (FB a0_f hp KK h))
def vV:CKt:=bg [.st .Program] [.i .i64] (fun x=>cd x) (fun x=>bU x)
def kU:An:=.s .l (.s .l .l)
def lk:CKt:=ze ⟨prog,eU,[(19,uk),(20,zO)],[],noP⟩ f18 kU
def kV:An:=.s .l (.s .l .l)
def ll:CKt:=ze ⟨prog,eU,[(22,vW)],[],noP⟩ f21 kV
def kW:An:=.s .l (.s .l .l)
def lm:CKt:=ze ⟨prog,eU,[(24,DN)],[],noP⟩ f23 kW
def pg:An:=.s .l (.s (.s .l (.b (.un 4 (.s .l (.s (.c .l .l) (.s (.b (.s .l (.s .l (.c (.s .l .l) .l)))) .l)))))) (.s .l .l))
def pN:CKt:=apT (cm ⟨prog,eU,[(1000018,lk),(1000021,ll),(1000023,lm)],[],noP⟩ f17 pg)
def il:An:=.s .l (.s .l .l)
def iF:CKt:=ze ⟨prog,eU,[(26,zT)],[],noP⟩ f25 il
def im:An:=.s .l (.s .l .l)
def iG:CKt:=ze ⟨prog,eU,[(28,zP)],[],noP⟩ f27 im
def io:An:=.s .l (.s .l .l)
def iH:CKt:=ze ⟨prog,eU,[(30,zM)],[],noP⟩ f29 io
def lz:An:=.s .l (.s (.s .l (.b (.un 4 (.s .l (.s (.c .l .l) (.s (.b (.s .l (.s .l (.c (.s .l .l) .l)))) .l)))))) (.s .l .l))
def l9:CKt:=apT (cm ⟨prog,eU,[(1000025,iF),(1000027,iG),(1000029,iH)],[],noP⟩ f17 lz)
def uy:An:=.s .l (.s .l (.s (.s .l (.c (.s .l .l) .l)) (.s (.s .l (.b (.lp ⟨[1,19,20],[],[],[.sl 21 (.i .i64)]⟩ (.s .l (.s (.c .l .l) (.s (.b (.s .l (.s .l (.s .l (.c (.s .l .l) .l))))) .l)))))) (.s .l .l))))
noncomputable abbrev e_ckSource:En:=⟨prog,eU,[(17,(yA 13 pN l9))],[],noP⟩
theorem zD (a0_p:Lt.Program) (KK:Int->Prop):pV a0_p KK=ao e_ckSource f9 uy [.st .Program] [.i .i64] a0_p KK:=by kernel_rfl
theorem xh:Cont prog 9 vV:=k1 e_ckSource (En.okc (gH (aC (kI (En.okk (kC (En.okc EH (En.okc NG En.ok0)) (fn:=f18)) (En.okk (kC (En.okc Ji En.ok0) (fn:=f21)) (En.okk (kC (En.okc QV En.ok0) (fn:=f23)) En.ok0))) (fn:=f17))) (aC (kI (En.okk (kC (En.okc NM En.ok0) (fn:=f25)) (En.okk (kC (En.okc NH En.ok0) (fn:=f27)) (En.okk (kC (En.okc NE En.ok0) (fn:=f29)) En.ok0))) (fn:=f17)))) En.ok0) (fn:=f9) uy (fun a0_p hp KK h=>zD a0_p KK ▸ (Co a0_p hp KK h))
def m7:CKt:=ay [(.sl (.st .Var)),.i .i64] [.i .i64] (fun x=>bM x.1 x.2)
def rh:An:=.s .l (.s (.s .l (.c (.s .l .l) .l)) (.s .l (.s (.s .l (.b (.lp ⟨[0,1],[],[],[.sl 5 (.i .i64),.sl 6 (.i .i64)]⟩ (.s (.j ⟨[0,1,5,6],[],[],[.sl 23 .bo]⟩ .l (.c .l .l)) (.j ⟨[0,1,6],[],[],[.sl 5 (.i .i64)]⟩ (.b (.s .l (.s .l (.c .l .l)))) .l))))) (.s .l .l))))
theorem yP (a0_l:List Lt.Var) (a1_most:Int) (KK:Int->Prop):ni a0_l a1_most KK=ao eZ f15 rh [(.sl (.st .Var)),.i .i64] [.i .i64] (a0_l,a1_most) KK:=by kernel_rfl
theorem uC:Cont prog 15 m7:=k0 eZ En.ok0 (fn:=f15) rh (fun (a0_l,a1_most) KK h=>Eq.mp (yP a0_l a1_most KK) (zj a0_l a1_most KK h))
def uj:CKt:=ay [(.sl (.st .Arg)),.i .i64] [.i .i64] (fun x=>dj x.1 x.2)
def ra:An:=.s .l (.s (.s .l (.c (.s .l .l) .l)) (.s .l (.s (.s .l (.b (.lp ⟨[0,1],[],[],[.sl 5 (.i .i64),.sl 6 (.i .i64)]⟩ (.s (.j ⟨[0,1,5,6],[],[],[.sl 23 .bo]⟩ .l (.c .l .l)) (.s (.b .l) .l))))) (.s .l .l))))
theorem yO (a0_l:List Lt.Arg) (a1_most:Int) (KK:Int->Prop):nh a0_l a1_most KK=ao eZ f154 ra [(.sl (.st .Arg)),.i .i64] [.i .i64] (a0_l,a1_most) KK:=by kernel_rfl
theorem EG:Cont prog 154 uj:=k0 eZ En.ok0 (fn:=f154) ra (fun (a0_l,a1_most) KK h=>Eq.mp (yO a0_l a1_most KK) (zi a0_l a1_most KK h))
def qI:CKt:=bg [.st .Instr,.i .i64] [.i .i64] (fun x=>Sq x.1 x.2) (fun x=>dD x.1 x.2)
def pu:An:=.s .l (.s (.j ⟨[1,2],[.loc 2],[],[.sl 20 .bo]⟩ .l (.c (.s .l .l) .l)) (.s .l (.j ⟨[1,2],[.loc 2],[],[.sl 5 (.i .i64)]⟩ (.s .l (.c .l .l)) (.j ⟨[1,2],[.loc 2],[],[.sl 5 (.i .i64)]⟩ (.s .l (.c .l .l)) (.s (.s .l (.b (.lp ⟨[1,2],[.loc 2],[],[.sl 5 (.i .i64),.sl 6 (.i .i64)]⟩ (.s (.j ⟨[1,2,5,6],[.loc 2],[],[.sl 61 .bo]⟩ .l (.c .l .l)) (.s (.b (.s .l (.j ⟨[1,2,6],[.loc 2],[],[.sl 5 (.i .i64)]⟩ (.s .l (.c .l .l)) (.s .l (.b (.lp ⟨[1,2,6],[.loc 2],[],[.sl 5 (.i .i64),.sl 7 (.i .i64)]⟩ (.s (.j ⟨[1,2,5,6,7],[.loc 2],[],[.sl 98 .bo]⟩ .l (.c .l .l)) (.j ⟨[1,2,6,7],[.loc 2],[],[.sl 5 (.i .i64)]⟩ (.b (.s .l (.s .l (.c .l .l)))) .l)))))))) .l))))) (.s (.s .l (.b (.lp ⟨[1,2],[.loc 2],[],[.sl 5 (.i .i64),.sl 8 (.i .i64)]⟩ (.s (.j ⟨[1,2,5,8],[.loc 2],[],[.sl 141 .bo]⟩ .l (.c .l .l)) (.j ⟨[1,2,8],[.loc 2],[],[.sl 5 (.i .i64)]⟩ (.b (.s .l (.s .l (.c .l .l)))) .l))))) (.s .l .l)))))))
noncomputable abbrev e_countInstr:En:=⟨prog,eU,[(154,uj)],[],noP⟩
theorem vn (a0_x:Lt.Instr) (a1_most:Int) (KK:Int->Prop):mi a0_x a1_most KK=ao e_countInstr f87 pu [.st .Instr,.i .i64] [.i .i64] (a0_x,a1_most) KK:=by kernel_rfl
theorem B0:Cont prog 87 qI:=k1 e_countInstr (En.okc EG En.ok0) (fn:=f87) pu (fun (a0_x,a1_most) hp KK h=>Eq.mp (vn a0_x a1_most KK) (xL a0_x a1_most hp KK h))
def qH:CKt:=bg [.st .Block,.i .i64] [.i .i64] (fun x=>So x.1 x.2) (fun x=>dC x.1 x.2)
def pq:An:=.s .l (.s (.j ⟨[1,2],[.loc 2],[],[.sl 29 .bo]⟩ .l (.c (.s .l .l) .l)) (.s .l (.j ⟨[1,2],[.loc 2],[],[.sl 5 (.i .i64)]⟩ (.s .l (.c .l .l)) (.s (.s .l (.b (.lp ⟨[1,2],[.loc 2],[],[.sl 5 (.i .i64),.sl 6 (.i .i64)]⟩ (.s (.j ⟨[1,2,5,6],[.loc 2],[],[.sl 56 .bo]⟩ .l (.c .l .l)) (.s (.b .l) .l))))) (.s (.s .l (.b (.lp ⟨[1,2],[.loc 2],[],[.sl 5 (.i .i64),.sl 7 (.i .i64)]⟩ (.s (.j ⟨[1,2,5,7],[.loc 2],[],[.sl 78 .bo]⟩ .l (.c .l .l)) (.s (.b (.s .l (.s .l (.b (.lp ⟨[1,2,7],[.loc 2],[],[.sl 5 (.i .i64),.sl 8 (.i .i64)]⟩ (.s (.j ⟨[1,2,5,7,8],[.loc 2],[],[.sl 104 .bo]⟩ .l (.c .l .l)) (.j ⟨[1,2,7,8],[.loc 2],[],[.sl 5 (.i .i64)]⟩ (.b (.s .l (.s .l (.c .l .l)))) .l))))))) .l))))) (.s (.s .l (.b (.lp ⟨[1,2],[.loc 2],[],[.sl 5 (.i .i64),.sl 9 (.i .i64)]⟩ (.s (.j ⟨[1,2,5,9],[.loc 2],[],[.sl 147 .bo]⟩ .l (.c .l .l)) (.s (.b .l) .l))))) (.s .l .l)))))))
noncomputable abbrev e_countBlock:En:=⟨prog,eU,[(87,qI)],[],noP⟩
theorem vm (a0_b:Lt.Block) (a1_most:Int) (KK:Int->Prop):mh a0_b a1_most KK=ao e_countBlock f45 pq [.st .Block,.i .i64] [.i .i64] (a0_b,a1_most) KK:=by kernel_rfl
theorem BZ:Cont prog 45 qH:=k1 e_countBlock (En.okc B0 En.ok0) (fn:=f45) pq (fun (a0_b,a1_most) hp KK h=>Eq.mp (vm a0_b a1_most KK) (xK a0_b a1_most hp KK h))
def zJ:CKt:=bg [.st .Func,.i .i64] [.i .i64] (fun x=>Sr x.1 x.2) (fun x=>ka x.1 x.2)
def wJ:An:=.s .l (.s (.s .l (.c (.s .l .l) .l)) (.s .l (.j ⟨[1,2],[.loc 2],[],[.sl 5 (.i .i64)]⟩ (.s .l (.c .l .l)) (.j ⟨[1,2],[.loc 2],[],[.sl 5 (.i .i64)]⟩ (.s .l (.c .l .l)) (.j ⟨[1,2],[.loc 2],[],[.sl 5 (.i .i64)]⟩ (.s .l (.c .l .l)) (.s (.s .l (.b (.lp ⟨[1,2],[.loc 2],[],[.sl 5 (.i .i64),.sl 6 (.i .i64)]⟩ (.s (.j ⟨[1,2,5,6],[.loc 2],[],[.sl 53 .bo]⟩ .l (.c .l .l)) (.s (.b .l) .l))))) (.s .l .l)))))))
noncomputable abbrev e_FewFunc:En:=⟨prog,eU,[(15,m7),(45,qH)],[],noP⟩
theorem Dg (a0_f:Lt.Func) (a1_most:Int) (KK:Int->Prop):sL a0_f a1_most KK=ao e_FewFunc f16 wJ [.st .Func,.i .i64] [.i .i64] (a0_f,a1_most) KK:=by kernel_rfl
theorem NA:Cont prog 16 zJ:=k1 e_FewFunc (En.okc uC (En.okc BZ En.ok0)) (fn:=f16) wJ (fun (a0_f,a1_most) hp KK h=>Eq.mp (Dg a0_f a1_most KK) (Fy a0_f a1_most hp KK h))
def VE:CKt:=bg [.st .Program,.i .i64] [.bo] (fun x=>CQ x.1 x.2) (fun x=>Lt.Few x.1 x.2)
def Qr:An:=.s .l (.s (.j ⟨[1,2],[.loc 2],[],[.sl 24 .bo]⟩ .l (.c (.s .l .l) .l)) (.s .l (.s (.s .l (.b (.lp ⟨[1,2],[.loc 2],[],[.sl 5 (.i .i64),.sl 6 (.i .i64)]⟩ (.s (.j ⟨[1,2,5,6],[.loc 2],[],[.sl 38 .bo]⟩ .l (.c .l .l)) (.j ⟨[1,2,6],[.loc 2],[],[.sl 5 (.i .i64)]⟩ (.b (.s .l (.s .l (.c .l .l)))) .l))))) (.s (.s .l (.b (.lp ⟨[1,2],[.loc 2],[],[.sl 5 (.i .i64),.sl 7 (.i .i64)]⟩ (.s (.j ⟨[1,2,5,7],[.loc 2],[],[.sl 72 .bo]⟩ .l (.c .l .l)) (.s (.b .l) .l))))) (.s (.s .l (.b (.lp ⟨[1,2],[.loc 2],[],[.sl 5 (.i .i64),.sl 8 (.i .i64)]⟩ (.s (.j ⟨[1,2,5,8],[.loc 2],[],[.sl 94 .bo]⟩ .l (.c .l .l)) (.s (.b .l) .l))))) (.s .l .l))))))
noncomputable abbrev e_Few:En:=⟨prog,eU,[(15,m7),(16,zJ)],[],noP⟩
theorem S2 (a0_p:Lt.Program) (a1_most:Int) (KK:Bool->Prop):PT a0_p a1_most KK=ao e_Few f8 Qr [.st .Program,.i .i64] [.bo] (a0_p,a1_most) KK:=by kernel_rfl
theorem XF:Cont prog 8 VE:=k1 e_Few (En.okc uC (En.okc NA En.ok0)) (fn:=f8) Qr (fun (a0_p,a1_most) hp KK h=>Eq.mp (S2 a0_p a1_most KK) (UC a0_p a1_most hp KK h))
set_option maxRecDepth 100000
theorem MT {P:Program} {f:Nat} {ps rs:List U} {pre pre':Fl ps->Prop} {F F':Fl ps->Fl rs} (hpre:∀ x,pre' x->pre x/\F' x=F x) (h:Cont P f (bg ps rs pre F)):Cont P f (bg ps rs pre' F'):=by
 refine ⟨h.run,fun pk s ops k k' hk hc=>?_,fun g pk s a w H γ F1 ops k hX hops hc=>h.call g pk s a w H γ F1 ops k hX hops ?_⟩
 ·unfold bg at hc ⊢;dsimp only at hc ⊢;split at hc
  ·exact ⟨hc.1,hk _ _ (bz _ _) hc.2⟩
  ·exact hc.elim
 ·unfold bg at hc ⊢;dsimp only at hc ⊢;split at hc
  ·rename_i x hx;obtain ⟨h1,h2⟩:=hpre x hc.1;exact ⟨h1,by rw [<- h2]; exact hc.2⟩
  ·exact hc.elim
theorem Rl (b:Lt.Block) (h:b.End.To=[]):Lt.Gd [b]:=by
 have i0:∀ i,i<[b].length->i=0:=fun i hi=>by simpa using hi
 refine ⟨Nat.zero_lt_one,fun i j hi hj _=>by rw [i0 i hi,i0 j hj],fun i hi=>?_,fun i hi s hs=>?_,fun k hk=>?_⟩
 ·rw [i0 i hi];show b.End.To.Nodup
  rw [h]; exact List.nodup_nil
 ·rw [i0 i hi] at hs;have hs:s∈b.End.To:=hs
  rw [h] at hs; cases hs
 ·rw [i0 k hk]; exact .first Nat.zero_lt_one
theorem Qz {f:Lt.Func} {b:Lt.Block} {v:List UInt8} (hf:f.Blocks=[b]) (h:b.End.To=[]) {k:Nat} (hb:Lt.Bare f v k):v ∉ f.Params.map (·.Name):=by
 cases hb with
 | first h=>exact h
 | next i k _ _ _ hi _ hm=>
  rw [hf] at hi hm;obtain rfl:i=0:=by simpa using hi
  have hm:Lt.nmB [b] k∈b.End.To:=hm
  rw [h] at hm; cases hm
theorem Sv:cd vj:=by
 unfold cd jQ jR pH eJ;decide
theorem Sw:cd qt:=by
 unfold cd jQ jR pH eJ;decide
theorem Sy:cd r7:=by
 unfold cd jQ jR pH eJ;decide
theorem Yp:bU vj=0:=by
 rw [Q4,C9];refine ⟨by kernel_rfl,by kernel_rfl,by kernel_rfl,by kernel_rfl,fun f hf=>?_⟩;obtain rfl:=Y3.1 hf;refine ⟨tK (Rl _ rfl),by kernel_rfl,tK fun k hk=>?_⟩;obtain rfl:k=0:=by
  have hk:k < 1:=hk
  omega
 exact ⟨fun j hj=>absurd hj (Nat.not_lt_zero j),fun _ _=>.inl fun hb=>Qz (b:=(XS.Blocks.getD 0 default)) rfl rfl hb (Y3.2 rfl)⟩
theorem Yq:bU qt=4:=by
 have h1:dk qt=true:=by kernel_rfl
 have h2:fK qt=true:=by kernel_rfl
 have h3:gS qt=true:=by kernel_rfl
 have h4:dQ qt=true:=by kernel_rfl
 have h5:eK Rg=true:=tK (Rl _ rfl)
 have h6:kl qt Rg=true:=by kernel_rfl
 have h7:iP Rg=false:=xI fun h=>by
  rcases (h 0 Nat.zero_lt_one).2 (.inr rfl) rfl with h | h
  ·exact h (.first fun hm=>by cases hm)
  ·cases h
 unfold bU;rw [h1,h2,h3,h4];simp only [Bool.true_eq_false,or_self,if_false];show vk qt [Rg]=4
 unfold vk;rw [h5,h6,h7];rfl
theorem Yr:bU r7=5:=by
 have h1:dk r7=true:=by kernel_rfl
 have h2:fK r7=true:=by kernel_rfl
 have h3:gS r7=true:=by kernel_rfl
 have h4:dQ r7=true:=by kernel_rfl
 have h5:eK Uo=false:=xI fun g=>by
  have h:=g.re 1 (by decide)
  generalize hk:(1:Nat)=k at h;cases h with
  | first _=>cases hk
  | next i k _ hi _ hm=>
   have:Lt.toB Uo.Blocks i=[]:=by
    have hi:i < 2:=hi
    rcases Zf i 1 with h' | h'
    ·obtain rfl:i=0:=by omega
     rfl
    ·obtain rfl:i=1:=by omega
     rfl
   rw [this] at hm; cases hm
 unfold bU;rw [h1,h2,h3,h4];simp only [Bool.true_eq_false,or_self,if_false];show vk r7 [Uo]=5
 unfold vk;rw [h5];rfl
abbrev Ii:List (Fl [.s]×Fl [.st .Program,.i .i64,.i .i64]):=[(X7,(vj,0,0)),(X8,(qt,0,0)),(X9,(r7,0,0))]
theorem NL:Cont prog 13 (bg [.s] [.st .Program,.i .i64,.i .i64] (fun x=>∃ y,(x,y)∈Ii) (r6 Ii (vj,0,0))):=
 DR (n:=80) eU eS lParse 4 f13 (ps:=[.s]) (rs:=[.st .Program,.i .i64,.i .i64]) Ii func13 (by kernel_rfl) (by kernel_rfl) (by kernel_rfl) (by kernel_rfl) (by kernel_rfl) (by kernel_rfl) (by kernel_rfl) (by kernel_rfl) (by kernel_rfl) (by kernel_rfl) (by kernel_rfl) (by kernel_rfl) (vj,0,0) (fun x hx=>by
  rcases Y2.1 hx with rfl | hx
  ·exact ta0
  rcases Y2.1 hx with rfl | hx
  ·exact ta1
  obtain rfl:=Y3.1 hx;exact ta2)
theorem Tb {x:Fl [.s]} (h:decide (x∈Ii.map (·.1))=true):∃ y,(x,y)∈Ii:=by
 obtain ⟨z,hz,rfl⟩:=Zo.1 (of_decide_eq_true h);exact ⟨z.2,hz⟩
noncomputable def x13:Cl 13:=⟨fnB [.s] [.st .Program,.i .i64,.i .i64] (fun x=>decide (x∈Ii.map (·.1))) (r6 Ii (vj,0,0)),_,xz (pre:=fun x=>∃ y,(x,y)∈Ii) (fun x h=>Tb h),NL⟩
abbrev Tc:List (Fl [.st .Program]×Fl [.i .i64]):=[(vj,(0:Int)),(qt,(4:Int)),(r7,(5:Int))]
theorem XJ:Cont prog 9 (bg [.st .Program] [.i .i64] (fun x=>cd x) (fun x=>bU x)):=xh
theorem T7:Cont prog 9 (bg [.st .Program] [.i .i64] (fun x=>x=vj\/x=qt\/x=r7) (r6 Tc (0:Int))):=
 MT (fun x hx=>by
  rcases hx with rfl | rfl | rfl
  ·exact ⟨Sv,(show r6 Tc (0:Int) vj=0 by kernel_rfl).trans Yp.symm⟩
  ·exact ⟨Sw,(show r6 Tc (0:Int) qt=4 by kernel_rfl).trans Yq.symm⟩
  ·exact ⟨Sy,(show r6 Tc (0:Int) r7=5 by kernel_rfl).trans Yr.symm⟩) XJ
noncomputable def x9:Cl 9:=⟨fnB [.st .Program] [.i .i64] (fun x=>decide (x=vj\/x=qt\/x=r7)) (r6 Tc (0:Int)),_,xz (pre:=fun x=>x=vj\/x=qt\/x=r7) (fun x h=>of_decide_eq_true h),T7⟩
noncomputable abbrev lAw:ClS:=[⟨_,x13⟩,⟨_,x9⟩]
theorem Ys:EB 80 (clE eU eP lAw) f7 [] [.bo] () (fun z=>decide (z=true))=true:=by kernel_rfl
theorem T0:Cont prog 7 (ay [] [.bo] (fun _=>true)):=PD eU eP lAw 80 f7 [.bo] true func7 (by kernel_rfl) Ys
set_option maxRecDepth 100000
def zN:CKt:=ay [] [.bo] (fun x=>BY )
theorem NF:Cont prog 7 zN:=T0
def q9:An:=.s .l (.s (.j ⟨[1],[.loc 1],[],[.sl 26 .bo]⟩ .l (.c (.s .l .l) .l)) (.s .l (.s (.s .l (.b (.lp ⟨[1,3],[.loc 1],[],[.sl 4 (.i .i64)]⟩ (.s (.s .l (.c .l .l)) (.s (.b (.s .l (.b (.lp ⟨[1,3,4],[.loc 1],[],[.sl 5 (.i .i64)]⟩ (.s (.s .l (.c .l .l)) (.s (.b (.s .l (.b (.lp ⟨[1,3,4,5],[.loc 1],[],[.sl 6 (.i .i64)]⟩ (.s (.s .l (.c .l .l)) (.s (.b (.s .l (.j ⟨[1,3,4,5,6],[.loc 1],[],[.sl 89 .bo]⟩ .l (.c (.s .l .l) .l)))) .l)))))) .l)))))) .l))))) (.s .l (.s .l (.s .l .l))))))
noncomputable abbrev e_CheckLess:En:=⟨prog,eU,[(7,zN),(8,VE),(9,vV)],[],noP⟩
theorem yN (a0_p:Lt.Program) (KK:Bool->Prop):ng a0_p KK=ao e_CheckLess f5 q9 [.st .Program] [.bo] a0_p KK:=by kernel_rfl
theorem B8:En.ok e_CheckLess:=(En.okc NF (En.okc XF (En.okc xh En.ok0)))
end Go.Am
end

section
namespace Go.Am
open Go
def Bd (d:Nat):Int:=562949953421312+6001*((min d 10:Nat):Int)
theorem L3 (d:Nat):562949953421312<=Bd d/\Bd d<=562949953621322:=by unfold Bd; omega
def Pc (d:Nat) (b:Int) (w:Nat) (r:Int):Prop:=(6000<r/\r<=Bd d)\/(r=b+(w:Int)/\r<=6000)
def short (s:List UInt8):Prop:=s.length<=140737488355328
theorem km {α:Type} {d:Nat} (go:List α->Int->Int) (s:Int->α->Int) (w:α->Nat) (h0:∀ b,go [] b=b) (h1:∀ x r b,go (x::r) b=if b<=6000 then go r (s b x) else b) (ok:α->Prop)
  (hs:∀ b x,ok x->0<=b->b<=6000->Pc d b (w x) (s b x)):∀ (l:List α) (b:Int),(∀ x∈l,ok x)->0<=b->b<=Bd d->Pc d b (l.map w).sum (go l b)
 | [],b,_,h2,h3=>by
  rw [h0]; unfold Pc;simp only [List.map_nil,List.sum_nil];omega
 | x::r,b,hok,h2,h3=>by
  rw [h1];by_cases hb:b<=6000
  ·rw [if_pos hb];have hx:=hs b x (hok x (by simp)) h2 hb
   have hB:=L3 d
   have h4:0<=s b x/\s b x<=Bd d:=by unfold Pc at hx; omega
   have ih:=km go s w h0 h1 ok hs r (s b x) (fun y hy=>hok y (by simp [hy])) h4.1 h4.2
   unfold Pc at hx ih ⊢;simp only [List.map_cons,aaP];omega
  ·rw [if_neg hb];unfold Pc;omega
theorem gD {n:Int} {k:Nat} (h1:0<=n) (h2:n<=1152921504606846976) (h3:k<=1152921504606846976):Lt.plus n k=n+(k:Int):=by
 unfold Lt.plus;exact cJ (by omega) (by omega)
theorem kQ {n:Int} (h1:0<=n) (h2:n<=4611686018427387904):i64.wrap n=n:=cJ (by omega) (by omega)
def Xk (v:Lt.Var):Nat:=v.Name.length+v.Type_.length
def uT (l:List Lt.Var):Nat:=l.length+(l.map Xk).sum
def Vr (a:Lt.Arg):Nat:=a.S.length
def yL (l:List Lt.Arg):Nat:=l.length+(l.map Vr).sum
def GZ (b:Lt.Bind):Nat:=1+b.Name.length+b.A.S.length
def yM (f:Lt.Frame):Nat:=f.Func.length+f.Block.length+(f.Vars.map GZ).sum
def S0 (o:Lt.Virt):Nat:=o.Class.length+yL o.Vals
def lg (x:Lt.Instr):Nat:=1+x.Dst.length+x.Frames.length+x.Objs.length+x.Name.length+yL x.Args+(x.Frames.map yM).sum+(x.Objs.map S0).sum
def wIn (b:Lt.In):Nat:=1+b.Block.length+b.A.S.length
def S1 (x:Lt.Phi):Nat:=1+x.Dst.length+(x.Ins.map wIn).sum
def wTo (t:List UInt8):Nat:=1+t.length
def jX (b:Lt.Block):Nat:=1+b.Name.length+b.End.A.S.length+(b.End.To.map wTo).sum+(b.Phis.map S1).sum+(b.Code.map lg).sum
def pL (f:Lt.Func):Nat:=1+f.Name.length+f.Result.length+uT f.Params+uT f.Vars+(f.Blocks.map jX).sum
def KW (c:Lt.Class):Nat:=c.Name.length+uT c.Fields
def Df (x:Lt.Extern):Nat:=1+x.Name.length
def ML (p:Lt.Program):Nat:=uT p.Globals+(p.Classes.map KW).sum+(p.Externs.map Df).sum+(p.Funcs.map pL).sum
def GH (v:Lt.Var):Prop:=short v.Name/\short v.Type_
def yw (a:Lt.Arg):Prop:=short a.S
def SL (b:Lt.Bind):Prop:=short b.Name/\yw b.A
def KI (f:Lt.Frame):Prop:=short f.Func/\short f.Block/\∀ b∈f.Vars,SL b
def W9 (o:Lt.Virt):Prop:=short o.Class/\∀ a∈o.Vals,yw a
def yy (x:Lt.Instr):Prop:=short x.Dst/\short x.Name/\(∀ a∈x.Args,yw a)/\(∀ f∈x.Frames,KI f)/\∀ o∈x.Objs,W9 o
def sIn (b:Lt.In):Prop:=short b.Block/\yw b.A
def Vb (x:Lt.Phi):Prop:=short x.Dst/\∀ i∈x.Ins,sIn i
def yx (b:Lt.Block):Prop:=short b.Name/\yw b.End.A/\(∀ t∈b.End.To,short t)/\(∀ x∈b.Phis,Vb x)/\∀ i∈b.Code,yy i
def MF (f:Lt.Func):Prop:=short f.Name/\short f.Result/\(∀ v∈f.Params,GH v)/\(∀ v∈f.Vars,GH v)/\∀ b∈f.Blocks,yx b
def KH (c:Lt.Class):Prop:=short c.Name/\∀ v∈c.Fields,GH v
def V4 (p:Lt.Program):Prop:=(∀ c∈p.Classes,KH c)/\(∀ v∈p.Globals,GH v)/\(∀ e∈p.Externs,short e.Name)/\∀ f∈p.Funcs,MF f
theorem ou {d:Nat} {b0:Int} {w0:Nat} {n:Int} {k:Nat} {r:Int} (hd:d < 9) (h0:0<=b0) (h:Pc (d+1) b0 w0 n) (hk:Pc d 0 k r):Pc (d+1) b0 (w0+k) (Lt.upto 6000 n r):=by
 unfold Lt.upto;unfold Pc Bd at h hk ⊢;split
 ·rw [kQ (by omega) (by omega)]; omega
 ·omega
theorem CC {d:Nat} {b0:Int} {w0:Nat} {n:Int} {k:Nat} (h0:0<=b0) (h:Pc d b0 w0 n) (hk:k<=140737488355328):Pc d b0 (w0+k) (if n<=6000 then Lt.plus n k else n):=by
 unfold Pc Bd at h ⊢;split
 ·rw [gD (by omega) (by omega) (by omega)]; omega
 ·omega
theorem RF {d:Nat} {k:Nat} (hk:k<=140737488355328):Pc d 0 k (k:Int):=by unfold Pc Bd; omega
theorem TX {d:Nat} (l:List Lt.Var) (b:Int) (h:∀ v∈l,GH v) (h0:0<=b) (h1:b<=Bd d):Pc d b (l.map Xk).sum (xg 6000 l b):=by
 refine km (xg 6000) (fun n v=>if Lt.plus n v.Name.length<=6000 then Lt.plus (Lt.plus n v.Name.length) v.Type_.length else Lt.plus n v.Name.length) Xk (fun _=>rfl) (fun _ _ _=>rfl) GH (fun b x hx h0 h1=>?_) l b h h0 h1;have hn:Pc d b x.Name.length (Lt.plus b x.Name.length):=by
  have:=hx.1; unfold short at this
  unfold Pc Bd; rw [gD h0 (by omega) (by omega)]; omega
 exact CC h0 hn hx.2
theorem kn {d:Nat} (l:List Lt.Var) (h:∀ v∈l,GH v):Pc d 0 (uT l) (bM l 6000):=by
 unfold bM uT;split
 ·rw [kQ (by omega) (by omega)]; unfold Pc Bd; omega
 ·have:=TX (d:=d) l (l.length:Int) h (by omega) (by have:=L3 d; omega)
  unfold Pc at this ⊢; omega
theorem TT {d:Nat} (l:List Lt.Arg) (b:Int) (h:∀ v∈l,yw v) (h0:0<=b) (h1:b<=Bd d):Pc d b (l.map Vr).sum (xf 6000 l b):=by
 refine km (xf 6000) (fun n v=>Lt.plus n v.S.length) Vr (fun _=>rfl) (fun _ _ _=>rfl) yw (fun b x hx h0 h1=>?_) l b h h0 h1;unfold yw short at hx;unfold Pc Bd Vr; rw [gD h0 (by omega) (by omega)]; omega
theorem uF {d:Nat} (l:List Lt.Arg) (h:∀ v∈l,yw v):Pc d 0 (yL l) (dj l 6000):=by
 unfold dj yL;split
 ·rw [kQ (by omega) (by omega)]; unfold Pc Bd; omega
 ·have:=TT (d:=d) l (l.length:Int) h (by omega) (by have:=L3 d; omega)
  unfold Pc at this ⊢; omega
theorem Gn {d:Nat} {b:Int} {k:Nat} (h0:0<=b) (h1:b<=6000) (hk:k<=140737488355328):Pc d b (1+k) (Lt.plus (i64.wrap (b+1)) k):=by
 rw [kQ (by omega) (by omega),gD (by omega) (by omega) (by omega)]; unfold Pc Bd; omega
theorem QG {d:Nat} (l:List Lt.Bind) (b:Int) (h:∀ v∈l,SL v) (h0:0<=b) (h1:b<=Bd d):Pc d b (l.map GZ).sum (nI 6000 l b):=by
 refine km (nI 6000) (fun n b=>if Lt.plus (i64.wrap (n+1)) b.Name.length<=6000 then Lt.plus (Lt.plus (i64.wrap (n+1)) b.Name.length) b.A.S.length else Lt.plus (i64.wrap (n+1)) b.Name.length) GZ (fun _=>rfl) (fun _ _ _=>rfl) SL (fun b x hx h0 h1=>?_) l b h h0 h1;exact CC h0 (Gn h0 h1 hx.1) hx.2
theorem Wx {d:Nat} (l:List Lt.In) (b:Int) (h:∀ v∈l,sIn v) (h0:0<=b) (h1:b<=Bd d):Pc d b (l.map wIn).sum (EE 6000 l b):=by
 refine km (EE 6000) (fun n b=>if Lt.plus (i64.wrap (n+1)) b.Block.length<=6000 then Lt.plus (Lt.plus (i64.wrap (n+1)) b.Block.length) b.A.S.length else Lt.plus (i64.wrap (n+1)) b.Block.length) wIn (fun _=>rfl) (fun _ _ _=>rfl) sIn (fun b x hx h0 h1=>?_) l b h h0 h1;exact CC h0 (Gn h0 h1 hx.1) hx.2
theorem fE {d:Nat} {b:Int} {w w':Nat} {n r:Int} (h0:0<=b) (h:Pc d b w n) (h':0<=n->n<=Bd d->Pc d n w' r):Pc d b (w+w') r:=by
 have hB:=L3 d
 have h2:=h' (by unfold Pc at h; omega) (by unfold Pc at h; omega)
 unfold Pc at h h2 ⊢; omega
theorem Kr {d:Nat} {b:Int} {k:Nat} (h0:0<=b) (h1:b<=6000) (hk:k<=140737488355328):Pc d b k (Lt.plus b k):=by
 rw [gD (by omega) (by omega) (by omega)]; unfold Pc Bd; omega
theorem Nz {d:Nat} (l:List Lt.Frame) (b:Int) (h:∀ v∈l,KI v) (h0:0<=b) (h1:b<=Bd d):Pc d b (l.map yM).sum (kg 6000 l b):=by
 refine km (kg 6000) (fun n f=>nI 6000 f.Vars (if Lt.plus n f.Func.length<=6000 then Lt.plus (Lt.plus n f.Func.length) f.Block.length else Lt.plus n f.Func.length)) yM (fun _=>rfl) (fun _ _ _=>rfl) KI (fun b x hx h0 h1=>?_) l b h h0 h1;exact fE h0 (CC h0 (Kr h0 h1 hx.1) hx.2.1) (QG x.Vars _ hx.2.2)
theorem TV {d:Nat} (hd:d < 9) (l:List Lt.Virt) (b:Int) (h:∀ v∈l,W9 v) (h0:0<=b) (h1:b<=Bd (d+1)):Pc (d+1) b (l.map S0).sum (rD 6000 l b):=by
 refine km (rD 6000) (fun n o=>if Lt.plus n o.Class.length<=6000 then i64.wrap (Lt.plus n o.Class.length+dj o.Vals 6000) else Lt.plus n o.Class.length) S0 (fun _=>rfl) (fun _ _ _=>rfl) W9 (fun b x hx h0 h1=>?_) l b h h0 h1;exact ou hd h0 (Kr h0 h1 hx.1) (uF _ hx.2)
theorem XE {d:Nat} (l:List (List UInt8)) (b:Int) (h:∀ v∈l,short v) (h0:0<=b) (h1:b<=Bd d):Pc d b (l.map wTo).sum (Lt.cTo 6000 l b):=by
 refine km (Lt.cTo 6000) (fun n t=>Lt.plus (i64.wrap (n+1)) t.length) wTo (fun _=>rfl) (fun _ _ _=>rfl) short (fun b x hx h0 h1=>?_) l b h h0 h1;exact Gn h0 h1 hx
theorem TW {d:Nat} (l:List Lt.Phi) (b:Int) (h:∀ v∈l,Vb v) (h0:0<=b) (h1:b<=Bd d):Pc d b (l.map S1).sum (rE 6000 l b):=by
 refine km (rE 6000) (fun n x=>EE 6000 x.Ins (Lt.plus (i64.wrap (n+1)) x.Dst.length)) S1 (fun _=>rfl) (fun _ _ _=>rfl) Vb (fun b x hx h0 h1=>?_) l b h h0 h1;exact fE h0 (Gn h0 h1 hx.1) (Wx x.Ins _ hx.2)
theorem Qk {d:Nat} {b:Int} {w k:Nat} {n r:Int} (hd:d < 9) (h0:0<=b) (hn:n=b+(w:Int)) (h1:n<=6000) (hk:Pc d 0 k r):Pc (d+1) b (w+k) (i64.wrap (n+r)):=by
 unfold Pc Bd at hk ⊢;rw [kQ (by omega) (by omega)]; omega
theorem B6 (x:Lt.Instr) (h:yy x):Pc 1 0 (lg x) (dD x 6000):=by
 obtain ⟨h1,h2,h3,h4,h5⟩:=h;unfold short at h1 h2;unfold dD;split
 ·rename_i hc;rw [kQ (by omega) (by omega)]; unfold Pc Bd; omega
 ·rename_i hc;simp only [Z6,decide_eq_true_eq,not_or] at hc;have e:Lt.plus (Lt.plus (Lt.plus 1 x.Dst.length) x.Frames.length) x.Objs.length=1+(x.Dst.length:Int)+x.Frames.length+x.Objs.length:=by
   have e1:=gD (n:=1) (k:=x.Dst.length) (by omega) (by omega) (by omega)
   have e2:=gD (n:=1+(x.Dst.length:Int)) (k:=x.Frames.length) (by omega) (by omega) (by omega)
   have e3:=gD (n:=1+(x.Dst.length:Int)+x.Frames.length) (k:=x.Objs.length) (by omega) (by omega) (by omega)
   rw [e1,e2,e3]
  have p1:Pc 1 0 (1+x.Dst.length+x.Frames.length+x.Objs.length) (Lt.plus (Lt.plus (Lt.plus 1 x.Dst.length) x.Frames.length) x.Objs.length):=by
   rw [e]; unfold Pc Bd; omega
  have p2:=ou (by omega) (by omega) p1 (RF h2)
  have p3:=ou (by omega) (by omega) p2 (uF x.Args h3)
  have p4:=fE (by omega) p3 (Nz x.Frames _ h4)
  exact fE (by omega) p4 (TV (by omega) x.Objs _ h5)
theorem TU (l:List Lt.Instr) (b:Int) (h:∀ v∈l,yy v) (h0:0<=b) (h1:b<=Bd 2):Pc 2 b (l.map lg).sum (pv 6000 l b):=by
 refine km (pv 6000) (fun n x=>i64.wrap (n+dD x 6000)) lg (fun _=>rfl) (fun _ _ _=>rfl) yy (fun b x hx h0 h1=>?_) l b h h0 h1;have:=Qk (b:=b) (w:=0) (n:=b) (by omega) h0 (by omega) h1 (B6 x hx)
 rwa [ZI] at this
theorem B5 (x:Lt.Block) (h:yx x):Pc 2 0 (jX x) (dC x 6000):=by
 obtain ⟨h1,h2,h3,h4,h5⟩:=h;unfold yw at h2;unfold short at h1 h2;unfold dC;split
 ·rw [kQ (by omega) (by omega)]; unfold Pc Bd; omega
 ·have p1:Pc 2 0 (1+x.Name.length) (Lt.plus 1 x.Name.length):=by
   rw [gD (by omega) (by omega) (by omega)]; unfold Pc Bd; omega
  have p2:=ou (by omega) (by omega) p1 (RF h2)
  have p3:=fE (by omega) p2 (XE x.End.To _ h3)
  have p4:=fE (by omega) p3 (TW x.Phis _ h4)
  exact fE (by omega) p4 (TU x.Code _ h5)
theorem Ny (l:List Lt.Block) (b:Int) (h:∀ v∈l,yx v) (h0:0<=b) (h1:b<=Bd 3):Pc 3 b (l.map jX).sum (mu 6000 l b):=by
 refine km (mu 6000) (fun n x=>i64.wrap (n+dC x 6000)) jX (fun _=>rfl) (fun _ _ _=>rfl) yx (fun b x hx h0 h1=>?_) l b h h0 h1;have:=Qk (b:=b) (w:=0) (n:=b) (by omega) h0 (by omega) h1 (B5 x hx)
 rwa [ZI] at this
theorem MX (f:Lt.Func) (h:MF f):Pc 3 0 (pL f) (ka f 6000):=by
 obtain ⟨h1,h2,h3,h4,h5⟩:=h;unfold short at h1 h2;unfold ka;split
 ·rw [kQ (by omega) (by omega)]; unfold Pc Bd; omega
 ·have p1:Pc 3 0 (1+f.Name.length) (Lt.plus 1 f.Name.length):=by
   rw [gD (by omega) (by omega) (by omega)]; unfold Pc Bd; omega
  have p2:=ou (by omega) (by omega) p1 (RF h2)
  have p3:=ou (by omega) (by omega) p2 (kn f.Params h3)
  have p4:=ou (by omega) (by omega) p3 (kn f.Vars h4)
  exact fE (by omega) p4 (Ny f.Blocks _ h5)
theorem QH (l:List Lt.Func) (b:Int) (h:∀ v∈l,MF v) (h0:0<=b) (h1:b<=Bd 4):Pc 4 b (l.map pL).sum (mw 6000 l b):=by
 refine km (mw 6000) (fun n x=>i64.wrap (n+ka x 6000)) pL (fun _=>rfl) (fun _ _ _=>rfl) MF (fun b x hx h0 h1=>?_) l b h h0 h1;have:=Qk (b:=b) (w:=0) (n:=b) (by omega) h0 (by omega) h1 (MX x hx)
 rwa [ZI] at this
theorem Jf {d:Nat} (hd:d < 9) (l:List Lt.Class) (b:Int) (h:∀ v∈l,KH v) (h0:0<=b) (h1:b<=Bd (d+1)):Pc (d+1) b (l.map KW).sum (jA 6000 l b):=by
 refine km (jA 6000) (fun n c=>if Lt.plus n c.Name.length<=6000 then i64.wrap (Lt.plus n c.Name.length+bM c.Fields 6000) else Lt.plus n c.Name.length) KW (fun _=>rfl) (fun _ _ _=>rfl) KH (fun b x hx h0 h1=>?_) l b h h0 h1;exact ou hd h0 (Kr h0 h1 hx.1) (kn _ hx.2)
theorem Jg {d:Nat} (l:List Lt.Extern) (b:Int) (h:∀ v∈l,short v.Name) (h0:0<=b) (h1:b<=Bd d):Pc d b (l.map Df).sum (gQ 6000 l b):=by
 refine km (gQ 6000) (fun n t=>Lt.plus (i64.wrap (n+1)) t.Name.length) Df (fun _=>rfl) (fun _ _ _=>rfl) (fun v=>short v.Name) (fun b x hx h0 h1=>?_) l b h h0 h1;exact Gn h0 h1 hx
theorem Xo {p:Lt.Program} (h:V4 p) (hf:Lt.Few p 6000=true):ML p<=6000/\p.Classes.length<=50:=by
 obtain ⟨h1,h2,h3,h4⟩:=h;unfold Lt.Few at hf;split at hf
 ·cases hf
 ·rename_i hc;simp only [Z6,decide_eq_true_eq,not_or] at hc;have p1:=kn (d:=4) p.Globals h2
  have p2:=fE (by omega) p1 (Jf (d:=3) (by omega) p.Classes _ h1)
  have p3:=fE (by omega) p2 (Jg p.Externs _ h3)
  have p4:=fE (by omega) p3 (QH p.Funcs _ h4)
  simp only [decide_eq_true_eq] at hf;unfold Pc Bd at p4;unfold ML;omega
theorem vH {α:Type} (w:α->Nat):∀ (l:List α) (x:α),x∈l->w x<=(l.map w).sum
 | y::l,x,h=>by
  rw [List.map_cons,aaP];rcases Y2.1 h with rfl | h
  ·omega
  ·have:=vH w l x h; omega
theorem mP {α:Type} (w:α->Nat) (h:∀ x,1<=w x):∀ l:List α,l.length<=(l.map w).sum
 | []=>ZE _
 | y::l=>by
  have:=mP w h l
  have:=h y
  rw [List.map_cons,aaP,Y5]; omega
theorem KR {α:Type} (g w:α->Nat) (h:∀ x,g x<=w x):∀ l:List α,(l.map g).sum<=(l.map w).sum
 | []=>YY _
 | y::l=>by
  have:=KR g w h l
  have:=h y
  simp only [List.map_cons,aaP]; omega
theorem Xb {p:Lt.Program} (h:ML p<=6000):cd p/\p.Funcs.length<=1000000:=by
 unfold ML at h;have hfl:=mP pL (fun f=>by unfold pL; omega) p.Funcs
 have hf:∀ f∈p.Funcs,pL f<=6000:=fun f hf=>by
  have:=vH pL p.Funcs f hf; omega
 refine ⟨⟨fun f hm=>?_,fun f hm=>?_⟩,by omega⟩
 ·have:=hf f hm
  unfold pL uT at this;omega
 ·have h1:=hf f hm
  unfold pL uT at h1;have hbl:=mP jX (fun b=>by unfold jX; omega) f.Blocks
  have hb:∀ b∈f.Blocks,jX b<=6000:=fun b hb=>by
   have:=vH jX f.Blocks b hb; omega
  have hi:∀ b∈f.Blocks,∀ x∈b.Code,lg x<=6000:=fun b hbm x hx=>by
   have:=vH lg b.Code x hx
   have h2:=hb b hbm
   unfold jX at h2;omega
  refine ⟨fun b hbm x hx=>?_,⟨by omega,fun b hbm=>?_⟩,by omega,fun b hbm=>?_,fun b hbm x hx=>?_⟩
  ·have h2:=hi b hbm x hx
   unfold lg yL at h2;omega
  ·have h2:=hb b hbm
   unfold jX at h2;have:=mP wTo (fun t=>by unfold wTo; omega) b.End.To
   omega
  ·have h2:=hb b hbm
   unfold jX at h2;have:=mP S1 (fun t=>by unfold S1; omega) b.Phis
   have:=mP lg (fun t=>by unfold lg; omega) b.Code
   omega
  ·have h2:=hi b hbm x hx
   unfold lg yL at h2;have h3:=KR (fun f:Lt.Frame=>f.Vars.length) yM (fun f=>by
    have:=mP GZ (fun t=>by unfold GZ; omega) f.Vars
    unfold yM; omega) x.Frames
   have h4:=KR (fun o:Lt.Virt=>o.Vals.length) S0 (fun o=>by unfold S0 yL; omega) x.Objs
   unfold eJ SZ;omega
end Go.Am
end
