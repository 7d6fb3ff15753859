/-
  Part 20: AmRd · AmCl14 · AmKC · AmCl14b · AmG24 · AmPkL · AmKK · AmFew6a · AmFew6 · AmFew7.
-/
import Derived.Test.YthhkhcolidkemaaGreatDoorCk19
import Derived.MapFrom
set_option linter.unusedSimpArgs false
set_option linter.unusedVariables false
set_option linter.unusedSectionVars false
set_option linter.unnecessarySimpa false
open Lt
open Go.Proofs.Tryz
open Go.IntKind (i64)
section
namespace Go.Am
open Go Go.RowKit Go.Proofs Go.MapKept
def qq(w:List UInt8)(df:Nat):List (List UInt8×Nat)->Nat
 |[]=>df
 |(w0,f)::r=>if decide (w=w0)=true then f else qq w df r
theorem zV(w:List UInt8)(K:Nat->Prop)(df:Nat):∀tab,swP w K df tab=K (qq w df tab)
 |[]=>rfl
 |(w0,f)::r=>by
  rw[swP,qq,zV w K df r];split<;>rfl
section
variable {P:Program}
theorem VC{o:Oper}{a:Act}{next:Act->World->Prop}{Q:Exit->Act->World->Prop}{mt kt et:TypeId}{r:Nat}{es:Array MapEntry}{clock:Nat}{k:ByteArray}{v:Value}{w:World}
  (hm:P.underlying mt=some (.map kt et)) (hd:P.underlying kt=some .string) (hb:w.heap[r]? = some (.map es clock)) (hf:Instr.findNow .string (.string k) es.toList 0=some none)
  (h:∀w2,w2.heap[r]? = some (.map (es.push { key:=.string k,val:=v,born:=clock }) (clock+1))->Below r w w2->next (a.put o.dst undef) w2) :
  o.upon P a next Q (((Instr.mapUpdate mt (.map (some r)) (.string k) v).run P w).andThen fun _ w'=>.ok Next.skip w'):=by
 have hrun:(Instr.mapUpdate mt (.map (some r)) (.string k) v).run P w=.ok () { w with heap:=w.heap.setIfInBounds r (.map (es.push { key:=.string k,val:=v,born:=clock }) (clock+1)) }:=by
  simp[Instr.mapUpdate,run_underlying hm,MapKept.run_getObj_map hb,run_checkKey hd (k:=.string k) trivial,run_findKey hd hf,run_setObj_map _ hb,Result.andThen]
 rw[hrun];exact h _ (heap_set hb).1 ⟨rfl,rfl,rfl,by simp,fun j hj=>(heap_set hb).2 j kQ1⟩
theorem GZ(s:ByteArray):∀(es:List MapEntry)(tab:List (List UInt8×Nat))(i:Nat),es.map (fun e=>(e.key,e.val))=tab.map (fun x=>(Value.string ⟨x.1.toArray⟩,Value.func (.func x.2) #[] #[])) ->
  (∃x∈tab,(∃j,Instr.findNow .string (.string s) es i=some (some (j,.func (.func x.2) #[] #[])))/\∀df,qq s.data.toList df tab=x.2)\/(Instr.findNow .string (.string s) es i=some none/\∀df,qq s.data.toList df tab=df)
 |[],[],i,_=>.inr ⟨rfl,fun _=>rfl⟩
 |[],_::_,i,h=>by simp at h
 |_::_,[],i,h=>by simp at h
 |e::es,(k,f)::tab,i,h=>by
  obtain⟨ek,ev,eb⟩:=e;simp only[List.map_cons,List.cons.injEq,Prod.mk.injEq]at h;obtain⟨⟨rfl,rfl⟩,h⟩:=h;unfold Instr.findNow;simp only[Instr.sameNow];by_cases hc:s=⟨k.toArray⟩
  ·have e1:(s==⟨k.toArray⟩)=true:=(bytes_beq _ _).2 hc
   rw[e1];refine .inl ⟨(k,f),by simp,⟨i,rfl⟩,fun df=>?_⟩;have:s.data.toList=k:=by rw[hc]
   rw[qq,if_pos (by simp[this])]
  ·have e1:(s==⟨k.toArray⟩)=false:=by
    rw[Bool.eq_false_iff];exact fun e=>hc ((bytes_beq _ _).1 e)
   rw[e1];have n1:¬ s.data.toList=k:=by
    rintro rfl
    exact hc (by obtain⟨x⟩:=s;simp)
   rcases GZ s es tab (i+1) h with⟨x,hx,hj,hp⟩|⟨h1,h2⟩
   ·exact .inl ⟨x,by simp[hx],hj,fun df=>by rw[qq,if_neg (by simpa using n1)];exact hp df⟩
   ·exact .inr ⟨h1,fun df=>by rw[qq,if_neg (by simpa using n1)];exact h2 df⟩
theorem Jl{mt kt et:TypeId}{r:Nat}{es:Array MapEntry}{clock:Nat}{s:ByteArray}{w:World}(hm:P.underlying mt=some (.map kt et))(hd:P.underlying kt=some .string)(hz:(zeroValue et).run P w=.ok .nilFunc w)
  (hb:w.heap[r]? = some (.map es clock)) {x:Option (Nat×Value)} (hf:Instr.findNow .string (.string s) es.toList 0=some x) :
  (Instr.lookup mt (.map (some r)) (.string s) false).run P w=.ok (match x with|some (_,v)=>v|none=>.nilFunc) w:=by
 cases x with
 |none=>simp[Instr.lookup,run_underlying hm,MapKept.run_getObj_map hb,run_checkKey hd (k:=.string s) trivial,run_findKey hd hf,hz,Result.andThen]
 |some y=>obtain⟨j,v⟩:=y;simp[Instr.lookup,run_underlying hm,MapKept.run_getObj_map hb,run_checkKey hd (k:=.string s) trivial,run_findKey hd hf,Result.andThen]
end
theorem WY{P:Program}{t:TypeId}{ps rs:Array TypeId}{va:Bool}{f:Fn}{a b:Array Value}(h:P.underlying t=some (.func ps rs va))(w:World):(Op.equal t (.func f a b) .nilFunc).run P w=.ok false w:=by
 unfold Op.equal Op.maxDepth;rw[show(10000:Nat)=9999+1 from rfl];unfold Op.equalIn;simp only[Sem.run_bind,run_underlying h,Result.andThen];rfl
theorem Lq{P:Program}{t:TypeId}{ps rs:Array TypeId}{va:Bool}(h:P.underlying t=some (.func ps rs va))(w:World):(Op.equal t .nilFunc .nilFunc).run P w=.ok true w:=by
 unfold Op.equal Op.maxDepth;rw[show(10000:Nat)=9999+1 from rfl];unfold Op.equalIn;simp only[Sem.run_bind,run_underlying h,Result.andThen];rfl
theorem UO{P:Program}{t:TypeId}{ps rs:Array TypeId}{va:Bool}{f:Fn}{a b:Array Value}(h:P.underlying t=some (.func ps rs va))(w:World):(binOp .neq t (.func f a b) .nilFunc).run P w=.ok (.bool true) w:=by
 show(do pure (.bool (!(<- Op.equal t (.func f a b) .nilFunc))):Sem Value).run P w=_
 simp only[Sem.run_bind,WY h,Result.andThen];rfl
theorem I1{P:Program}{t:TypeId}{ps rs:Array TypeId}{va:Bool}(h:P.underlying t=some (.func ps rs va))(w:World):(binOp .neq t .nilFunc .nilFunc).run P w=.ok (.bool false) w:=by
 show(do pure (.bool (!(<- Op.equal t .nilFunc .nilFunc))):Sem Value).run P w=_
 simp only[Sem.run_bind,Lq h,Result.andThen];rfl
theorem Y0{es0:Array MapEntry}{c0:Nat}{f:Option Obj}(hb:f=some (.map es0 c0)){L:List (Value×Value)}(he:es0.toList.map (fun e=>(e.key,e.val))=L):∃es c,f=some (.map es c)/\es.toList.map (fun e=>(e.key,e.val))=L:=⟨es0,c0,hb,he⟩
def Rb:List (List UInt8×Nat):=[([115,115,97],132),([99,108,97,115,115],133),([102,105,101,108,100],134),([103,108,111,98,97,108],135),([101,120,116,101,114,110],136),([102,117,110,99],137),([112,97,114,97,109],138),([118,97,114],139),([98,108,111,99,107],140),([112,104,105],141),([97,116],142),([111,98,106],143),([106,117,109,112],144),([98,114,97,110,99,104],144),([114,101,116],144),([116,114,97,112],144)]
set_option maxRecDepth 100000 in
theorem Eu(s:ByteArray)(w:World) :
  Calls prog 78 #[.string s] w fun e w'=>e=.returned (.func (.func (qq s.data.toList 79 Rb)) #[] #[])/\Below w.heap.size w w':=by
 have hmm:=@run_makeMap prog
 have hm:=underlying199
 have hd:=underlying9
 have hz:∀w,(zeroValue 132).run prog w=.ok .nilFunc w:=zeroValue132
 have hb:(w.alloc (.map #[] 0)).heap[w.heap.size]? = some (.map #[] 0):=(heap_alloc w _).1
 have hB:Below w.heap.size w (w.alloc (.map #[] 0)):=(Below.refl _ w).alloc (ac1 _) _
 go_enter func78,Tryz.ntmps78
 go_wp2
 iterate 16
  refine VC hm hd hb kQ0 (fun w2 hb2 hB2=>?_)
  replace hB:=hB.trans hB2
  replace hb:=hb2
  clear hB2 hb2
  go_wp2
 obtain⟨es,c,hb,he⟩:=Y0 hb (L:=Rb.map (fun x=>(Value.string ⟨x.1.toArray⟩,Value.func (.func x.2) #[] #[]))) kQ0;rcases GZ s es.toList Rb 0 he with⟨x,hx,⟨j,hj⟩,hp⟩|⟨h1,hp⟩
 ·rw[Jl hm hd (hz _) hb hj];simp only[Result.andThen];rw[Oper.upon_value]
  go_wp2
  rw[UO underlying132];simp only[Result.andThen];rw[Oper.upon_value]
  go_wp2
  go_ret
  exact⟨by rw[hp];rfl,hB⟩
 ·rw[Jl hm hd (hz _) hb h1];simp only[Result.andThen];rw[Oper.upon_value]
  go_wp2
  rw[I1 underlying132];simp only[Result.andThen];rw[Oper.upon_value]
  go_wp2
  go_ret
  exact⟨by rw[hp];rfl,hB⟩
theorem Zr{v:At}{x:List UInt8}(h:bv [.s] [v]=some x):v.noRf=true/\v.toV.isFz=true/\v.toV.map T.canon=.one (.c (.d (.str x))):=by
 obtain⟨h1,h2,h3⟩:=cV h;refine⟨by simpa using h1,by simpa using h2,?_⟩;have:[v.toV.map T.canon]=[AV.one (.c (.d (.str x)))]:=h3
 simpa using this
def qD:CKt:=swT Rb 79
theorem Ll:Cont prog 78 qD:=by
 refine⟨gV (fn:=f78) kQ0 kQ0 kQ0,fun pk s ops k k' hk hc=>?_,fun g pk s a w H γ F1 ops k hX hops hc=>?_⟩
 ·unfold qD swT at hc⊢;dsimp only at hc⊢;split at hc
  ·rw[zV]at hc⊢;exact hk _ _ (bE _ _) hc
  ·exact hc.elim
 ·unfold qD swT at hc;dsimp only at hc;obtain⟨H1,F2,h1⟩:=cj (ops.map (evA s)) s H F1 hX;generalize bt s (ops.map (evA s))=s1 at hc h1;split at hc
  ·rename_i x hx;rw[zV]at hc
   match ops,hx with
   |[],hx=>simp[bv]at hx
   |[o],hx=>
    obtain⟨_,hz,hcn⟩:=Zr hx;have hop:aw o=true:=by simpa using hops
    have hv:=aA h1 hop
    rw[ae hop]at hv;have hv2:=dw bW (kA (w':=w) (γ':=γ) (m':=[]) (fun _ _ _ h=>h) hz hv)
    rw[hcn]at hv2;obtain⟨e1,_⟩:=kB hv2;show Calls _ _ #[a.eval o] w _
    rw[e1];refine(Eu ⟨x.toArray⟩ w).mono ?_;rintro e w' ⟨rfl,hb⟩
    rw[pz];have hsame:∀b,tot F2 s1.toS.m b≠0->w'.heap[b]? = w.heap[b]? := fun b hb'=>hb.block b (h1.mem.lt b hb')
    have hKp:=cg (w':=w') h1.mem hsame
    have hmem:Mem w' H1 γ s1.toS.m F2:=by
     refine⟨fun b o y hy=>?_,fun x hx=>aJ hKp (fun _ _ _ h=>h) rfl (fun b hb'=>hsame b (by have:=aQ (F:=F2) hx b;omega)) (h1.mem.roots x hx),h1.mem.keys,h1.mem.le1,fun b hb'=>by have:=h1.mem.lt b hb';have:=hb.size;omega,h1.mem.nofz⟩;have hlt:b<w.heap.size:=(h1.mem.agree b o y hy).lt
     exact(h1.mem.agree b o y hy).frame (hb.block b hlt)
    have hFr:Fr w H1 (tot F2 s1.toS.m) w' H1 (tot F2 s1.toS.m):=
     ⟨hb.size,hb.os,hb.tape,hb.output,fun b hb' _=>hb.block b hb',fun _ _ _ h=>h,fun b o h2 h3=>absurd h3 h2,fun b hb=>.inl hb,fun b h0=>h0.of_block (hb.block b h0.lt),ji.2⟩
    exact .inl ⟨_,s1,sct (.v (.func (.func (qq x 79 Rb)) #[] #[])),H1,γ,F2,rfl,hc,⟨fun _=>rfl,0,rfl,rfl⟩,eN h1 hmem hFr (fun i=>bT hKp (fun _ _ _ h=>h) (h1.t i)) (fun _=>rfl)⟩
   |_::_::_,hx=>simp[bv]at hx
  ·exact hc.elim
end Go.Am
end

section
namespace Go.Am
open Go Go.Proofs
set_option maxRecDepth 100000
def eU:Ut:=[(58,(.st .Class)),(95,(.st .Var)),(60,(.st .Extern)),(36,(.st .Func)),(49,(.st .Block)),(88,(.st .Phi)),(54,(.st .Instr)),(9,.s),(44,(.st .Arg)),(147,(.st .Frame)),(151,(.st .Virt)),(64,(.st .Asked)),(79,(.st .Line)),(5,.b8),(90,(.st .In)),(4,.bo),(118,(.mp .s .bo)),(3,(.i .i64)),(149,(.st .Bind)),(134,(.sl (.i .i64))),(182,(.st .RLine)),(255,(.st .step))]
def eS:List (TypeId×List Sh):=[(27,[.fr,.ow [.fr,.ow [.fr,.fr]],.ow [.fr,.fr],.ow [.fr,.fr],.ow [.fr,.fr,.ow [.fr,.fr],.ow [.fr,.fr],.ow [.fr,.ow [.fr,.fr],.ow [.fr,.fr,.fr,.fr,.ow [.fr,.fr,.fr,.fr],.ow [.fr,.fr]],.fr,.fr,.fr,.fr,.fr,.fr]]]),(36,[.fr,.fr,.ow [.fr,.fr],.ow [.fr,.fr],.ow [.fr,.ow [.fr,.fr],.ow [.fr,.fr,.fr,.fr,.ow [.fr,.fr,.fr,.fr],.ow [.fr,.fr]],.fr,.fr,.fr,.fr,.fr,.fr]]),(49,[.fr,.ow [.fr,.fr],.ow [.fr,.fr,.fr,.fr,.ow [.fr,.fr,.fr,.fr],.ow [.fr,.fr]],.fr,.fr,.fr,.fr,.fr,.fr]),(54,[.fr,.fr,.fr,.fr,.ow [.fr,.fr,.fr,.fr],.ow [.fr,.fr]]),(58,[.fr,.ow [.fr,.fr]]),(73,[.fr,.ow [.fr,.ow [.fr,.fr]],.ow [.fr,.fr],.ow [.fr,.fr],.ow [.fr,.fr,.ow [.fr,.fr],.ow [.fr,.fr],.ow [.fr,.ow [.fr,.fr],.ow [.fr,.fr,.fr,.fr,.ow [.fr,.fr,.fr,.fr],.ow [.fr,.fr]],.fr,.fr,.fr,.fr,.fr,.fr]],.fr,.fr,.fr,.fr]),(74,[.fr,.ow [.fr,.ow [.fr,.fr]],.ow [.fr,.fr],.ow [.fr,.fr],.ow [.fr,.fr,.ow [.fr,.fr],.ow [.fr,.fr],.ow [.fr,.ow [.fr,.fr],.ow [.fr,.fr,.fr,.fr,.ow [.fr,.fr,.fr,.fr],.ow [.fr,.fr]],.fr,.fr,.fr,.fr,.fr,.fr]],.fr,.fr,.fr,.fr]),(157,[.fr,.ow [.fr,.ow [.fr,.fr]],.ow [.fr,.fr],.ow [.fr,.fr],.ow [.fr,.fr,.ow [.fr,.fr],.ow [.fr,.fr],.ow [.fr,.ow [.fr,.fr],.ow [.fr,.fr,.fr,.fr,.ow [.fr,.fr,.fr,.fr],.ow [.fr,.fr]],.fr,.fr,.fr,.fr,.fr,.fr]],.fr,.fr,.fr,.fr,.ow [.fr,.fr,.fr,.fr],.ow [.fr,.fr],.fr,.fr]),(158,[.fr,.ow [.fr,.ow [.fr,.fr]],.ow [.fr,.fr],.ow [.fr,.fr],.ow [.fr,.fr,.ow [.fr,.fr],.ow [.fr,.fr],.ow [.fr,.ow [.fr,.fr],.ow [.fr,.fr,.fr,.fr,.ow [.fr,.fr,.fr,.fr],.ow [.fr,.fr]],.fr,.fr,.fr,.fr,.fr,.fr]],.fr,.fr,.fr,.fr,.ow [.fr,.fr,.fr,.fr],.ow [.fr,.fr],.fr,.fr]),(179,[.fr,.ow [.fr,.ow [.fr,.fr]],.ow [.fr,.fr],.ow [.fr,.fr],.ow [.fr,.fr,.ow [.fr,.fr],.ow [.fr,.fr],.ow [.fr,.ow [.fr,.fr],.ow [.fr,.fr,.fr,.fr,.ow [.fr,.fr,.fr,.fr],.ow [.fr,.fr]],.fr,.fr,.fr,.fr,.fr,.fr]],.fr,.fr]),(180,[.fr,.ow [.fr,.ow [.fr,.fr]],.ow [.fr,.fr],.ow [.fr,.fr],.ow [.fr,.fr,.ow [.fr,.fr],.ow [.fr,.fr],.ow [.fr,.ow [.fr,.fr],.ow [.fr,.fr,.fr,.fr,.ow [.fr,.fr,.fr,.fr],.ow [.fr,.fr]],.fr,.fr,.fr,.fr,.fr,.fr]],.fr,.fr])]
abbrev eP:List (TypeId×List Sh):=[(134,[.ow [.fr]])]
abbrev shR:List Sh:=[.fr,.ow [.fr,.ow [.fr,.fr]],.ow [.fr,.fr],.ow [.fr,.fr],.ow [.fr,.fr,.ow [.fr,.fr],.ow [.fr,.fr],.ow [.fr,.ow [.fr,.fr],.ow [.fr,.fr,.fr,.fr,.ow [.fr,.fr,.fr,.fr],.ow [.fr,.fr]],.fr,.fr,.fr,.fr,.fr,.fr]],.fr,.fr,.fr,.fr]
noncomputable def x75:Cl 75:=⟨fnB [.s,.s] [.sl .s] (fun x=>decide (x.1.length < 4294967281)&&decide (1<=x.2.length)) (fun x=>DE x.1 x.2),_,yF (fun x h=>by simp only[acX,decide_eq_true_eq]at h;exact h),Tx⟩
noncomputable def x76:Cl 76:=⟨fnB [.s,.s] [.s,.s,.bo] (fun x=>decide (x.1.length < 4294967281)) (fun x=>aa5 x.1 x.2),_,yF (fun x h=>of_decide_eq_true h),Zl⟩
noncomputable def ab7:Cl 131:=clL eU eP [] 80 f131 [.b8] [.bo]
noncomputable def x77:Cl 77:=clP eU eP [⟨_,ab7⟩] 80 f77 [.s] [.sl .s,.bo]
noncomputable def x35:Cl 35:=clP eU eP [⟨_,x75⟩,⟨_,x76⟩,⟨_,x77⟩] 80 f35 [.s] [(.sl (.st .Line)),.i .i64,.i .i64]
noncomputable def x80:Cl 80:=clN eU eS [] 80 f80
noncomputable def ab8:Cl 132:=clM eU eS [⟨_,x80⟩] 80 f132 [.sl .s] [] shR (.st .Reader)
noncomputable def x81:Cl 81:=clL eU eS [] 80 f81 [(.sl (.i .i64)),.i .i64] [.bo]
noncomputable def x38:Cl 38:=clN eU eS [⟨_,x81⟩,⟨_,x80⟩] 80 f38
noncomputable def x89:Cl 89:=clL eU eP [] 80 f89 [.b8] [.bo]
noncomputable def x90:Cl 90:=clL eU eP [] 80 f90 [.s] [.bo]
noncomputable def x91:Cl 91:=clL eU eP [] 80 f91 [.b8] [.bo]
noncomputable def x47:Cl 47:=clL eU eP [⟨_,x89⟩,⟨_,x90⟩,⟨_,x91⟩] 80 f47 [.s] [.bo]
noncomputable def vi:Cl 145:=clL eU eS [⟨_,x47⟩,⟨_,x80⟩] 80 f145 [.s] [.s]
noncomputable def wx:Cl 190:=clN eU eS [] 80 f190
noncomputable def ab9:Cl 133:=clM eU eS [⟨_,x38⟩,⟨_,x80⟩,⟨_,vi⟩,⟨_,wx⟩] 80 f133 [.sl .s] [] shR (.st .Reader)
noncomputable def VR:Cl 191:=clL eU eS [⟨_,x47⟩,⟨_,x80⟩] 80 f191 [.s] [.s]
noncomputable def acA:Cl 134:=clM eU eS [⟨_,x38⟩,⟨_,x80⟩,⟨_,vi⟩,⟨_,VR⟩,⟨_,wx⟩] 80 f134 [.sl .s] [] shR (.st .Reader)
noncomputable def acB:Cl 135:=clM eU eS [⟨_,x38⟩,⟨_,x80⟩,⟨_,vi⟩,⟨_,VR⟩,⟨_,wx⟩] 80 f135 [.sl .s] [] shR (.st .Reader)
noncomputable def acP:Cl 233:=clF [.i .i64] [.s] (fun _=>[49]) (fun x=>decide (x=(1:Int))) (fun x h=>of_decide_eq_true h) Zn
noncomputable def Yh:Cl 197:=clL eU eP [⟨_,acP⟩] 80 f197 [.s] [.i .i64,.bo]
noncomputable def abR:Cl 192:=clL eU eS [⟨_,Yh⟩,⟨_,x80⟩] 80 f192 [.s,.i .i64,.i .i64] [.i .i64]
noncomputable def acC:Cl 136:=clM eU eS [⟨_,x38⟩,⟨_,x80⟩,⟨_,vi⟩,⟨_,abR⟩,⟨_,wx⟩] 80 f136 [.sl .s] [] shR (.st .Reader)
noncomputable def acD:Cl 137:=clM eU eS [⟨_,x38⟩,⟨_,x80⟩,⟨_,vi⟩,⟨_,VR⟩,⟨_,wx⟩] 80 f137 [.sl .s] [] shR (.st .Reader)
noncomputable def Yf:Cl 193:=clN eU eS [] 80 f193
noncomputable def acE:Cl 138:=clM eU eS [⟨_,x38⟩,⟨_,x80⟩,⟨_,vi⟩,⟨_,VR⟩,⟨_,Yf⟩,⟨_,wx⟩] 80 f138 [.sl .s] [] shR (.st .Reader)
noncomputable def acF:Cl 139:=clM eU eS [⟨_,x38⟩,⟨_,x80⟩,⟨_,vi⟩,⟨_,VR⟩,⟨_,Yf⟩,⟨_,wx⟩] 80 f139 [.sl .s] [] shR (.st .Reader)
noncomputable def acM:Cl 194:=clN eU eS [] 80 f194
noncomputable def acG:Cl 140:=clM eU eS [⟨_,acM⟩,⟨_,x80⟩,⟨_,vi⟩,⟨_,Yf⟩,⟨_,wx⟩] 80 f140 [.sl .s] [] shR (.st .Reader)
noncomputable def acT:Cl 264:=⟨fnB [.s,.s] [.s,.bo] (fun _=>true) (fun x=>YE x.1 x.2),_,T6,WC⟩
noncomputable def acU:Cl 265:=⟨fnB [.s,.b8] [.i .i64] (fun _=>true) (fun x=>Uc x.1 x.2),_,T6,Tw⟩
noncomputable def acR:Cl 247:=clL eU eP [] 80 f247 [.i .i64] [.i .i64]
noncomputable def acS:Cl 252:=clL eU eP [⟨_,acT⟩,⟨_,acU⟩,⟨_,acR⟩] 80 f252 [.s] [.i .i64,.bo]
noncomputable def acQ:Cl 245:=clP eU eP [⟨_,acS⟩,⟨_,Yh⟩] 80 f245 [.s] [.st .Arg,.bo]
noncomputable def acO:Cl 232:=clP eU eP [⟨_,x47⟩,⟨_,Yh⟩,⟨_,acQ⟩] 80 f232 [.s] [.st .Arg,.bo]
noncomputable def Yg:Cl 195:=clP eU eS [⟨_,acO⟩,⟨_,x80⟩] 80 f195 [.s,.bo] [.st .Arg]
noncomputable def abQ:Cl 149:=clN eU eS [⟨_,wx⟩] 80 f149
noncomputable def Ye:Cl 150:=clN eU eS [⟨_,Yf⟩] 80 f150
noncomputable def acH:Cl 141:=clM eU eS [⟨_,x38⟩,⟨_,x80⟩,⟨_,vi⟩,⟨_,Yg⟩,⟨_,wx⟩,⟨_,abQ⟩,⟨_,Ye⟩] 80 f141 [.sl .s] [] shR (.st .Reader)
noncomputable def abS:Cl 196:=clN eU eS [⟨_,Ye⟩] 80 f196
noncomputable def acI:Cl 142:=clM eU eS [⟨_,x38⟩,⟨_,x80⟩,⟨_,vi⟩,⟨_,abR⟩,⟨_,Yg⟩,⟨_,wx⟩,⟨_,abS⟩] 80 f142 [.sl .s] [] shR (.st .Reader)
noncomputable def abP:Cl 148:=clP eU eS [⟨_,Yg⟩] 80 f148 [.sl .s,.bo] [(.sl (.st .Arg))]
noncomputable def acJ:Cl 143:=clM eU eS [⟨_,x38⟩,⟨_,x80⟩,⟨_,vi⟩,⟨_,abP⟩,⟨_,abS⟩,⟨_,wx⟩] 80 f143 [.sl .s] [] shR (.st .Reader)
noncomputable def acK:Cl 144:=clM eU eS [⟨_,x38⟩,⟨_,x80⟩,⟨_,vi⟩,⟨_,Yg⟩,⟨_,Yh⟩,⟨_,Ye⟩] 80 f144 [.sl .s] [] shR (.st .Reader)
noncomputable def acN:Cl 198:=clL eU eS [] 80 f198 [.s,.i .i64] [.s]
noncomputable def abO:Cl 147:=clP eU eS [⟨_,acN⟩] 80 f147 [.i .i64] [.st .Form,.bo]
noncomputable def acL:Cl 146:=clL eU eS [⟨_,abO⟩] 80 f146 [.s] [.i .i64,.bo]
noncomputable def x79:Cl 79:=clM eU eS [⟨_,x38⟩,⟨_,vi⟩,⟨_,acL⟩,⟨_,x80⟩,⟨_,abO⟩,⟨_,abP⟩,⟨_,abQ⟩,⟨_,Ye⟩] 80 f79 [.sl .s] [] shR (.st .Reader)
noncomputable def x78:Cl 78:=⟨swB Rb 79,_,ZZ,Ll⟩
noncomputable def x37:Cl 37:=clM eU eS [⟨_,x78⟩,⟨_,ab8⟩,⟨_,ab9⟩,⟨_,acA⟩,⟨_,acB⟩,⟨_,acC⟩,⟨_,acD⟩,⟨_,acE⟩,⟨_,acF⟩,⟨_,acG⟩,⟨_,acH⟩,⟨_,acI⟩,⟨_,acJ⟩,⟨_,acK⟩,⟨_,x79⟩] 80 f37 [.sl .s] [] shR (.st .Reader)
noncomputable abbrev lParse:ClS:=[⟨_,x35⟩,⟨_,x37⟩,⟨_,x38⟩]
abbrev abJ:List UInt8:=[102,117,110,99,32,102,32,105,110,116,10,112,97,114,97,109,32,107,32,105,110,116,10,98,108,111,99,107,32,97,10,114,101,116,32,107,10]
abbrev aa4:Lt.Func:=⟨[102],[105,110,116],[⟨[107],[105,110,116]⟩],[],[⟨[97],[],[],⟨3,⟨1,[107],0⟩,[],0⟩⟩]⟩
abbrev wr:Lt.Program:=⟨false,[],[],[],[aa4]⟩
theorem ta0:ut 80 (clE eU eS lParse) f13 (kLs 4 (f13.body.getD .skip)) (kRs (4+1) (f13.body.getD .skip)) [.s] [.st .Program,.i .i64,.i .i64] abJ (fun y=>decide (y=(wr,0,0)))=true:=kQ0
abbrev abK:List UInt8:=[102,117,110,99,32,102,32,105,110,116,10,118,97,114,32,120,32,105,110,116,10,98,108,111,99,107,32,97,10,114,101,116,32,120,10]
abbrev T7:Lt.Func:=⟨[102],[105,110,116],[],[⟨[120],[105,110,116]⟩],[⟨[97],[],[],⟨3,⟨1,[120],0⟩,[],0⟩⟩]⟩
abbrev ro:Lt.Program:=⟨false,[],[],[],[T7]⟩
theorem ta1:ut 80 (clE eU eS lParse) f13 (kLs 4 (f13.body.getD .skip)) (kRs (4+1) (f13.body.getD .skip)) [.s] [.st .Program,.i .i64,.i .i64] abK (fun y=>decide (y=(ro,0,0)))=true:=kQ0
abbrev abL:List UInt8:=[102,117,110,99,32,102,32,105,110,116,10,98,108,111,99,107,32,97,10,114,101,116,32,49,10,98,108,111,99,107,32,98,10,114,101,116,32,49,10]
abbrev W4:Lt.Func:=⟨[102],[105,110,116],[],[],[⟨[97],[],[],⟨3,⟨2,[],1⟩,[],0⟩⟩,⟨[98],[],[],⟨3,⟨2,[],1⟩,[],0⟩⟩]⟩
abbrev sX:Lt.Program:=⟨false,[],[],[],[W4]⟩
theorem ta2:ut 80 (clE eU eS lParse) f13 (kLs 4 (f13.body.getD .skip)) (kRs (4+1) (f13.body.getD .skip)) [.s] [.st .Program,.i .i64,.i .i64] abL (fun y=>decide (y=(sX,0,0)))=true:=by kernel_rfl
set_option maxRecDepth 100000
abbrev eO:List (TypeId×List Sh):=[(7000000,[])]
abbrev eR:List (TypeId×List Sh):=[(3000035,[])]
abbrev eW:List (TypeId×List Sh):=[(3000053,[])]
def Bf:CKt:=lg [.mp .s .bo] [.sl .s] (fun x=>iz x) (fun x y=>fE x y)
theorem P6:Cont prog 175 Bf:=Li
def xa:CKt:=UJ (.gh 800000)
theorem En.ok0{P:Program}{u:Ut}{sh:List (TypeId×List Sh)}{pk:PKt}:En.ok ⟨P,u,[],sh,pk⟩:=fun _ h=>by cases h
theorem En.okc{P:Program}{u:Ut}{sh:List (TypeId×List Sh)}{pk:PKt}{f:Nat}{C:CKt}{cs:CTt}(h:Cont P f C)(hs:En.ok ⟨P,u,cs,sh,pk⟩)(hf:Nat.blt f 1000000=true:=by rfl):En.ok ⟨P,u,(f,C)::cs,sh,pk⟩:=by
 intro x hx;rcases ac8.1 hx with rfl|hx
 ·exact⟨fun _=>h,fun hb=>absurd hb (Nat.not_le.2 (ac5 hf))⟩
 ·exact hs x hx
theorem En.okk{P:Program}{u:Ut}{sh:List (TypeId×List Sh)}{pk:PKt}{f:Nat}{C:CKt}{cs:CTt}(h:ContC P f C)(hs:En.ok ⟨P,u,cs,sh,pk⟩):En.ok ⟨P,u,(f,C)::cs,sh,pk⟩:=by
 intro x hx;rcases ac8.1 hx with rfl|hx
 ·exact⟨fun hb=>absurd h.big (Nat.not_le.2 (ac5 hb)),fun _=>h⟩
 ·exact hs x hx
theorem mixed:prog.follows .mixedOrders=true:=kQ0
def okF(n:Nat)(fn:Func):Bool:=fn.name != "runtime.NumGoroutine" && (fn.body.isSome&&(Nat.ble n fn.ntmps&&fi fn.ntmps (fn.body.getD .skip)))
theorem dh{n:Nat}{fn:Func}(h:okF n fn=true):(fn.name == "runtime.NumGoroutine")=false/\fn.body.isSome=true/\Nat.ble n fn.ntmps=true/\fi fn.ntmps (fn.body.getD .skip)=true:=by
 unfold okF at h;simp only[acX,bne,aeV]at h;exact h
theorem kI{e:En}(he:e.ok){f:Nat}{fn:Func}{an:An}(hf:e.P.funcs[f]? = some fn:=by kernel_rfl)(hb:(okF 0 fn&&Nat.ble fn.ntmps 100000)=true:=by kernel_rfl)(hm:e.P.follows .mixedOrders=true:=by exact mixed):Cont e.P f (cn e fn an):=
 have h:=dh ((acX _ _).mp hb).1
 Fw he hm hf h.1 h.2.1 h.2.2.2 ((acX _ _).mp hb).2
theorem kC{e:En}(he:e.ok){f:Nat}{fn:Func}{an:An}(hf:e.P.funcs[f]? = some fn:=by kernel_rfl)(hb:(okF 0 fn&&Nat.ble fn.ntmps 100000)=true:=by kernel_rfl)(hm:e.P.follows .mixedOrders=true:=by exact mixed):ContC e.P (f+1000000) (Ay e fn an):=
 have h:=dh ((acX _ _).mp hb).1
 Sk he hm hf h.1 h.2.1 h.2.2.2 ((acX _ _).mp hb).2
theorem k0(e:En)(he:e.ok){f:Nat}{fn:Func}(an:An){ps rs:List U}{F:Fl ps->Fl rs}(law:∀x,∀KK:Fl rs->Prop,KK (F x)->ao e fn an ps rs x KK)(hf:e.P.funcs[f]? = some fn:=by kernel_rfl)(hb:okF ps.length fn=true:=by kernel_rfl)(hm:e.P.follows .mixedOrders=true:=by exact mixed):Cont e.P f (ap ps rs F):=
 xi he hm hf (dh hb).1 (dh hb).2.1 (dh hb).2.2.1 (dh hb).2.2.2 law
theorem k1(e:En)(he:e.ok){f:Nat}{fn:Func}(an:An){ps rs:List U}{pre:Fl ps->Prop}{F:Fl ps->Fl rs}(law:∀x,pre x->∀KK:Fl rs->Prop,KK (F x)->ao e fn an ps rs x KK)(hf:e.P.funcs[f]? = some fn:=by kernel_rfl)(hb:okF ps.length fn=true:=by kernel_rfl)(hm:e.P.follows .mixedOrders=true:=by exact mixed):Cont e.P f (bd ps rs pre F):=
 Bo he hm hf (dh hb).1 (dh hb).2.1 (dh hb).2.2.1 (dh hb).2.2.2 law
theorem k2(e:En)(he:e.ok){f:Nat}{fn:Func}(an:An){sh:List Sh}{u:U}{ps rs:List U}{pre:El u->Fl ps->Prop}{Fn:El u->Fl ps->Fl rs×El u}(law:∀x y,pre x y->∀KK:Fl rs×El u->Prop,KK (Fn x y)->Tl e fn an sh u ps rs x y KK)(hf:e.P.funcs[f]? = some fn:=by kernel_rfl)(hb:okF (ps.length+1) fn=true:=by kernel_rfl)(hm:e.P.follows .mixedOrders=true:=by exact mixed):Cont e.P f (XK sh u ps rs pre Fn):=
 So he hm hf (dh hb).1 (dh hb).2.1 (dh hb).2.2.1 (dh hb).2.2.2 law
theorem k3(e:En)(he:e.ok){f:Nat}{fn:Func}(an:An){u:U}{ps:List U}{pre:List (El u)->Fl ps->Prop}{Fn:List (El u)->Fl ps->List (El u)}(law:∀x y,pre x y->∀KK:List (El u)->Prop,KK (Fn x y)->qR e fn an u ps x y KK)(hf:e.P.funcs[f]? = some fn:=by kernel_rfl)(hb:okF (ps.length+1) fn=true:=by kernel_rfl)(hm:e.P.follows .mixedOrders=true:=by exact mixed):Cont e.P f (Ef u ps pre Fn):=
 Sm he hm hf (dh hb).1 (dh hb).2.1 (dh hb).2.2.1 (dh hb).2.2.2 law
noncomputable abbrev eZ:En:=⟨prog,eU,[],[],noP⟩
theorem k6(e:En)(he:e.ok){f:Nat}{fn:Func}(an:An){ps rs:List U}{pre:Fl ps->Prop}{F:Fl ps->Fl rs}(law:∀x,pre x->∀KK:Fl rs->Prop,KK (F x)->ao e fn an ps rs x KK)(hf:e.P.funcs[f]? = some fn:=by kernel_rfl)(hb:okF ps.length fn=true:=by kernel_rfl)(hm:e.P.follows .mixedOrders=true:=by exact mixed):Cont e.P f (IJ ps rs pre F):=
 O9 he hm hf (dh hb).1 (dh hb).2.1 (dh hb).2.2.1 (dh hb).2.2.2 law
theorem k8(e:En)(he:e.ok){f:Nat}{fn:Func}(an:An){ps rs:List U}{pre:Fl ps->Prop}{post:Fl ps->Fl rs->Prop}(law:∀x,pre x->∀KK:Fl rs->Prop,(∀y,post x y->KK y)->ao e fn an ps rs x KK)(hf:e.P.funcs[f]? = some fn:=by kernel_rfl)(hb:okF ps.length fn=true:=by kernel_rfl)(hm:e.P.follows .mixedOrders=true:=by exact mixed):Cont e.P f (lg ps rs pre post):=
 Sq he hm hf (dh hb).1 (dh hb).2.1 (dh hb).2.2.1 (dh hb).2.2.2 law
abbrev sh4:List Sh:=[.fr,.fr,.fr,.fr,.ow [.fr,.fr,.fr,.fr],.ow [.fr,.fr]]
abbrev sh0:List Sh:=[.fr,.fr,.ow [.fr,.fr],.ow [.fr,.fr],.ow [.fr,.ow [.fr,.fr],.ow sh4,.fr,.fr,.fr,.fr,.fr,.fr]]
abbrev sh2:List Sh:=[.fr,.ow [.fr,.ow [.fr,.fr]],.ow [.fr,.fr],.ow [.fr,.fr],.ow sh0,.fr,.fr,.fr,.fr]
def Fe:CKt:=ap [.b8] [.bo] (fun x=>Lt.letter x)
def BG:An:=.s .l (.j ⟨[],[],[],[.sl 2 .bo]⟩ .l .l)
theorem JQ(a0_c:UInt8)(KK:Bool->Prop):xt a0_c KK=ao eZ f89 BG [.b8] [.bo] a0_c KK:=kQ0
theorem TE:Cont prog 89 Fe:=k0 eZ En.ok0 (fn:=f89) BG (fun a0_c KK h=>Eq.mp (JQ a0_c KK) (LK a0_c KK h))
def Sc:CKt:=ap [.s] [.bo] (fun x=>Lt.kept x)
def N5:An:=.s .l (.j ⟨[],[],[],[.sl 2 .bo]⟩ .l .l)
theorem RA(a0_s:List UInt8)(KK:Bool->Prop):Kx a0_s KK=ao eZ f90 N5 [.s] [.bo] a0_s KK:=kQ0
theorem Zm:Cont prog 90 Sc:=k0 eZ En.ok0 (fn:=f90) N5 (fun a0_s KK h=>Eq.mp (RA a0_s KK) (Up a0_s KK h))
def vo:CKt:=ap [.b8] [.bo] (fun x=>pW x)
def sx:An:=.s .l (.s .l .l)
theorem Ag(a0_c:UInt8)(KK:Bool->Prop):nZ a0_c KK=ao eZ f91 sx [.b8] [.bo] a0_c KK:=kQ0
theorem GG:Cont prog 91 vo:=k0 eZ En.ok0 (fn:=f91) sx (fun a0_c KK h=>Eq.mp (Ag a0_c KK) (AG a0_c KK h))
def jE:CKt:=ap [.s] [.bo] (fun x=>Lt.Name x)
def N3:An:=.s .l (.s (.j ⟨[0],[],[],[.sl 20 .bo]⟩ .l (.c (.s .l .l) .l)) (.s (.s .l (.b (.lp ⟨[0,22],[],[],[.sl 23 (.i .i64)]⟩ (.s .l (.s (.c .l .l) (.s (.b (.s .l (.j ⟨[0,22,23],[],[],[.sl 37 .bo]⟩ .l (.c (.s .l .l) .l)))) .l)))))) (.s .l .l)))
noncomputable abbrev e_Name:En:=⟨prog,eU,[(89,Fe),(90,Sc),(91,vo)],[],noP⟩
theorem Ry(a0_s:List UInt8)(KK:Bool->Prop):Kv a0_s KK=ao e_Name f47 N3 [.s] [.bo] a0_s KK:=kQ0
theorem lz:Cont prog 47 jE:=k0 e_Name (En.okc TE (En.okc Zm (En.okc GG En.ok0))) (fn:=f47) N3 (fun a0_s KK h=>Eq.mp (Ry a0_s KK) (Un a0_s KK h))
def Kh:CKt:=ap [.s] [.bo] (fun x=>Lt.kind x)
def N6:An:=.s .l (.j ⟨[],[],[],[.sl 2 .bo]⟩ .l .l)
noncomputable abbrev e_kind:En:=⟨prog,eU,[(47,jE)],[],noP⟩
theorem RB(a0_s:List UInt8)(KK:Bool->Prop):Ky a0_s KK=ao e_kind f88 N6 [.s] [.bo] a0_s KK:=kQ0
theorem TA:Cont prog 88 Kh:=k0 e_kind (En.okc lz En.ok0) (fn:=f88) N6 (fun a0_s KK h=>Eq.mp (RB a0_s KK) (Uq a0_s KK h))
def CH:CKt:=ap [(.sl (.st .Var)),.i .i64] [.bo] (fun x=>Lt.typed x.1 x.2)
def Gk:An:=.s .l (.s (.s .l (.c (.s .l .l) .l)) (.s (.s .l (.b (.lp ⟨[11,12],[],[],[.sl 13 (.i .i64)]⟩ (.s .l (.s (.c .l .l) (.s (.b (.s .l (.j ⟨[11,12,13],[],[],[.sl 26 .bo]⟩ .l (.c (.s .l .l) .l)))) .l)))))) (.s .l .l)))
noncomputable abbrev e_typed:En:=⟨prog,eU,[(47,jE),(88,Kh)],[],noP⟩
theorem Nb(a0_l:List Lt.Var)(a1_most:Int)(KK:Bool->Prop):C9 a0_l a1_most KK=ao e_typed f46 Gk [(.sl (.st .Var)),.i .i64] [.bo] (a0_l,a1_most) KK:=kQ0
theorem Oj:Cont prog 46 CH:=k0 e_typed (En.okc lz (En.okc TA En.ok0)) (fn:=f46) Gk (fun(a0_l,a1_most) KK h=>Eq.mp (Nb a0_l a1_most KK) (QU a0_l a1_most KK h))
def Np:CKt:=ap [.i .i64] [.i .i64] (fun x=>Lt.Plain x)
def FV:An:=.s .l (.s (.j ⟨[0],[],[],[.sl 10 .bo]⟩ .l (.c (.s .l .l) .l)) (.s .l .l))
theorem MT(a0_n:Int)(KK:Int->Prop):CQ a0_n KK=ao eZ f247 FV [.i .i64] [.i .i64] a0_n KK:=kQ0
theorem Wx:Cont prog 247 Np:=k0 eZ En.ok0 (fn:=f247) FV (fun a0_n KK h=>Eq.mp (MT a0_n KK) (QC a0_n KK h))
def vp:CKt:=ap [.st .Arg] [.bo] (fun x=>mE x)
def sy:An:=.s .l (.s (.s .l (.b (.s .l (.c (.s .l .l) (.s .l (.c (.s .l .l) (.s .l (.c (.j ⟨[],[],[],[.sl 2 .bo]⟩ .l .l) (.s .l (.c (.s .l .l) (.s .l (.c (.j ⟨[],[],[],[.sl 2 .bo]⟩ .l .l) .l)))))))))))) (.s .l .l))
noncomputable abbrev e_wordRight:En:=⟨prog,eU,[(47,jE),(247,Np)],[],noP⟩
theorem Ah(a0_a:Lt.Arg)(KK:Bool->Prop):n3 a0_a KK=ao e_wordRight f234 sy [.st .Arg] [.bo] a0_a KK:=kQ0
theorem GH:Cont prog 234 vp:=k0 e_wordRight (En.okc lz (En.okc Wx En.ok0)) (fn:=f234) sy (fun a0_a KK h=>Eq.mp (Ah a0_a KK) (AH a0_a KK h))
def jI:CKt:=ap [(.sl (.st .Arg)),.bo] [.bo] (fun x=>cZ x.1 x.2)
def vD:An:=.s .l (.s (.s .l (.b (.lp ⟨[1,7,8],[],[],[.sl 9 (.i .i64)]⟩ (.s .l (.s (.c .l .l) (.s (.b (.s .l (.j ⟨[1,7,8,9],[],[],[.sl 24 .bo]⟩ .l (.c (.s .l .l) .l)))) .l)))))) (.s .l .l))
noncomputable abbrev e_showArgs:En:=⟨prog,eU,[(234,vp)],[],noP⟩
theorem A0(a0_l:List Lt.Arg)(a1_objs:Bool)(KK:Bool->Prop):qL a0_l a1_objs KK=ao e_showArgs f200 vD [(.sl (.st .Arg)),.bo] [.bo] (a0_l,a1_objs) KK:=kQ0
theorem mX:Cont prog 200 jI:=k0 e_showArgs (En.okc GH En.ok0) (fn:=f200) vD (fun(a0_l,a1_objs) KK h=>Eq.mp (A0 a0_l a1_objs KK) (DS a0_l a1_objs KK h))
def Bh:CKt:=ap [.st .Term] [.bo] (fun x=>tf x)
def x5:An:=.s .l (.s (.s .l (.b (.lp ⟨[1,8,9],[.loc 1],[],[.sl 10 (.i .i64)]⟩ (.s .l (.s (.c .l .l) (.s (.b (.s .l (.s .l (.c (.s .l .l) .l)))) .l)))))) (.s .l (.s .l (.s (.s .l (.b (.s .l (.c (.j ⟨[],[],[],[.sl 2 .bo]⟩ .l .l) (.s .l (.c (.j ⟨[],[],[],[.sl 2 .bo]⟩ .l .l) (.s .l (.c (.j ⟨[],[],[],[.sl 2 .bo]⟩ .l .l) (.s .l (.c (.s .l .l) .l)))))))))) (.s .l .l)))))
noncomputable abbrev e_showEnd:En:=⟨prog,eU,[(47,jE),(200,jI)],[],noP⟩
theorem ET(a0_t:Lt.Term)(KK:Bool->Prop):tZ a0_t KK=ao e_showEnd f155 x5 [.st .Term] [.bo] a0_t KK:=kQ0
theorem P9:Cont prog 155 Bh:=k0 e_showEnd (En.okc lz (En.okc mX En.ok0)) (fn:=f155) x5 (fun a0_t KK h=>Eq.mp (ET a0_t KK) (IA a0_t KK h))
def Ym:CKt:=ap [.st .Phi] [.bo] (fun x=>Lt.phi x)
def Tb:An:=.s .l (.s (.j ⟨[1],[.loc 1],[],[.sl 20 .bo]⟩ .l (.c (.s .l .l) .l)) (.s (.s .l (.b (.lp ⟨[22,23],[],[],[.sl 24 (.i .i64)]⟩ (.s .l (.s (.c .l .l) (.s (.b (.s .l (.j ⟨[22,23,24],[],[],[.sl 38 .bo]⟩ .l (.c (.s .l .l) .l)))) .l)))))) (.s .l .l)))
noncomputable abbrev e_phi:En:=⟨prog,eU,[(47,jE),(200,jI)],[],noP⟩
theorem VJ(a0_x:Lt.Phi)(KK:Bool->Prop):SE a0_x KK=ao e_phi f156 Tb [.st .Phi] [.bo] a0_x KK:=kQ0
theorem aaT:Cont prog 156 Ym:=k0 e_phi (En.okc lz (En.okc mX En.ok0)) (fn:=f156) Tb (fun a0_x KK h=>Eq.mp (VJ a0_x KK) (Xj a0_x KK h))
def Yl:CKt:=ap [.s,.i .i64] [.s] (fun x=>Lt.nth x.1 x.2)
def Ta:An:=.s .l (.s .l (.s (.s .l (.b (.lp ⟨[0],[],[],[.sl 1 (.i .i64),.sl 5 (.i .i64),.sl 6 (.i .i64)]⟩ (.s (.s .l (.c .l .l)) (.j ⟨[0,6],[],[],[.sl 1 (.i .i64),.sl 5 (.i .i64)]⟩ (.b (.s (.s .l (.c .l .l)) (.s (.s .l (.s .l (.c (.s .l .l) .l))) .l))) .l))))) (.s .l .l)))
theorem VI(a0_list:List UInt8)(a1_n:Int)(KK:(List UInt8)->Prop):SC a0_list a1_n KK=ao eZ f198 Ta [.s,.i .i64] [.s] (a0_list,a1_n) KK:=kQ0
theorem aaS:Cont prog 198 Yl:=k0 eZ En.ok0 (fn:=f198) Ta (fun(a0_list,a1_n) KK h=>Eq.mp (VI a0_list a1_n KK) (Xi a0_list a1_n KK h))
def YS:CKt:=ap [.i .i64] [.st .Form,.bo] (fun x=>Lt.Of x)
def Yv:An:=.s .l (.s (.b (.j ⟨[0,2],[.loc 2],[],[.sl 4 .bo]⟩ .l (.c (.s .l .l) (.j ⟨[0,2],[.loc 2],[],[.sl 14 .bo]⟩ .l (.c (.s .l .l) .l))))) (.s (.s .l (.b (.s .l (.c (.s .l .l) (.s .l (.c (.s .l .l) (.s .l (.c (.s .l .l) (.s .l (.c (.s .l .l) (.s .l (.c (.s .l .l) (.s .l (.c (.s .l .l) (.s .l (.c (.s .l .l) (.s .l (.c (.s .l .l) (.s .l (.c (.s .l .l) (.s .l (.c (.s .l .l) .l)))))))))))))))))))))) (.s .l .l)))
noncomputable abbrev e_Of:En:=⟨prog,eU,[(198,Yl)],[],noP⟩
theorem X9(a0_op:Int)(KK:(Lt.Form×Bool)->Prop):YV a0_op KK=ao e_Of f147 Yv [.i .i64] [.st .Form,.bo] a0_op KK:=kQ0
theorem aaR:Cont prog 147 YS:=k0 e_Of (En.okc aaS En.ok0) (fn:=f147) Yv (fun a0_op KK h=>Eq.mp (X9 a0_op KK) (ZG a0_op KK h))
def Ns:CKt:=ap [.st .Frame] [.bo] (fun x=>Lt.frame x)
def FY:An:=.s .l (.s (.j ⟨[1],[.loc 1],[],[.sl 30 .bo]⟩ .l (.c (.s .l .l) .l)) (.s (.s .l (.b (.lp ⟨[32,33],[],[],[.sl 34 (.i .i64)]⟩ (.s .l (.s (.c .l .l) (.s (.b (.s .l (.j ⟨[32,33,34],[],[],[.sl 48 .bo]⟩ .l (.c (.s .l .l) .l)))) .l)))))) (.s .l .l)))
noncomputable abbrev e_frame:En:=⟨prog,eU,[(47,jE),(200,jI)],[],noP⟩
theorem MW(a0_f:Lt.Frame)(KK:Bool->Prop):CU a0_f KK=ao e_frame f201 FY [.st .Frame] [.bo] a0_f KK:=kQ0
theorem WB:Cont prog 201 Ns:=k0 e_frame (En.okc lz (En.okc mX En.ok0)) (fn:=f201) FY (fun a0_f KK h=>Eq.mp (MW a0_f KK) (QF a0_f KK h))
def Nt:CKt:=ap [.st .Instr] [.bo] (fun x=>Lt.instr x)
def FZ:An:=.s .l (.s .l (.s (.j ⟨[1,3],[.loc 1,.loc 3],[],[.sl 52 .bo]⟩ .l (.c (.s .l .l) .l)) (.s (.j ⟨[1],[.loc 1],[],[.sl 84 .bo]⟩ .l (.c (.s .l .l) .l)) (.s (.j ⟨[1],[.loc 1],[],[.sl 92 .bo]⟩ .l (.c (.s .l .l) .l)) (.s (.s .l (.b (.lp ⟨[1,104,105],[.loc 1],[],[.sl 106 (.i .i64)]⟩ (.s .l (.s (.c .l .l) (.s (.b (.s .l (.s .l (.c (.s .l .l) .l)))) .l)))))) (.s (.s .l (.b (.lp ⟨[115,116],[],[],[.sl 117 (.i .i64)]⟩ (.s .l (.s (.c .l .l) (.s (.b (.s .l (.j ⟨[115,116,117],[],[],[.sl 136 .bo]⟩ .l (.c (.s .l .l) .l)))) .l)))))) (.s .l .l)))))))
noncomputable abbrev e_instr:En:=⟨prog,eU,[(47,jE),(147,YS),(200,jI),(201,Ns)],[],noP⟩
theorem MX(a0_i:Lt.Instr)(KK:Bool->Prop):CV a0_i KK=ao e_instr f157 FZ [.st .Instr] [.bo] a0_i KK:=kQ0
theorem WD:Cont prog 157 Nt:=k0 e_instr (En.okc lz (En.okc aaR (En.okc mX (En.okc WB En.ok0)))) (fn:=f157) FZ (fun a0_i KK h=>Eq.mp (MX a0_i KK) (QG a0_i KK h))
def Nr:CKt:=ap [.st .Block] [.bo] (fun x=>Lt.block x)
def FX:An:=.s .l (.s (.j ⟨[1],[.loc 1],[],[.sl 16 .bo]⟩ .l (.c (.s .l .l) .l)) (.s (.s .l (.b (.lp ⟨[1,18,19],[.loc 1],[],[.sl 20 (.i .i64)]⟩ (.s .l (.s (.c .l .l) (.s (.b (.s .l (.s .l (.c (.s .l .l) .l)))) .l)))))) (.s (.s .l (.b (.lp ⟨[29,30],[],[],[.sl 31 (.i .i64)]⟩ (.s .l (.s (.c .l .l) (.s (.b (.s .l (.s .l (.c (.s .l .l) .l)))) .l)))))) (.s .l .l))))
noncomputable abbrev e_block:En:=⟨prog,eU,[(47,jE),(155,Bh),(156,Ym),(157,Nt)],[],noP⟩
theorem MV(a0_b:Lt.Block)(KK:Bool->Prop):CS a0_b KK=ao e_block f92 FX [.st .Block] [.bo] a0_b KK:=kQ0
theorem WA:Cont prog 92 Nr:=k0 e_block (En.okc lz (En.okc P9 (En.okc aaT (En.okc WD En.ok0)))) (fn:=f92) FX (fun a0_b KK h=>Eq.mp (MV a0_b KK) (QE a0_b KK h))
def nQ:CKt:=ap [.st .Func] [.bo] (fun x=>cG x)
def nB:An:=.s .l (.s (.j ⟨[1],[.loc 1],[],[.sl 39 .bo]⟩ .l (.c (.s .l .l) .l)) (.s .l (.s (.s .l (.b (.lp ⟨[41,42],[],[],[.sl 3 (.i .i64),.sl 43 (.i .i64)]⟩ (.s .l (.s (.c .l .l) (.s (.b (.s .l (.s (.j ⟨[3,5,41,42,43],[.loc 5],[],[.sl 56 .bo]⟩ .l (.c (.s .l .l) .l)) (.s .l (.j ⟨[3,41,42,43],[],[],[.sl 72 .bo]⟩ .l (.c (.s .l .l) .l)))))) .l)))))) (.s .l .l))))
noncomputable abbrev e_showFunction:En:=⟨prog,eU,[(46,CH),(47,jE),(88,Kh),(92,Nr)],[],noP⟩
theorem tF(a0_f:Lt.Func)(KK:Bool->Prop):jM a0_f KK=ao e_showFunction f48 nB [.st .Func] [.bo] a0_f KK:=kQ0
theorem yp:Cont prog 48 nQ:=k0 e_showFunction (En.okc Oj (En.okc lz (En.okc TA (En.okc WA En.ok0)))) (fn:=f48) nB (fun a0_f KK h=>Eq.mp (tF a0_f KK) (uK a0_f KK h))
def vm:CKt:=ap [.st .Program] [.bo] (fun x=>dY x)
def sq:An:=.s .l (.s (.j ⟨[1],[.loc 1],[],[.sl 30 .bo]⟩ .l (.c (.s .l .l) .l)) (.s (.s .l (.b (.lp ⟨[1,32,33],[.loc 1],[],[.sl 34 (.i .i64)]⟩ (.s .l (.s (.c .l .l) (.s (.b (.s .l (.j ⟨[1,32,33,34],[.loc 1],[],[.sl 47 .bo]⟩ .l (.c (.s .l .l) .l)))) .l)))))) (.s (.s .l (.b (.lp ⟨[1,50,51],[.loc 1],[],[.sl 52 (.i .i64)]⟩ (.s .l (.s (.c .l .l) (.s (.b (.s .l (.j ⟨[1,50,51,52],[.loc 1],[],[.sl 69 .bo]⟩ .l (.c (.s .l .l) .l)))) .l)))))) (.s (.s .l (.b (.lp ⟨[72,73],[],[],[.sl 74 (.i .i64)]⟩ (.s .l (.s (.c .l .l) (.s (.b (.s .l (.s .l (.c (.s .l .l) .l)))) .l)))))) (.s .l .l)))))
noncomputable abbrev e_showRight:En:=⟨prog,eU,[(46,CH),(47,jE),(48,nQ)],[],noP⟩
theorem Ad(a0_p:Lt.Program)(KK:Bool->Prop):nW a0_p KK=ao e_showRight f19 sq [.st .Program] [.bo] a0_p KK:=kQ0
theorem GC:Cont prog 19 vm:=k0 e_showRight (En.okc Oj (En.okc lz (En.okc yp En.ok0))) (fn:=f19) sq (fun a0_p KK h=>Eq.mp (Ad a0_p KK) (AC a0_p KK h))
def Ba:CKt:=ap [.st .Program] [.bo] (fun x=>gO x)
def xW:An:=.s .l (.s (.s .l (.b (.lp ⟨[1,10,11],[.loc 1],[],[.sl 12 (.i .i64)]⟩ (.s .l (.s (.c .l .l) (.s (.b (.s .l (.s .l (.b (.lp ⟨[1,10,11,12,17,18],[.loc 1],[],[.sl 19 (.i .i64)]⟩ (.s .l (.s (.c .l .l) (.s (.b (.s .l (.s (.s .l (.c (.s .l .l) .l)) (.s .l (.b (.lp ⟨[1,10,11,12,17,18,19,28,29],[.loc 1],[],[.sl 30 (.i .i64)]⟩ (.s .l (.s (.c .l .l) (.s (.b (.s .l (.j ⟨[1,10,11,12,17,18,19,28,29,30],[.loc 1],[],[.sl 43 .bo]⟩ .l (.c (.s .l .l) .l)))) .l))))))))) .l)))))))) .l)))))) (.s .l .l))
theorem EO(a0_p:Lt.Program)(KK:Bool->Prop):tU a0_p KK=ao eZ f20 xW [.st .Program] [.bo] a0_p KK:=kQ0
theorem P2:Cont prog 20 Ba:=k0 eZ En.ok0 (fn:=f20) xW (fun a0_p KK h=>Eq.mp (EO a0_p KK) (Iv a0_p KK h))
def Fa:CKt:=bd [.st .Func] [.i .i64] (fun x=>wI x) (fun x=>wJ x)
def BD:An:=.s .l (.s .l (.s (.s .l (.b (.lp ⟨[7,8],[],[],[.sl 3 (.i .i64),.sl 9 (.i .i64)]⟩ (.s .l (.s (.c .l .l) (.s (.b (.s .l .l)) .l)))))) (.s .l .l)))
theorem JN(a0_f:Lt.Func)(KK:Int->Prop):xr a0_f KK=ao eZ f11 BD [.st .Func] [.i .i64] a0_f KK:=kQ0
theorem Tv:Cont prog 11 Fa:=k1 eZ En.ok0 (fn:=f11) BD (fun a0_f hp KK h=>Eq.mp (JN a0_f KK) (LH a0_f hp KK h))
def w6:CKt:=bd [.st .Program] [.bo] (fun x=>uZ x) (fun x=>ik x)
def vC:An:=.s .l (.s (.s .l (.b (.lp ⟨[6,7],[],[],[.sl 8 (.i .i64)]⟩ (.s .l (.s (.c .l .l) (.s (.b (.s .l (.j ⟨[6,7,8],[],[],[.sl 30 .bo]⟩ .l (.c (.s .l .l) .l)))) .l)))))) (.s .l .l))
noncomputable abbrev e_ckWithin:En:=⟨prog,eU,[(11,Fa)],[],noP⟩
theorem AZ(a0_p:Lt.Program)(KK:Bool->Prop):qJ a0_p KK=ao e_ckWithin f22 vC [.st .Program] [.bo] a0_p KK:=kQ0
theorem Lh:Cont prog 22 w6:=k1 e_ckWithin (En.okc Tv En.ok0) (fn:=f22) vC (fun a0_p hp KK h=>Eq.mp (AZ a0_p KK) (DR a0_p hp KK h))
def rO:CKt:=ap [.st .Program,.s] [.st .Class,.bo] (fun x=>bQ x.1 x.2)
def gk:An:=.s .l (.s .l .l)
def gn:CKt:=apT (cn ⟨prog,eU,[],[],noP⟩ f50 gk)
def oh:An:=.s .l (.s (.s .l (.b (.lp ⟨[1,2,6,11,12,100000,100001,100002,100004,100005,100006,100007,100008],[.loc 1002,.loc 1004,.loc 6],[],[.sl 13 (.i .i64)]⟩ (.s .l (.s (.c .l .l) (.s (.b (.s .l (.s .l (.c (.s .l .l) .l)))) .l)))))) (.s .l (.s .l .l)))
def pX:CKt:=apT (cn ⟨prog,eU,[(50,gn)],[],noP⟩ f158 oh)
def BM:An:=.s .l (.s .l .l)
noncomputable abbrev e_tClass:En:=⟨prog,eU,[(158,pX)],[],noP⟩
theorem JW(a0_p:Lt.Program)(a1_name:List UInt8)(KK:(Lt.Class×Bool)->Prop):xz a0_p a1_name KK=ao e_tClass f95 BM [.st .Program,.s] [.st .Class,.bo] (a0_p,a1_name) KK:=kQ0
theorem yq:Cont prog 95 rO:=k0 e_tClass (En.okc (aC (kI (En.okc (aC (kI En.ok0 (fn:=f50))) En.ok0) (fn:=f158))) En.ok0) (fn:=f95) BM (fun(a0_p,a1_name) KK h=>JW a0_p a1_name KK ▸ (LR a0_p a1_name KK h))
def xe:CKt:=ap [.st .Program,.s] [.bo] (fun x=>iS x.1 x.2)
def BQ:An:=.s .l (.s .l (.j ⟨[],[],[],[.sl 4 .bo]⟩ .l .l))
noncomputable abbrev e_tKnown:En:=⟨prog,eU,[(95,rO)],[],noP⟩
theorem J0(a0_p:Lt.Program)(a1_t:List UInt8)(KK:Bool->Prop):xD a0_p a1_t KK=ao e_tKnown f56 BQ [.st .Program,.s] [.bo] (a0_p,a1_t) KK:=kQ0
theorem GF:Cont prog 56 xe:=k0 e_tKnown (En.okc yq En.ok0) (fn:=f56) BQ (fun(a0_p,a1_t) KK h=>Eq.mp (J0 a0_p a1_t KK) (LW a0_p a1_t KK h))
def vn:CKt:=ap [.st .Program,(.sl (.st .Var))] [.bo] (fun x=>cP x.1 x.2)
def fO:An:=.s .l (.s .l .l)
def gj:CKt:=apT (cn ⟨prog,eU,[],[],noP⟩ f94 fO)
def en:An:=.s .l (.s .l .l)
def eB:CKt:=apT (cn ⟨prog,eU,[],[],noP⟩ f94 en)
def lZ:An:=.s .l (.s .l (.s (.s .l (.b (.lp ⟨[1,5,9,10,100001,100002,100007,100008,100009,100010,100019],[.loc 1002],[],[.sl 11 (.i .i64),.mp (.gh 8) .s .bo]⟩ (.s .l (.s (.c .l .l) (.s (.b (.s .l (.s (.s .l (.c (.s .l .l) .l)) .l))) .l)))))) (.s .l .l)))
def mK:CKt:=apT (cn ⟨prog,eU,[(94,(zR 17 gj eB))],[],noP⟩ f93 lZ)
def sr:An:=.s .l (.s (.s .l (.b (.lp ⟨[1,2,7,8],[.loc 2],[],[.sl 9 (.i .i64)]⟩ (.s .l (.s (.c .l .l) (.s (.b (.s .l (.s .l (.c (.s .l .l) .l)))) .l)))))) (.s .l .l))
noncomputable abbrev e_tDeclared:En:=⟨prog,eU,[(56,xe),(93,mK)],[],noP⟩
theorem Ae(a0_p:Lt.Program)(a1_l:List Lt.Var)(KK:Bool->Prop):nX a0_p a1_l KK=ao e_tDeclared f55 sr [.st .Program,(.sl (.st .Var))] [.bo] (a0_p,a1_l) KK:=kQ0
theorem GD:Cont prog 55 vn:=k0 e_tDeclared (En.okc GF (En.okc (aC (kI (En.okc (gY (aC (kI En.ok0 (fn:=f94))) (aC (kI En.ok0 (fn:=f94)))) En.ok0) (fn:=f93))) En.ok0)) (fn:=f55) sr (fun(a0_p,a1_l) KK h=>Ae a0_p a1_l KK ▸ (AE a0_p a1_l KK h))
def Fk:CKt:=bd [.st .Program] [.bo] (fun x=>kf x) (fun x=>eX x)
def fH:An:=.s .l (.s .l .l)
def fK:CKt:=apT (cn ⟨prog,eU,[],[],noP⟩ f50 fH)
def dS:An:=.s .l (.s .l .l)
def eh:CKt:=apT (cn ⟨prog,eU,[],[],noP⟩ f50 dS)
def mT:An:=.s .l (.s .l (.s (.s .l (.b (.lp ⟨[1,5,9,10,100000,100001,100002,100008,100009],[.loc 1001],[],[.sl 11 (.i .i64),.mp (.gh 8) .s .bo]⟩ (.s .l (.s (.c .l .l) (.s (.b (.s .l (.s (.s .l (.c (.s .l .l) .l)) .l))) .l)))))) (.s .l .l)))
def nI:CKt:=apT (cn ⟨prog,eU,[(50,(zR 17 fK eh))],[],noP⟩ f49 mT)
def eC:An:=.s .l (.s .l .l)
def fd:CKt:=apT (cn ⟨prog,eU,[],[],noP⟩ f52 eC)
def dA:An:=.s .l (.s .l .l)
def dC:CKt:=apT (cn ⟨prog,eU,[],[],noP⟩ f52 dA)
def lY:An:=.s .l (.s .l (.s (.s .l (.b (.lp ⟨[1,5,9,10,100000,100001,100002,100008,100009,100010,100011,100012,100013,100014],[.loc 2001],[],[.sl 11 (.i .i64),.mp (.gh 8) .s .bo]⟩ (.s .l (.s (.c .l .l) (.s (.b (.s .l (.s (.s .l (.c (.s .l .l) .l)) .l))) .l)))))) (.s .l .l)))
def mJ:CKt:=apT (cn ⟨prog,eU,[(52,(zR 17 fd dC))],[],noP⟩ f51 lY)
def gl:An:=.s .l (.s .l .l)
def gp:CKt:=apT (cn ⟨prog,eU,[],[],noP⟩ f54 gl)
def eD:An:=.s .l (.s .l .l)
def fe:CKt:=apT (cn ⟨prog,eU,[],[],noP⟩ f54 eD)
def nK:An:=.s .l (.s .l (.s (.s .l (.b (.lp ⟨[1,5,9,10,100000,100001,100002,100008,100009,100010,100011,100012,100013,100014,100015,100016,100017,100018,100019,100020],[.loc 1001],[],[.sl 11 (.i .i64),.mp (.gh 8) .s .bo]⟩ (.s .l (.s (.c .l .l) (.s (.b (.s .l (.s (.s .l (.c (.s .l .l) .l)) .l))) .l)))))) (.s .l .l)))
def nS:CKt:=apT (cn ⟨prog,eU,[(54,(zR 17 gp fe))],[],noP⟩ f53 nK)
def BO:An:=.s .l (.s (.j ⟨[1],[.loc 1],[],[.sl 30 .bo]⟩ .l (.c (.s .l .l) .l)) (.s (.s .l (.b (.lp ⟨[1,32,33],[.loc 1],[],[.sl 34 (.i .i64)]⟩ (.s .l (.s (.c .l .l) (.s (.b (.s .l (.s .l (.c (.s .l .l) .l)))) .l)))))) (.s (.s .l (.b (.lp ⟨[1,45,46],[.loc 1],[],[.sl 47 (.i .i64)]⟩ (.s .l (.s (.c .l .l) (.s (.b (.s .l (.j ⟨[1,6,45,46,47],[.loc 1,.loc 6],[],[.ow 7 [.fr,.fr] (.st .Var)]⟩ .l (.j ⟨[1,45,46,47],[.loc 1],[],[.sl 68 .bo]⟩ .l (.c (.s .l .l) .l))))) .l)))))) (.s .l .l))))
noncomputable abbrev e_tHeads:En:=⟨prog,eU,[(49,nI),(51,mJ),(53,nS),(55,vn),(56,xe)],[],noP⟩
theorem JY(a0_p:Lt.Program)(KK:Bool->Prop):xB a0_p KK=ao e_tHeads f24 BO [.st .Program] [.bo] a0_p KK:=kQ0
theorem TM:Cont prog 24 Fk:=k1 e_tHeads (En.okc (aC (kI (En.okc (gY (aC (kI En.ok0 (fn:=f50))) (aC (kI En.ok0 (fn:=f50)))) En.ok0) (fn:=f49))) (En.okc (aC (kI (En.okc (gY (aC (kI En.ok0 (fn:=f52))) (aC (kI En.ok0 (fn:=f52)))) En.ok0) (fn:=f51))) (En.okc (aC (kI (En.okc (gY (aC (kI En.ok0 (fn:=f54))) (aC (kI En.ok0 (fn:=f54)))) En.ok0) (fn:=f53))) (En.okc GD (En.okc GF En.ok0))))) (fn:=f24) BO (fun a0_p hp KK h=>JY a0_p KK ▸ (LU a0_p hp KK h))
def Bg:CKt:=bd [.st .Func] [.bo] (fun x=>Mt x) (fun x=>e9 x)
def p5:An:=.s .l (.s .l (.s (.s .l (.b (.lp ⟨[4,14,15,100000,100001,100002,100007,100008,100009,100010,100012],[.loc 1001],[],[.sl 16 (.i .i64),.mp (.gh 12) .s (.i .i64)]⟩ (.s .l (.s (.c .l .l) (.s (.b (.s .l (.s (.s .l (.s .l (.c (.s .l .l) .l))) .l))) .l)))))) (.s .l .l)))
def qA:CKt:=apT (cn ⟨prog,eU,[],[],noP⟩ f57 p5)
def so:An:=.s .l (.s (.s .l (.b (.lp ⟨[1,13,14,100000,100001,100002,100003,100004,100007,100008,100009,100010,100011,100012,100013,100014,100015,100016,100017,100018,100019,100020],[.gh 1012,.loc 2001],[],[.sl 15 (.i .i64)]⟩ (.s .l (.s (.c .l .l) (.s (.b (.s .l (.s .l (.s .l (.b (.lp ⟨[1,7,13,14,15,22,23,100000,100001,100002,100003,100004,100007,100008,100009,100010,100011,100012,100013,100014,100015,100016,100017,100018,100019,100020],[.gh 1012,.loc 2001],[],[.sl 24 (.i .i64),.mp (.gh 19) .s .bo]⟩ (.s .l (.s (.c .l .l) (.s (.b (.s .l (.s (.s .l (.j ⟨[1,7,9,13,14,15,22,23,24,100000,100001,100002,100003,100004,100007,100008,100009,100010,100011,100012,100013,100014,100015,100016,100017,100018,100019,100020],[.gh 1012,.gh 19,.loc 2001],[],[.sl 44 .bo]⟩ .l (.c (.s .l .l) .l))) .l))) .l))))))))) .l)))))) (.s .l .l))
def tN:CKt:=apT (cn ⟨prog,eU,[],[],noP⟩ f58 so)
def sm:An:=.s .l (.s .l (.s .l (.s .l (.s (.b (.lp ⟨[1,2,100000,100001,100002,100003,100004,100007,100008,100009,100010,100011,100012,100013,100014,100015,100016,100017,100018,100019,100020,100021,100022,100023,100024,100025],[.gh 1012,.loc 2,.loc 2001],[],[.ow 5 [.fr] .bo,.ow 6 [.fr] (.i .i64)]⟩ (.s (.s .l (.c .l .l)) (.b (.j ⟨[1,2,5,6,100000,100001,100002,100003,100004,100007,100008,100009,100010,100011,100012,100013,100014,100015,100016,100017,100018,100019,100020,100021,100022,100023,100024,100025],[.gh 1012,.gh 900005,.gh 900006,.loc 2,.loc 2001],[(7,.loc 7,0)],[.rt (.loc 7) [.fr,.fr,.fr,.fr,.fr,.fr,.fr,.fr,.fr] (.st .Block)]⟩ .l (.s .l (.s .l (.b (.lp ⟨[1,2,38,39,100000,100001,100002,100003,100004,100007,100008,100009,100010,100011,100012,100013,100014,100015,100016,100017,100018,100019,100020,100021,100022,100023,100024,100025],[.gh 1012,.loc 2,.loc 2001],[],[.ow 5 [.fr] .bo,.ow 6 [.fr] (.i .i64),.sl 40 (.i .i64)]⟩ (.s .l (.s (.c .l .l) (.j ⟨[1,2,38,39,40,100000,100001,100002,100003,100004,100007,100008,100009,100010,100011,100012,100013,100014,100015,100016,100017,100018,100019,100020,100021,100022,100023,100024,100025],[.gh 1012,.loc 2,.loc 2001],[],[.ow 5 [.fr] .bo,.ow 6 [.fr] (.i .i64)]⟩ (.b (.s .l (.s .l (.s .l (.c (.s .l .l) .l))))) .l)))))))))))) (.s .l .l)))))
def tM:CKt:=apT (cn ⟨prog,eU,[],eR,noP⟩ f59 sm)
def x4:An:=.s .l (.s (.s .l (.c (.s .l .l) .l)) (.s .l (.s (.s .l (.c (.s .l .l) .l)) (.s (.s .l (.b (.lp ⟨[26,27],[.gh 900005],[],[.sl 28 (.i .i64)]⟩ (.s .l (.s (.c .l .l) (.s (.b (.s .l (.s .l (.c (.s .l .l) .l)))) .l)))))) (.s .l .l)))))
noncomputable abbrev e_shRight:En:=⟨prog,eU,[(57,qA),(58,tN),(59,tM)],[],noP⟩
theorem ES(a0_f:Lt.Func)(KK:Bool->Prop):tY a0_f KK=ao e_shRight f26 x4 [.st .Func] [.bo] a0_f KK:=kQ0
theorem P8:Cont prog 26 Bg:=k1 e_shRight (En.okc (aC (kI En.ok0 (fn:=f57))) (En.okc (aC (kI En.ok0 (fn:=f58))) (En.okc (aC (kI En.ok0 (fn:=f59))) En.ok0))) (fn:=f26) x4 (fun a0_f hp KK h=>ES a0_f KK ▸ (Iz a0_f hp KK h))
def nT:CKt:=ap [.st .Func,.s] [.st .Var,.bo] (fun x=>kj x.1 x.2)
def gu:An:=.s .l (.s .l .l)
def gX:CKt:=apT (cn ⟨prog,eU,[],[],noP⟩ f94 gu)
def nJ:An:=.s .l (.s (.s .l (.b (.lp ⟨[1,2,6,11,12,100000,100001,100002,100004,100005,100009,100010,100011],[.loc 1002,.loc 1004,.loc 6],[],[.sl 13 (.i .i64)]⟩ (.s .l (.s (.c .l .l) (.s (.b (.s .l (.s .l (.c (.s .l .l) .l)))) .l)))))) (.s .l (.s .l .l)))
def nR:CKt:=apT (cn ⟨prog,eU,[(94,gX)],[],noP⟩ f202 nJ)
def fh:An:=.s .l (.s .l .l)
def fG:CKt:=apT (cn ⟨prog,eU,[],[],noP⟩ f94 fh)
def kq:An:=.s .l (.s (.s .l (.b (.lp ⟨[1,2,6,11,12,100001,100002,100004,100006,100007,100015,100017,100018,100019],[.loc 1002,.loc 1004,.loc 1006,.loc 6],[],[.sl 13 (.i .i64)]⟩ (.s .l (.s (.c .l .l) (.s (.b (.s .l (.s .l (.c (.s .l .l) .l)))) .l)))))) (.s .l (.s .l .l)))
def lq:CKt:=apT (cn ⟨prog,eU,[(94,fG)],[],noP⟩ f202 kq)
def sv:An:=.s .l (.s (.j ⟨[1,2,4],[.loc 2,.loc 4],[(6,.loc 6,0)],[.sl 7 .bo,.rt (.loc 6) [.fr,.fr] (.st .Var)]⟩ .l (.s .l (.c (.s .l .l) .l))) (.s .l .l))
noncomputable abbrev e_tVariable:En:=⟨prog,eU,[(202,(zR 10 nR lq))],[],noP⟩
theorem Af(a0_f:Lt.Func)(a1_name:List UInt8)(KK:(Lt.Var×Bool)->Prop):nY a0_f a1_name KK=ao e_tVariable f159 sv [.st .Func,.s] [.st .Var,.bo] (a0_f,a1_name) KK:=kQ0
theorem vG:Cont prog 159 nT:=k0 e_tVariable (En.okc (gY (aC (kI (En.okc (aC (kI En.ok0 (fn:=f94))) En.ok0) (fn:=f202))) (aC (kI (En.okc (aC (kI En.ok0 (fn:=f94))) En.ok0) (fn:=f202)))) En.ok0) (fn:=f159) sv (fun(a0_f,a1_name) KK h=>Af a0_f a1_name KK ▸ (AF a0_f a1_name KK h))
def Si:CKt:=ap [.st .Func,.st .Arg] [.s,.bo] (fun x=>iL x.1 x.2)
def Td:An:=.s .l (.s (.s .l (.b (.s .l (.c (.s .l (.s .l .l)) (.s .l (.c (.s .l .l) (.s .l (.c (.s .l .l) (.s .l (.c (.s .l .l) .l)))))))))) (.s .l .l))
noncomputable abbrev e_tOf:En:=⟨prog,eU,[(159,nT)],[],noP⟩
theorem VL(a0_f:Lt.Func)(a1_a:Lt.Arg)(KK:(List UInt8×Bool)->Prop):SF a0_f a1_a KK=ao e_tOf f98 Td [.st .Func,.st .Arg] [.s,.bo] (a0_f,a1_a) KK:=kQ0
theorem Yx:Cont prog 98 Si:=k0 e_tOf (En.okc vG En.ok0) (fn:=f98) Td (fun(a0_f,a1_a) KK h=>Eq.mp (VL a0_f a1_a KK) (Xl a0_f a1_a KK h))
def Se:CKt:=bd [.st .Program,.st .Func,.st .Instr] [.st .asked,.bo] (fun x=>sY x.1 x.2.1 x.2.2) (fun x=>nN x.1 x.2.1 x.2.2)
def Oa:An:=.s .l (.s .l (.s (.j ⟨[3,4,5,6,8],[.loc 3,.loc 4,.loc 5,.loc 6,.loc 8],[],[.sl 40 .bo]⟩ .l (.c (.s .l .l) .l)) (.s .l (.j ⟨[4,5,6,10],[.loc 4,.loc 5,.loc 6],[],[.rt (.loc 10) [.fr,.fr,.fr,.fr,.fr,.fr,.fr,.fr,.fr,.fr,.fr,.fr,.ow []] (.st .asked)]⟩ (.s .l (.c (.s .l (.s (.s .l (.c (.s .l .l) .l)) .l)) .l)) (.s (.s .l (.b (.lp ⟨[4,6,10,61,62],[.loc 4,.loc 6],[],[.sl 63 (.i .i64),.rt (.loc 10) [.fr,.fr,.fr,.fr,.fr,.fr,.fr,.fr,.fr,.fr,.fr,.fr,.ow [.fr]] (.st .asked)]⟩ (.s .l (.s (.c .l .l) (.s (.b (.s .l (.s .l (.s (.s .l (.c (.s .l .l) .l)) .l)))) .l)))))) (.s .l .l))))))
noncomputable abbrev e_tAsk:En:=⟨prog,eU,[(98,Si),(147,YS),(159,nT)],eO,noP⟩
theorem RG(a0_p:Lt.Program)(a1_f:Lt.Func)(a2_i:Lt.Instr)(KK:(Lt.asked×Bool)->Prop):KC a0_p a1_f a2_i KK=ao e_tAsk f96 Oa [.st .Program,.st .Func,.st .Instr] [.st .asked,.bo] (a0_p,a1_f,a2_i) KK:=kQ0
theorem Zp:Cont prog 96 Se:=k1 e_tAsk (En.okc Yx (En.okc aaR (En.okc vG En.ok0))) (fn:=f96) Oa (fun(a0_p,a1_f,a2_i) hp KK h=>RG a0_p a1_f a2_i KK ▸ (Uv a0_p a1_f a2_i hp KK h))
def CG:CKt:=ap [.s] [.bo] (fun x=>mq x)
def Oe:An:=.s .l (.s .l .l)
theorem RL(a0_t:List UInt8)(KK:Bool->Prop):KF a0_t KK=ao eZ f168 Oe [.s] [.bo] a0_t KK:=kQ0
theorem Lj:Cont prog 168 CG:=k0 eZ En.ok0 (fn:=f168) Oe (fun a0_t KK h=>Eq.mp (RL a0_t KK) (Uy a0_t KK h))
def rR:CKt:=ap [.s,.s] [.bo] (fun x=>fp x.1 x.2)
def Gg:An:=.s .l (.j ⟨[],[],[],[.sl 4 .bo]⟩ .l .l)
noncomputable abbrev e_tFits:En:=⟨prog,eU,[(168,CG)],[],noP⟩
theorem M7(a0_have:List UInt8)(a1_want:List UInt8)(KK:Bool->Prop):C5 a0_have a1_want KK=ao e_tFits f99 Gg [.s,.s] [.bo] (a0_have,a1_want) KK:=kQ0
theorem wD:Cont prog 99 rR:=k0 e_tFits (En.okc Lj En.ok0) (fn:=f99) Gg (fun(a0_have,a1_want) KK h=>Eq.mp (M7 a0_have a1_want KK) (QQ a0_have a1_want KK h))
def NF:CKt:=ap [.st .asked,.s,.s] [.bo] (fun x=>lm x.1 x.2.1 x.2.2)
def Gj:An:=.s .l (.s (.s .l (.b (.lp ⟨[1,2,3,10,11],[.loc 3],[],[.sl 12 (.i .i64)]⟩ (.s .l (.s (.c .l .l) (.s (.b (.s .l (.s .l (.c (.s .l .l) .l)))) .l)))))) (.s .l .l))
theorem Na(a0_q:Lt.asked)(a1_args:List UInt8)(a2_dst:List UInt8)(KK:Bool->Prop):C8 a0_q a1_args a2_dst KK=ao eZ f160 Gj [.st .asked,.s,.s] [.bo] (a0_q,a1_args,a2_dst) KK:=kQ0
theorem WP:Cont prog 160 NF:=k0 eZ En.ok0 (fn:=f160) Gj (fun(a0_q,a1_args,a2_dst) KK h=>Eq.mp (Na a0_q a1_args a2_dst KK) (QT a0_q a1_args a2_dst KK h))
def Kj:CKt:=ap [.sl .s,(.sl (.st .Var))] [.bo] (fun x=>ki x.1 x.2)
def Oc:An:=.s .l (.s (.s .l (.c (.s .l .l) .l)) (.s (.s .l (.b (.lp ⟨[1,12,13],[],[],[.sl 14 (.i .i64)]⟩ (.s .l (.s (.c .l .l) (.s (.b (.s .l (.s .l (.c (.s .l .l) .l)))) .l)))))) (.s .l .l)))
noncomputable abbrev e_tFit:En:=⟨prog,eU,[(99,rR)],[],noP⟩
theorem RK(a0_args:List (List UInt8))(a1_l:List Lt.Var)(KK:Bool->Prop):KE a0_args a1_l KK=ao e_tFit f166 Oc [.sl .s,(.sl (.st .Var))] [.bo] (a0_args,a1_l) KK:=kQ0
theorem TL:Cont prog 166 Kj:=k0 e_tFit (En.okc wD En.ok0) (fn:=f166) Oc (fun(a0_args,a1_l) KK h=>Eq.mp (RK a0_args a1_l KK) (Ux a0_args a1_l KK h))
def Fo:CKt:=ap [.st .asked] [.bo] (fun x=>Aa x)
def BR:An:=.s .l (.s .l (.j ⟨[],[],[],[.sl 2 .bo]⟩ .l .l))
noncomputable abbrev e_tqMade:En:=⟨prog,eU,[(95,rO),(166,Kj)],[],noP⟩
theorem J8(a0_q:Lt.asked)(KK:Bool->Prop):xE a0_q KK=ao e_tqMade f161 BR [.st .asked] [.bo] a0_q KK:=kQ0
theorem TO:Cont prog 161 Fo:=k0 e_tqMade (En.okc yq (En.okc TL En.ok0)) (fn:=f161) BR (fun a0_q KK h=>Eq.mp (J8 a0_q KK) (LX a0_q KK h))
def Fj:CKt:=ap [.st .Program,.s,.s] [.st .Var,.bo] (fun x=>pS x.1 x.2.1 x.2.2)
def jc:An:=.s .l (.s .l .l)
def jJ:CKt:=apT (cn ⟨prog,eU,[],[],noP⟩ f94 jc)
def qQ:An:=.s .l (.s (.s .l (.b (.lp ⟨[1,2,6,11,12,100000,100001,100002,100003,100006,100007,100008,100009,100010,100011,100012,100013,100014,100015,100016,100017,100019,100020,100021],[.loc 1003,.loc 1006,.loc 1008,.loc 6],[],[.sl 13 (.i .i64)]⟩ (.s .l (.s (.c .l .l) (.s (.b (.s .l (.s .l (.c (.s .l .l) .l)))) .l)))))) (.s .l (.s .l .l)))
def rQ:CKt:=apT (cn ⟨prog,eU,[(94,jJ)],[],noP⟩ f202 qQ)
def BN:An:=.s .l (.s .l (.s (.s .l (.c (.s .l .l) .l)) (.s .l .l)))
noncomputable abbrev e_tField:En:=⟨prog,eU,[(95,rO),(202,rQ)],[],noP⟩
theorem JX(a0_p:Lt.Program)(a1_class:List UInt8)(a2_name:List UInt8)(KK:(Lt.Var×Bool)->Prop):xA a0_p a1_class a2_name KK=ao e_tField f203 BN [.st .Program,.s,.s] [.st .Var,.bo] (a0_p,a1_class,a2_name) KK:=kQ0
theorem TJ:Cont prog 203 Fj:=k0 e_tField (En.okc yq (En.okc (aC (kI (En.okc (aC (kI En.ok0 (fn:=f94))) En.ok0) (fn:=f202))) En.ok0)) (fn:=f203) BN (fun(a0_p,a1_class,a2_name) KK h=>JX a0_p a1_class a2_name KK ▸ (LS a0_p a1_class a2_name KK h))
def Bl:CKt:=bd [.st .asked] [.st .Var,.bo] (fun x=>Ej x) (fun x=>gc x)
def ya:An:=.s .l (.s (.s .l (.c (.s .l .l) .l)) (.s .l .l))
noncomputable abbrev e_tqField:En:=⟨prog,eU,[(203,Fj)],[],noP⟩
theorem EX(a0_q:Lt.asked)(KK:(Lt.Var×Bool)->Prop):ub a0_q KK=ao e_tqField f162 ya [.st .asked] [.st .Var,.bo] a0_q KK:=kQ0
theorem Qd:Cont prog 162 Bl:=k1 e_tqField (En.okc TJ En.ok0) (fn:=f162) ya (fun a0_q hp KK h=>Eq.mp (EX a0_q KK) (IE a0_q hp KK h))
def NE:CKt:=ap [.s,.s] [.bo] (fun x=>Jx x.1 x.2)
def Gi:An:=.s .l (.j ⟨[],[],[],[.sl 4 .bo]⟩ .l .l)
noncomputable abbrev e_tSame:En:=⟨prog,eU,[(168,CG)],[],noP⟩
theorem M9(a0_a:List UInt8)(a1_b:List UInt8)(KK:Bool->Prop):C7 a0_a a1_b KK=ao e_tSame f163 Gi [.s,.s] [.bo] (a0_a,a1_b) KK:=kQ0
theorem WO:Cont prog 163 NE:=k0 e_tSame (En.okc Lj En.ok0) (fn:=f163) Gi (fun(a0_a,a1_b) KK h=>Eq.mp (M9 a0_a a1_b KK) (QS a0_a a1_b KK h))
def Bk:CKt:=ap [.st .Program,.s] [.st .Var,.bo] (fun x=>eH x.1 x.2)
def iH:An:=.s .l (.s .l .l)
def i7:CKt:=apT (cn ⟨prog,eU,[],[],noP⟩ f94 iH)
def p6:An:=.s .l (.s (.s .l (.b (.lp ⟨[1,2,6,11,12,100000,100001,100002,100004,100005,100006,100007,100008],[.loc 1002,.loc 1004,.loc 6],[],[.sl 13 (.i .i64)]⟩ (.s .l (.s (.c .l .l) (.s (.b (.s .l (.s .l (.c (.s .l .l) .l)))) .l)))))) (.s .l (.s .l .l)))
def qC:CKt:=apT (cn ⟨prog,eU,[(94,i7)],[],noP⟩ f202 p6)
def x8:An:=.s .l (.s .l .l)
noncomputable abbrev e_tGlobal:En:=⟨prog,eU,[(202,qC)],[],noP⟩
theorem EW(a0_p:Lt.Program)(a1_name:List UInt8)(KK:(Lt.Var×Bool)->Prop):ua a0_p a1_name KK=ao e_tGlobal f204 x8 [.st .Program,.s] [.st .Var,.bo] (a0_p,a1_name) KK:=kQ0
theorem Qc:Cont prog 204 Bk:=k0 e_tGlobal (En.okc (aC (kI (En.okc (aC (kI En.ok0 (fn:=f94))) En.ok0) (fn:=f202))) En.ok0) (fn:=f204) x8 (fun(a0_p,a1_name) KK h=>EW a0_p a1_name KK ▸ (ID a0_p a1_name KK h))
def xf:CKt:=bd [.st .asked] [.bo] (fun x=>Ek x) (fun x=>o6 x)
def vE:An:=.s .l (.s .l (.s (.s .l (.c (.s .l .l) .l)) (.s .l .l)))
noncomputable abbrev e_tqGlobal:En:=⟨prog,eU,[(99,rR),(204,Bk)],[],noP⟩
theorem A2(a0_q:Lt.asked)(KK:Bool->Prop):qM a0_q KK=ao e_tqGlobal f164 vE [.st .asked] [.bo] a0_q KK:=kQ0
theorem Lk:Cont prog 164 xf:=k1 e_tqGlobal (En.okc wD (En.okc Qc En.ok0)) (fn:=f164) vE (fun a0_q hp KK h=>Eq.mp (A2 a0_q KK) (DT a0_q hp KK h))
def NC:CKt:=ap [.st .Program,.s] [.st .Func,.bo] (fun x=>oS x.1 x.2)
def iG:An:=.s .l (.s .l .l)
def iZ:CKt:=apT (cn ⟨prog,eU,[],[],noP⟩ f54 iG)
def qP:An:=.s .l (.s (.s .l (.b (.lp ⟨[1,2,6,11,12,100000,100001,100002,100004,100005,100006,100007,100008],[.loc 1002,.loc 1004,.loc 6],[],[.sl 13 (.i .i64)]⟩ (.s .l (.s (.c .l .l) (.s (.b (.s .l (.s .l (.c (.s .l .l) .l)))) .l)))))) (.s .l (.s .l .l)))
def rP:CKt:=apT (cn ⟨prog,eU,[(54,iZ)],[],noP⟩ f205 qP)
def Gh:An:=.s .l (.s .l .l)
noncomputable abbrev e_tFunc:En:=⟨prog,eU,[(205,rP)],[],noP⟩
theorem M8(a0_p:Lt.Program)(a1_name:List UInt8)(KK:(Lt.Func×Bool)->Prop):C6 a0_p a1_name KK=ao e_tFunc f165 Gh [.st .Program,.s] [.st .Func,.bo] (a0_p,a1_name) KK:=kQ0
theorem WN:Cont prog 165 NC:=k0 e_tFunc (En.okc (aC (kI (En.okc (aC (kI En.ok0 (fn:=f54))) En.ok0) (fn:=f205))) En.ok0) (fn:=f165) Gh (fun(a0_p,a1_name) KK h=>M8 a0_p a1_name KK ▸ (QR a0_p a1_name KK h))
def Bj:CKt:=ap [.st .Program,.s] [.st .Extern,.bo] (fun x=>mn x.1 x.2)
def fg:An:=.s .l (.s .l .l)
def fF:CKt:=apT (cn ⟨prog,eU,[],[],noP⟩ f52 fg)
def mS:An:=.s .l (.s (.s .l (.b (.lp ⟨[1,2,6,11,12,100000,100001,100002,100004,100005,100006,100007,100008],[.loc 1002,.loc 1004,.loc 6],[],[.sl 13 (.i .i64)]⟩ (.s .l (.s (.c .l .l) (.s (.b (.s .l (.s .l (.c (.s .l .l) .l)))) .l)))))) (.s .l (.s .l .l)))
def nH:CKt:=apT (cn ⟨prog,eU,[(52,fF)],[],noP⟩ f206 mS)
def x7:An:=.s .l (.s .l .l)
noncomputable abbrev e_tExtern:En:=⟨prog,eU,[(206,nH)],[],noP⟩
theorem EV(a0_p:Lt.Program)(a1_name:List UInt8)(KK:(Lt.Extern×Bool)->Prop):t8 a0_p a1_name KK=ao e_tExtern f167 x7 [.st .Program,.s] [.st .Extern,.bo] (a0_p,a1_name) KK:=kQ0
theorem Qb:Cont prog 167 Bj:=k0 e_tExtern (En.okc (aC (kI (En.okc (aC (kI En.ok0 (fn:=f52))) En.ok0) (fn:=f206))) En.ok0) (fn:=f167) x7 (fun(a0_p,a1_name) KK h=>EV a0_p a1_name KK ▸ (IC a0_p a1_name KK h))
def Bm:CKt:=bd [.st .asked] [.bo] (fun x=>ru x) (fun x=>tB x)
def yb:An:=.s .l (.s (.s .l (.b (.s .l (.c (.s .l .l) (.s .l (.c (.s .l .l) (.s .l (.c (.s .l .l) .l)))))))) (.s (.s .l (.b (.s .l (.c (.s .l .l) (.s .l (.c (.s .l .l) (.s .l (.c (.s .l .l) (.s .l (.c (.s .l .l) (.s .l (.c (.s .l (.s .l .l)) (.s .l (.c (.s .l (.s .l .l)) (.s .l (.c (.s .l .l) (.j ⟨[1,32],[.loc 1],[],[.sl 102 .bo]⟩ (.s .l (.c .l .l)) (.c (.s .l .l) (.s .l (.c (.s .l (.j ⟨[],[],[],[.sl 2 .bo]⟩ .l .l)) (.s .l (.c (.s .l (.j ⟨[],[],[],[.sl 2 .bo]⟩ .l .l)) (.s .l (.c (.s .l .l) .l)))))))))))))))))))))))) (.s .l .l)))
noncomputable abbrev e_tqRight:En:=⟨prog,eU,[(99,rR),(160,NF),(161,Fo),(162,Bl),(163,NE),(164,xf),(165,NC),(166,Kj),(167,Bj),(168,CG)],[],noP⟩
theorem EY(a0_q:Lt.asked)(KK:Bool->Prop):uc a0_q KK=ao e_tqRight f97 yb [.st .asked] [.bo] a0_q KK:=kQ0
theorem Qe:Cont prog 97 Bm:=k1 e_tqRight (En.okc wD (En.okc WP (En.okc TO (En.okc Qd (En.okc WO (En.okc Lk (En.okc WN (En.okc TL (En.okc Qb (En.okc Lj En.ok0)))))))))) (fn:=f97) yb (fun a0_q hp KK h=>Eq.mp (EY a0_q KK) (IF a0_q hp KK h))
def Fm:CKt:=bd [.st .Program,.st .Func,.st .Instr] [.bo] (fun x=>U8 x.1 x.2.1 x.2.2) (fun x=>ny x.1 x.2.1 x.2.2)
def BP:An:=.s .l (.s .l (.s .l .l))
noncomputable abbrev e_tInstr:En:=⟨prog,eU,[(96,Se),(97,Bm)],[],noP⟩
theorem JZ(a0_p:Lt.Program)(a1_f:Lt.Func)(a2_i:Lt.Instr)(KK:Bool->Prop):xC a0_p a1_f a2_i KK=ao e_tInstr f60 BP [.st .Program,.st .Func,.st .Instr] [.bo] (a0_p,a1_f,a2_i) KK:=kQ0
theorem TN:Cont prog 60 Fm:=k1 e_tInstr (En.okc Zp (En.okc Qe En.ok0)) (fn:=f60) BP (fun(a0_p,a1_f,a2_i) hp KK h=>Eq.mp (JZ a0_p a1_f a2_i KK) (LV a0_p a1_f a2_i hp KK h))
def Sf:CKt:=ap [.st .Func,.st .Term] [.bo] (fun x=>vR x.1 x.2)
def Ob:An:=.s .l (.s .l (.s (.s .l (.b (.s .l (.c (.s .l .l) (.s .l (.c (.s .l .l) (.s .l (.c (.s .l .l) (.s .l (.c (.s .l .l) .l)))))))))) (.s .l .l)))
noncomputable abbrev e_tEnd:En:=⟨prog,eU,[(98,Si),(99,rR)],[],noP⟩
theorem RJ(a0_f:Lt.Func)(a1_t:Lt.Term)(KK:Bool->Prop):KD a0_f a1_t KK=ao e_tEnd f61 Ob [.st .Func,.st .Term] [.bo] (a0_f,a1_t) KK:=kQ0
theorem Zq:Cont prog 61 Sf:=k0 e_tEnd (En.okc Yx (En.okc wD En.ok0)) (fn:=f61) Ob (fun(a0_f,a1_t) KK h=>Eq.mp (RJ a0_f a1_t KK) (Uw a0_f a1_t KK h))
def Bb:CKt:=bd [.st .Program,.st .Func] [.bo] (fun x=>kh x.1 x.2) (fun x=>mZ x.1 x.2)
def xX:An:=.s .l (.s (.s .l (.b (.lp ⟨[2,3,10,11],[.loc 2,.loc 3],[],[.sl 12 (.i .i64)]⟩ (.s .l (.s (.c .l .l) (.s (.b (.s .l (.s (.s .l (.b (.lp ⟨[2,3,6,10,11,12,17,18],[.loc 2,.loc 3,.loc 6],[],[.sl 19 (.i .i64)]⟩ (.s .l (.s (.c .l .l) (.s (.b (.s .l (.s .l (.c (.s .l .l) .l)))) .l)))))) (.s .l (.c (.s .l .l) .l))))) .l)))))) (.s .l .l))
noncomputable abbrev e_ckTyped:En:=⟨prog,eU,[(60,Fm),(61,Sf)],[],noP⟩
theorem EP(a0_p:Lt.Program)(a1_f:Lt.Func)(KK:Bool->Prop):tV a0_p a1_f KK=ao e_ckTyped f28 xX [.st .Program,.st .Func] [.bo] (a0_p,a1_f) KK:=kQ0
theorem P3:Cont prog 28 Bb:=k1 e_ckTyped (En.okc TN (En.okc Zq En.ok0)) (fn:=f28) xX (fun(a0_p,a1_f) hp KK h=>Eq.mp (EP a0_p a1_f KK) (Iw a0_p a1_f hp KK h))
def wX:CKt:=bd [.mp .s .bo,.st .Block] [.mp .s .bo] (fun x=>qt x.1 x.2) (fun x=>iI x.1 x.2)
def Bz:An:=.s .l (.s .l (.s (.s .l (.b (.lp ⟨[5,11,12],[],[],[.sl 13 (.i .i64),.mp (.gh 800000) .s .bo]⟩ (.s .l (.s (.c .l .l) (.j ⟨[5,11,12,13],[],[],[.mp (.gh 800000) .s .bo]⟩ (.b (.s .l (.s .l (.c .l .l)))) .l)))))) (.s .l .l)))
noncomputable abbrev e_aqOver:En:=⟨prog,eU,[(106,xa)],[],noP⟩
theorem JJ(a0_s:Option (List ((List UInt8)×Bool)))(a1_b:Lt.Block)(KK:(Option (List ((List UInt8)×Bool)))->Prop):xm a0_s a1_b KK=ao e_aqOver f64 Bz [.mp .s .bo,.st .Block] [.mp .s .bo] (a0_s,a1_b) KK:=kQ0
theorem Gz:Cont prog 64 wX:=k1 e_aqOver (En.okc yn En.ok0) (fn:=f64) Bz (fun(a0_s,a1_b) hp KK h=>Eq.mp (JJ a0_s a1_b KK) (LC a0_s a1_b hp KK h))
def Bi:CKt:=ap [.st .Func,.s] [.i .i64,.bo] (fun x=>gW x.1 x.2)
def x6:An:=.s .l (.s (.s .l (.b (.lp ⟨[1,9,10],[],[],[.sl 11 (.i .i64)]⟩ (.s .l (.s (.c .l .l) (.s (.b (.s .l (.s .l (.c (.s .l .l) .l)))) .l)))))) (.s .l .l))
theorem EU(a0_f:Lt.Func)(a1_name:List UInt8)(KK:(Int×Bool)->Prop):t7 a0_f a1_name KK=ao eZ f169 x6 [.st .Func,.s] [.i .i64,.bo] (a0_f,a1_name) KK:=kQ0
theorem Qa:Cont prog 169 Bi:=k0 eZ En.ok0 (fn:=f169) x6 (fun(a0_f,a1_name) KK h=>Eq.mp (EU a0_f a1_name KK) (IB a0_f a1_name KK h))
def R6:CKt:=bd [.st .Func] [(.sl (.sl (.i .i64)))] (fun x=>qu x) (fun x=>gD x)
def N4:An:=.s .l (.s .l (.s (.s .l (.b (.lp ⟨[1,15,16],[.loc 1],[],[.ow 3 [.ow [.fr]] (.sl (.i .i64)),.sl 17 (.i .i64)]⟩ (.s .l (.s (.c .l .l) (.s (.b (.s .l (.s .l (.b (.lp ⟨[1,4,15,16,17,24,25],[.loc 1],[],[.ow 3 [.ow [.fr]] (.sl (.i .i64)),.sl 26 (.i .i64)]⟩ (.s .l (.s (.c .l .l) (.j ⟨[1,4,15,16,17,24,25,26],[.loc 1],[],[.ow 3 [.ow [.fr]] (.sl (.i .i64))]⟩ (.b (.s .l (.s .l (.s .l (.c .l .l))))) .l)))))))) .l)))))) (.s .l .l)))
noncomputable abbrev e_flOf:En:=⟨prog,eU,[(169,Bi)],eP,noP⟩
theorem Rz(a0_f:Lt.Func)(KK:(List (List Int))->Prop):Kw a0_f KK=ao e_flOf f100 N4 [.st .Func] [(.sl (.sl (.i .i64)))] a0_f KK:=kQ0
theorem Zk:Cont prog 100 R6:=k1 e_flOf (En.okc Qa En.ok0) (fn:=f100) N4 (fun a0_f hp KK h=>Eq.mp (Rz a0_f KK) (Uo a0_f hp KK h))
def Nu:CKt:=ap [(.sl (.i .i64)),.i .i64] [.i .i64] (fun x=>Ce x.1 x.2)
def F6:An:=.s .l (.s (.s .l (.b (.lp ⟨[0,1,7],[],[],[.sl 8 (.i .i64)]⟩ (.s .l (.s (.c .l .l) (.s (.b (.s .l (.s .l (.c (.s .l .l) .l)))) .l)))))) (.s .l .l))
theorem MY(a0_s:List Int)(a1_v:Int)(KK:Int->Prop):CW a0_s a1_v KK=ao eZ f207 F6 [(.sl (.i .i64)),.i .i64] [.i .i64] (a0_s,a1_v) KK:=kQ0
theorem WE:Cont prog 207 Nu:=k0 eZ En.ok0 (fn:=f207) F6 (fun(a0_s,a1_v) KK h=>Eq.mp (MY a0_s a1_v KK) (QH a0_s a1_v KK h))
def Fb:CKt:=IJ [(.sl (.i .i64)),.i .i64] [.bo] (fun x=>True) (fun x=>uI x.1 x.2)
def BE:An:=.s .l (.s .l .l)
noncomputable abbrev e_hasInt:En:=⟨prog,eU,[(207,Nu)],[],noP⟩
theorem JO(a0_s:List Int)(a1_v:Int)(KK:Bool->Prop):Fz a0_s a1_v KK=ao e_hasInt f170 BE [(.sl (.i .i64)),.i .i64] [.bo] (a0_s,a1_v) KK:=kQ0
theorem Ty:Cont prog 170 Fb:=k6 e_hasInt (En.okc WE En.ok0) (fn:=f170) BE (fun(a0_s,a1_v) hp KK h=>Eq.mp (JO a0_s a1_v KK) (LI a0_s a1_v KK h))
def Be:CKt:=bd [(.sl (.sl (.i .i64)))] [(.sl (.sl (.i .i64)))] (fun x=>oP x) (fun x=>eQ x)
def xZ:An:=.s .l (.s .l (.s (.s .l (.b (.lp ⟨[0,11,12],[],[],[.ow 3 [.ow [.fr]] (.sl (.i .i64)),.sl 13 (.i .i64)]⟩ (.s .l (.s (.c .l .l) (.s (.b (.s .l (.s .l (.b (.lp ⟨[0,4,11,12,13,18,19],[],[],[.ow 3 [.ow [.fr]] (.sl (.i .i64)),.sl 20 (.i .i64)]⟩ (.s .l (.s (.c .l .l) (.j ⟨[0,4,11,12,13,18,19,20],[],[],[.ow 3 [.ow [.fr]] (.sl (.i .i64))]⟩ (.b (.s .l (.j ⟨[0,3,4,7,11,12,13,18,19,20],[.gh 900003],[],[.sl 40 .bo]⟩ .l (.c .l .l)))) .l)))))))) .l)))))) (.s .l .l)))
noncomputable abbrev e_flPreds:En:=⟨prog,eU,[(170,Fb)],eP,noP⟩
theorem ER(a0_g:List (List Int))(KK:(List (List Int))->Prop):tX a0_g KK=ao e_flPreds f101 xZ [(.sl (.sl (.i .i64)))] [(.sl (.sl (.i .i64)))] a0_g KK:=kQ0
theorem P5:Cont prog 101 Be:=k1 e_flPreds (En.okc Ty En.ok0) (fn:=f101) xZ (fun a0_g hp KK h=>Eq.mp (ER a0_g KK) (Iy a0_g hp KK h))
def Bc:CKt:=lg [(.sl (.sl (.i .i64)))] [(.sl (.i .i64))] (fun x=>sZ x) (fun x y=>uX x y)
def si:An:=.s .l (.s .l (.s .l (.s (.s .l (.c (.s .l .l) .l)) (.s .l (.s .l (.s (.b (.lp ⟨[0,100000,100002,100006],[],[],[.ow 4 [.fr] .bo,.ow 5 [.fr] (.i .i64),.ow 6 [.fr,.fr] (.st .step)]⟩ (.s (.s .l (.c .l .l)) (.b (.s .l (.s (.s .l (.c (.s .l (.s .l .l)) .l)) (.s .l (.s .l (.j ⟨[0,4,5,6,8,100000,100002,100006],[.gh 900004,.gh 900005,.gh 900006],[],[.sl 88 .bo]⟩ .l (.c (.s .l .l) .l)))))))))) (.s .l .l)))))))
def tK:CKt:=apT (cn ⟨prog,eU,[],eW,noP⟩ f171 si)
def ul:An:=.s .l (.b (.lp ⟨[0,100004,100010],[],[],[.sl 2 (.i .i64),.sl 3 (.i .i64),.gw (.gh 900004) [.fr] (.i .i64)]⟩ (.s (.s .l (.c .l .l)) (.s (.b .l) .l))))
def wb:CKt:=apT (cn ⟨prog,eU,[],eO,noP⟩ f172 ul)
def xY:An:=.s .l (.j ⟨[],[],[],[.ow 4 [.fr] (.i .i64)]⟩ .l (.s .l (.s .l .l)))
noncomputable abbrev e_flOrder:En:=⟨prog,eU,[(171,tK),(172,wb)],eO,noP⟩
theorem EQ(a0_g:List (List Int))(KK:(List Int)->Prop):tW a0_g KK=ao e_flOrder f102 xY [(.sl (.sl (.i .i64)))] [(.sl (.i .i64))] a0_g KK:=kQ0
theorem P4:Cont prog 102 Bc:=k8 e_flOrder (En.okc (aC (kI En.ok0 (fn:=f171))) (En.okc (aC (kI En.ok0 (fn:=f172))) En.ok0)) (fn:=f102) xY (fun a0_g hp KK h=>EQ a0_g KK ▸ (Ix a0_g hp KK h))
def wY:CKt:=ap [.st .Func] [.mp .s .bo] (fun x=>yd x)
def vA:An:=.s .l (.s .l (.s (.s .l (.b (.lp ⟨[3,8,9],[],[],[.sl 10 (.i .i64),.mp (.gh 6) .s .bo]⟩ (.s .l (.s (.c .l .l) (.s (.b (.s .l .l)) .l)))))) (.s .l .l)))
theorem AX(a0_f:Lt.Func)(KK:(Option (List ((List UInt8)×Bool)))->Prop):qH a0_f KK=ao eZ f103 vA [.st .Func] [.mp .s .bo] a0_f KK:=kQ0
theorem Lg:Cont prog 103 wY:=k0 eZ En.ok0 (fn:=f103) vA (fun a0_f KK h=>Eq.mp (AX a0_f KK) (DP a0_f KK h))
def E8:CKt:=lg [.mp .s .bo,.mp .s .bo] [.mp .s .bo] (fun x=>Ei x.1 x.2) (fun x y=>zt x.1 x.2 y)
def BB:An:=.s .l (.s (.s .l (.c (.s .l .l) .l)) (.s .l (.s (.s .l (.b (.lp ⟨[1,5,12],[],[],[.mp (.gh 10) .s .bo,.it (.gh 12) .s .bo]⟩ (.s .l (.s (.c .l .l) (.b (.s .l (.s .l (.c .l .l))))))))) (.s .l .l))))
theorem JL(a0_a:Option (List ((List UInt8)×Bool)))(a1_b:Option (List ((List UInt8)×Bool)))(KK:(Option (List ((List UInt8)×Bool)))->Prop):xp a0_a a1_b KK=ao eZ f104 BB [.mp .s .bo,.mp .s .bo] [.mp .s .bo] (a0_a,a1_b) KK:=kQ0
theorem Tr:Cont prog 104 E8:=k8 eZ En.ok0 (fn:=f104) BB (fun(a0_a,a1_b) hp KK h=>Eq.mp (JL a0_a a1_b KK) (LF a0_a a1_b hp KK h))
def E7:CKt:=bd [.mp .s .bo,.st .Block] [.mp .s .bo] (fun x=>qt x.1 x.2) (fun x=>jP x.1 x.2)
def BA:An:=.s .l (.s .l (.s (.s .l (.b (.lp ⟨[5,11,12],[],[],[.sl 13 (.i .i64),.mp (.gh 800000) .s .bo]⟩ (.s .l (.s (.c .l .l) (.s (.b (.s .l .l)) .l)))))) (.s .l .l)))
noncomputable abbrev e_aqPhis:En:=⟨prog,eU,[(106,xa)],[],noP⟩
theorem JK(a0_s:Option (List ((List UInt8)×Bool)))(a1_b:Lt.Block)(KK:(Option (List ((List UInt8)×Bool)))->Prop):xn a0_s a1_b KK=ao e_aqPhis f105 BA [.mp .s .bo,.st .Block] [.mp .s .bo] (a0_s,a1_b) KK:=kQ0
theorem Tq:Cont prog 105 E7:=k1 e_aqPhis (En.okc yn En.ok0) (fn:=f105) BA (fun(a0_s,a1_b) hp KK h=>Eq.mp (JK a0_s a1_b KK) (LD a0_s a1_b hp KK h))
def Nq:CKt:=lg [.st .Func] [(.sl (.mp .s .bo))] (fun x=>oO x) (fun x y=>pR x y)
def FW:An:=.s .l (.s .l (.s .l (.s .l (.s .l (.s .l (.s (.s .l (.b (.lp ⟨[1,4,5],[.loc 1],[],[.ow 6 [.fr] (.mp .s .bo),.ow 7 [.fr] (.mp .s .bo),.sl 8 .bo]⟩ (.s (.s .l (.c .l .l)) (.b (.s .l (.s .l (.b (.lp ⟨[1,4,5,29,30],[.loc 1],[],[.ow 6 [.fr] (.mp .s .bo),.ow 7 [.fr] (.mp .s .bo),.sl 8 .bo,.sl 31 (.i .i64)]⟩ (.s .l (.s (.c .l .l) (.s (.b (.s .l (.s .l (.j ⟨[1,4,5,6,7,8,10,29,30,31],[.gh 900006,.gh 900007,.loc 1],[],[.sl 11 (.mp .s .bo)]⟩ (.s .l (.c .l .l)) (.s (.s .l (.b (.lp ⟨[1,4,5,6,7,8,10,29,30,31,42,43],[.gh 900006,.gh 900007,.loc 1],[],[.sl 11 (.mp .s .bo),.sl 44 (.i .i64)]⟩ (.s .l (.s (.c .l .l) (.j ⟨[1,4,5,6,7,8,10,29,30,31,42,43,44],[.gh 900006,.gh 900007,.loc 1],[],[.sl 11 (.mp .s .bo)]⟩ (.b (.s .l (.s .l (.c .l .l)))) .l)))))) (.j ⟨[1,4,5,6,7,8,10,29,30,31],[.gh 900006,.gh 900007,.loc 1],[],[.sl 11 (.mp .s .bo)]⟩ (.s .l (.c .l .l)) (.s .l (.j ⟨[1,4,5,6,7,10,11,29,30,31],[.gh 900006,.gh 900007,.loc 1],[],[.sl 8 .bo]⟩ (.j ⟨[1,4,5,6,7,8,10,11,29,30,31],[.gh 900006,.gh 900007,.loc 1],[],[.sl 84 .bo]⟩ .l (.c .l .l)) .l)))))))) .l)))))))))))) (.s .l .l)))))))
noncomputable abbrev e_asAll:En:=⟨prog,eU,[(64,wX),(100,R6),(101,Be),(102,Bc),(103,wY),(104,E8),(105,E7)],[],noP⟩
theorem MU(a0_f:Lt.Func)(KK:(List (Option (List ((List UInt8)×Bool))))->Prop):CR a0_f KK=ao e_asAll f62 FW [.st .Func] [(.sl (.mp .s .bo))] a0_f KK:=kQ0
theorem Wy:Cont prog 62 Nq:=k8 e_asAll (En.okc Gz (En.okc Zk (En.okc P5 (En.okc P4 (En.okc Lg (En.okc Tr (En.okc Tq En.ok0))))))) (fn:=f62) FW (fun a0_f hp KK h=>Eq.mp (MU a0_f KK) (QD a0_f hp KK h))
def Ff:CKt:=lg [.st .Instr] [.sl .s] (fun x=>eV x) (fun x y=>zu x y)
def lX:An:=.s .l (.s .l (.c .l .l))
def mI:CKt:=apT (cn ⟨prog,eU,[],[],noP⟩ f208 lX)
def ja:An:=.s .l (.s .l (.c .l .l))
def jG:CKt:=apT (cn ⟨prog,eU,[],[],noP⟩ f208 ja)
def jb:An:=.s .l (.s .l (.c .l .l))
def jH:CKt:=apT (cn ⟨prog,eU,[],[],noP⟩ f208 jb)
def sk:An:=.s .l (.s (.s .l (.b (.lp ⟨[0,3,15,16,100000,100001,100002,100003,100004,100005,100006],[.loc 1001,.loc 3],[],[.sl 17 (.i .i64),.mp (.gh 1004) .s .bo]⟩ (.s .l (.s (.c .l .l) (.j ⟨[0,3,15,16,17,100000,100001,100002,100003,100004,100005,100006],[.loc 1001,.loc 3],[],[.mp (.gh 1004) .s .bo]⟩ (.b (.s .l .l)) .l)))))) (.s (.s .l (.b (.lp ⟨[0,3,26,27,100000,100001,100002,100003,100004,100005,100006],[.loc 1001,.loc 3],[],[.sl 28 (.i .i64),.mp (.gh 1004) .s .bo]⟩ (.s .l (.s (.c .l .l) (.s (.b (.s .l (.s .l (.b (.lp ⟨[0,3,26,27,28,33,34,100000,100001,100002,100003,100004,100005,100006],[.loc 1001,.loc 3],[],[.sl 35 (.i .i64),.mp (.gh 1004) .s .bo]⟩ (.s .l (.s (.c .l .l) (.j ⟨[0,3,26,27,28,33,34,35,100000,100001,100002,100003,100004,100005,100006],[.loc 1001,.loc 3],[],[.mp (.gh 1004) .s .bo]⟩ (.b (.s .l .l)) .l)))))))) .l)))))) (.s .l (.b (.lp ⟨[0,46,47,100000,100001,100002,100003,100004,100005,100006],[.loc 1001],[],[.sl 48 (.i .i64),.mp (.gh 1004) .s .bo]⟩ (.s .l (.s (.c .l .l) (.s (.b (.s .l (.s .l (.b (.lp ⟨[0,46,47,48,53,54,100000,100001,100002,100003,100004,100005,100006],[.loc 1001],[],[.sl 55 (.i .i64),.mp (.gh 1004) .s .bo]⟩ (.s .l (.s (.c .l .l) (.j ⟨[0,46,47,48,53,54,55,100000,100001,100002,100003,100004,100005,100006],[.loc 1001],[],[.mp (.gh 1004) .s .bo]⟩ (.b (.s .l .l)) .l)))))))) .l))))))))
def tL:CKt:=apT (cn ⟨prog,eU,[(208,(zR 21 mI (zR 39 jG jH)))],[],noP⟩ f174 sk)
def BH:An:=.s .l (.s .l (.s .l (.s .l .l)))
noncomputable abbrev e_lvUses:En:=⟨prog,eU,[(174,tL),(175,Bf)],[],noP⟩
theorem JR(a0_i:Lt.Instr)(KK:(List (List UInt8))->Prop):xu a0_i KK=ao e_lvUses f108 BH [.st .Instr] [.sl .s] a0_i KK:=kQ0
theorem TF:Cont prog 108 Ff:=k8 e_lvUses (En.okc (aC (kI (En.okc (gY (aC (kI En.ok0 (fn:=f208))) (gY (aC (kI En.ok0 (fn:=f208))) (aC (kI En.ok0 (fn:=f208))))) En.ok0) (fn:=f174))) (En.okc P6 En.ok0)) (fn:=f108) BH (fun a0_i hp KK h=>JR a0_i KK ▸ (LL a0_i hp KK h))
def A6:CKt:=bd [.mp .s .bo,.st .Block] [.bo] (fun x=>Mr x.1 x.2) (fun x=>jd x.1 x.2)
def uk:An:=.s .l (.s (.s .l (.b (.lp ⟨[0,7,8,100003,100005,100007,100011,100012,100013,100014,100015,100016,100017,100018,100019],[.gh 800000,.loc 1003,.loc 1007],[],[.sl 9 (.i .i64)]⟩ (.s .l (.s (.c .l .l) (.s (.b (.s .l (.s .l (.c (.s .l .l) .l)))) .l)))))) (.s .l .l))
def wa:CKt:=apT (cn ⟨prog,eU,[],[],noP⟩ f107 uk)
def uj:An:=.s .l (.s .l .l)
def vZ:CKt:=apT (cn ⟨prog,eU,[],[],noP⟩ f109 uj)
def xT:An:=.s .l (.s .l (.s (.s .l (.b (.lp ⟨[3,5,11,12],[.loc 3],[],[.sl 13 (.i .i64),.mp (.gh 800000) .s .bo]⟩ (.s .l (.s (.c .l .l) (.j ⟨[3,5,11,12,13],[.loc 3],[],[.mp (.gh 800000) .s .bo]⟩ (.b (.s .l (.s (.j ⟨[3,5,7,11,12,13],[.gh 800000,.loc 3,.loc 7],[],[.sl 21 .bo]⟩ .l (.c (.s .l .l) .l)) (.s .l (.c .l .l))))) .l)))))) (.j ⟨[],[],[],[.sl 4 .bo]⟩ .l .l)))
noncomputable abbrev e_aqBlock:En:=⟨prog,eU,[(106,xa),(107,wa),(108,Ff),(109,vZ)],[],noP⟩
theorem EL(a0_s:Option (List ((List UInt8)×Bool)))(a1_b:Lt.Block)(KK:Bool->Prop):tR a0_s a1_b KK=ao e_aqBlock f63 xT [.mp .s .bo,.st .Block] [.bo] (a0_s,a1_b) KK:=kQ0
theorem PY:Cont prog 63 A6:=k1 e_aqBlock (En.okc yn (En.okc (aC (kI En.ok0 (fn:=f107))) (En.okc TF (En.okc (aC (kI En.ok0 (fn:=f109))) En.ok0)))) (fn:=f63) xT (fun(a0_s,a1_b) hp KK h=>EL a0_s a1_b KK ▸ (Is a0_s a1_b hp KK h))
def Nv:CKt:=ap [.sl .s,.s] [.i .i64] (fun x=>Ip x.1 x.2)
def F7:An:=.s .l (.s (.s .l (.b (.lp ⟨[0,1,7],[],[],[.sl 8 (.i .i64)]⟩ (.s .l (.s (.c .l .l) (.s (.b (.s .l (.s .l (.c (.s .l .l) .l)))) .l)))))) (.s .l .l))
theorem MZ(a0_s:List (List UInt8))(a1_v:List UInt8)(KK:Int->Prop):CX a0_s a1_v KK=ao eZ f211 F7 [.sl .s,.s] [.i .i64] (a0_s,a1_v) KK:=kQ0
theorem WF:Cont prog 211 Nv:=k0 eZ En.ok0 (fn:=f211) F7 (fun(a0_s,a1_v) KK h=>Eq.mp (MZ a0_s a1_v KK) (QI a0_s a1_v KK h))
def Fd:CKt:=ap [.sl .s,.s] [.bo] (fun x=>DI x.1 x.2)
def BF:An:=.s .l (.s .l .l)
noncomputable abbrev e_hasStr:En:=⟨prog,eU,[(211,Nv)],[],noP⟩
theorem JP(a0_s:List (List UInt8))(a1_v:List UInt8)(KK:Bool->Prop):FA a0_s a1_v KK=ao e_hasStr f176 BF [.sl .s,.s] [.bo] (a0_s,a1_v) KK:=kQ0
theorem Tz:Cont prog 176 Fd:=k0 e_hasStr (En.okc WF En.ok0) (fn:=f176) BF (fun(a0_s,a1_v) KK h=>Eq.mp (JP a0_s a1_v KK) (LJ a0_s a1_v KK h))
def A7:CKt:=ap [.st .Func,.s,.s] [.bo] (fun x=>Do x.1 x.2.1 x.2.2)
def xU:An:=.s .l (.s (.s .l (.b (.lp ⟨[1,2,10,11],[],[],[.sl 12 (.i .i64)]⟩ (.s .l (.s (.c .l .l) (.s (.b (.s .l (.s .l (.c (.s .l .l) .l)))) .l)))))) (.s .l .l))
noncomputable abbrev e_asLeads:En:=⟨prog,eU,[(176,Fd)],[],noP⟩
theorem EM(a0_f:Lt.Func)(a1_from:List UInt8)(a2_to:List UInt8)(KK:Bool->Prop):tS a0_f a1_from a2_to KK=ao e_asLeads f110 xU [.st .Func,.s,.s] [.bo] (a0_f,a1_from,a2_to) KK:=kQ0
theorem PZ:Cont prog 110 A7:=k0 e_asLeads (En.okc Tz En.ok0) (fn:=f110) xU (fun(a0_f,a1_from,a2_to) KK h=>Eq.mp (EM a0_f a1_from a2_to KK) (It a0_f a1_from a2_to KK h))
def E9:CKt:=bd [.st .Func,(.mp .s (.mp .s .bo))] [.bo] (fun x=>uY x.1 x.2) (fun x=>K5 x.1 x.2)
def we:An:=.s .l (.s .l .l)
def wW:CKt:=apT (cn ⟨prog,eU,[],[],noP⟩ f109 we)
def BC:An:=.s .l (.s (.s .l (.b (.lp ⟨[1,2,14,15],[.loc 2],[],[.sl 16 (.i .i64)]⟩ (.s .l (.s (.c .l .l) (.s (.b (.s .l (.s .l (.b (.lp ⟨[1,2,6,14,15,16,21,22],[.loc 2,.loc 6],[],[.sl 23 (.i .i64)]⟩ (.s .l (.s (.c .l .l) (.s (.b (.s .l (.s .l (.b (.lp ⟨[1,2,6,14,15,16,21,22,23,28,29],[.loc 2,.loc 6],[],[.sl 30 (.i .i64)]⟩ (.s .l (.s (.c .l .l) (.s (.b (.s .l (.s .l (.j ⟨[1,2,6,14,15,16,21,22,23,28,29,30],[.loc 2,.loc 6],[],[.sl 56 .bo]⟩ .l (.c (.s .l .l) .l))))) .l)))))))) .l)))))))) .l)))))) (.s .l .l))
noncomputable abbrev e_asPhis:En:=⟨prog,eU,[(109,wW),(110,A7)],[],noP⟩
theorem JM(a0_f:Lt.Func)(a1_outs:Option (List ((List UInt8)×(Option (List ((List UInt8)×Bool))))))(KK:Bool->Prop):xq a0_f a1_outs KK=ao e_asPhis f65 BC [.st .Func,(.mp .s (.mp .s .bo))] [.bo] (a0_f,a1_outs) KK:=kQ0
theorem Tu:Cont prog 65 E9:=k1 e_asPhis (En.okc (aC (kI En.ok0 (fn:=f109))) (En.okc PZ En.ok0)) (fn:=f65) BC (fun(a0_f,a1_outs) hp KK h=>JM a0_f a1_outs KK ▸ (LG a0_f a1_outs hp KK h))
def A8:CKt:=bd [.st .Func] [.bo] (fun x=>Ms x) (fun x=>je x)
def xV:An:=.s .l (.s .l (.s (.s .l (.b (.lp ⟨[1,3,8,9],[.loc 1],[],[.sl 10 (.i .i64),.mp (.gh 6) .s (.mp .s .bo)]⟩ (.s .l (.s (.c .l .l) (.j ⟨[1,3,8,9,10],[.loc 1],[],[.mp (.gh 6) .s (.mp .s .bo)]⟩ (.b (.s .l (.s (.s .l (.c (.s .l .l) .l)) .l))) .l)))))) (.s .l .l)))
noncomputable abbrev e_asRight:En:=⟨prog,eU,[(62,Nq),(63,A6),(64,wX),(65,E9)],[],noP⟩
theorem EN(a0_f:Lt.Func)(KK:Bool->Prop):tT a0_f KK=ao e_asRight f30 xV [.st .Func] [.bo] a0_f KK:=kQ0
theorem P0:Cont prog 30 A8:=k1 e_asRight (En.okc Wy (En.okc PY (En.okc Gz (En.okc Tu En.ok0)))) (fn:=f30) xV (fun a0_f hp KK h=>Eq.mp (EN a0_f KK) (Iu a0_f hp KK h))
def wZ:CKt:=bd [.st .Program] [.i .i64] (fun x=>cw x) (fun x=>dH x)
def lr:An:=.s .l (.s .l .l)
def lK:CKt:=Ay ⟨prog,eU,[(19,vm),(20,Ba)],[],noP⟩ f18 lr
def ls:An:=.s .l (.s .l .l)
def lL:CKt:=Ay ⟨prog,eU,[(22,w6)],[],noP⟩ f21 ls
def lu:An:=.s .l (.s .l .l)
def lM:CKt:=Ay ⟨prog,eU,[(24,Fk)],[],noP⟩ f23 lu
def pZ:An:=.s .l (.s (.s .l (.b (.un 4 (.s .l (.s (.c .l .l) (.s (.b (.s .l (.s .l (.c (.s .l .l) .l)))) .l)))))) (.s .l .l))
def qz:CKt:=apT (cn ⟨prog,eU,[(1000018,lK),(1000021,lL),(1000023,lM)],[],noP⟩ f17 pZ)
def iD:An:=.s .l (.s .l .l)
def iW:CKt:=Ay ⟨prog,eU,[(26,Bg)],[],noP⟩ f25 iD
def iE:An:=.s .l (.s .l .l)
def iX:CKt:=Ay ⟨prog,eU,[(28,Bb)],[],noP⟩ f27 iE
def iF:An:=.s .l (.s .l .l)
def iY:CKt:=Ay ⟨prog,eU,[(30,A8)],[],noP⟩ f29 iF
def lW:An:=.s .l (.s (.s .l (.b (.un 4 (.s .l (.s (.c .l .l) (.s (.b (.s .l (.s .l (.c (.s .l .l) .l)))) .l)))))) (.s .l .l))
def mH:CKt:=apT (cn ⟨prog,eU,[(1000025,iW),(1000027,iX),(1000029,iY)],[],noP⟩ f17 lW)
def vB:An:=.s .l (.s .l (.s (.s .l (.c (.s .l .l) .l)) (.s (.s .l (.b (.lp ⟨[1,19,20],[],[],[.sl 21 (.i .i64)]⟩ (.s .l (.s (.c .l .l) (.s (.b (.s .l (.s .l (.s .l (.c (.s .l .l) .l))))) .l)))))) (.s .l .l))))
noncomputable abbrev e_ckSource:En:=⟨prog,eU,[(17,(zR 13 qz mH))],[],noP⟩
theorem AY(a0_p:Lt.Program)(KK:Int->Prop):qI a0_p KK=ao e_ckSource f9 vB [.st .Program] [.i .i64] a0_p KK:=kQ0
theorem ym:Cont prog 9 wZ:=k1 e_ckSource (En.okc (gY (aC (kI (En.okk (kC (En.okc GC (En.okc P2 En.ok0)) (fn:=f18)) (En.okk (kC (En.okc Lh En.ok0) (fn:=f21)) (En.okk (kC (En.okc TM En.ok0) (fn:=f23)) En.ok0))) (fn:=f17))) (aC (kI (En.okk (kC (En.okc P8 En.ok0) (fn:=f25)) (En.okk (kC (En.okc P3 En.ok0) (fn:=f27)) (En.okk (kC (En.okc P0 En.ok0) (fn:=f29)) En.ok0))) (fn:=f17)))) En.ok0) (fn:=f9) vB (fun a0_p hp KK h=>AY a0_p KK ▸ (DQ a0_p hp KK h))
def nP:CKt:=ap [(.sl (.st .Var)),.i .i64] [.i .i64] (fun x=>bP x.1 x.2)
def sg:An:=.s .l (.s (.s .l (.c (.s .l .l) .l)) (.s .l (.s (.s .l (.b (.lp ⟨[0,1],[],[],[.sl 5 (.i .i64),.sl 6 (.i .i64)]⟩ (.s (.j ⟨[0,1,5,6],[],[],[.sl 23 .bo]⟩ .l (.c .l .l)) (.j ⟨[0,1,6],[],[],[.sl 5 (.i .i64)]⟩ (.b (.s .l (.s .l (.c .l .l)))) .l))))) (.s .l .l))))
theorem Ac(a0_l:List Lt.Var)(a1_most:Int)(KK:Int->Prop):nV a0_l a1_most KK=ao eZ f15 sg [(.sl (.st .Var)),.i .i64] [.i .i64] (a0_l,a1_most) KK:=kQ0
theorem vF:Cont prog 15 nP:=k0 eZ En.ok0 (fn:=f15) sg (fun(a0_l,a1_most) KK h=>Eq.mp (Ac a0_l a1_most KK) (AB a0_l a1_most KK h))
def vk:CKt:=ap [(.sl (.st .Arg)),.i .i64] [.i .i64] (fun x=>dv x.1 x.2)
def sf:An:=.s .l (.s (.s .l (.c (.s .l .l) .l)) (.s .l (.s (.s .l (.b (.lp ⟨[0,1],[],[],[.sl 5 (.i .i64),.sl 6 (.i .i64)]⟩ (.s (.j ⟨[0,1,5,6],[],[],[.sl 23 .bo]⟩ .l (.c .l .l)) (.s (.b .l) .l))))) (.s .l .l))))
theorem Ab(a0_l:List Lt.Arg)(a1_most:Int)(KK:Int->Prop):nU a0_l a1_most KK=ao eZ f154 sf [(.sl (.st .Arg)),.i .i64] [.i .i64] (a0_l,a1_most) KK:=kQ0
theorem GA:Cont prog 154 vk:=k0 eZ En.ok0 (fn:=f154) sf (fun(a0_l,a1_most) KK h=>Eq.mp (Ab a0_l a1_most KK) (AA a0_l a1_most KK h))
def rM:CKt:=bd [.st .Instr,.i .i64] [.i .i64] (fun x=>U5 x.1 x.2) (fun x=>dJ x.1 x.2)
def qb:An:=.s .l (.s (.j ⟨[1,2],[.loc 2],[],[.sl 20 .bo]⟩ .l (.c (.s .l .l) .l)) (.s .l (.j ⟨[1,2],[.loc 2],[],[.sl 5 (.i .i64)]⟩ (.s .l (.c .l .l)) (.j ⟨[1,2],[.loc 2],[],[.sl 5 (.i .i64)]⟩ (.s .l (.c .l .l)) (.s (.s .l (.b (.lp ⟨[1,2],[.loc 2],[],[.sl 5 (.i .i64),.sl 6 (.i .i64)]⟩ (.s (.j ⟨[1,2,5,6],[.loc 2],[],[.sl 61 .bo]⟩ .l (.c .l .l)) (.s (.b (.s .l (.j ⟨[1,2,6],[.loc 2],[],[.sl 5 (.i .i64)]⟩ (.s .l (.c .l .l)) (.s .l (.b (.lp ⟨[1,2,6],[.loc 2],[],[.sl 5 (.i .i64),.sl 7 (.i .i64)]⟩ (.s (.j ⟨[1,2,5,6,7],[.loc 2],[],[.sl 98 .bo]⟩ .l (.c .l .l)) (.j ⟨[1,2,6,7],[.loc 2],[],[.sl 5 (.i .i64)]⟩ (.b (.s .l (.s .l (.c .l .l)))) .l)))))))) .l))))) (.s (.s .l (.b (.lp ⟨[1,2],[.loc 2],[],[.sl 5 (.i .i64),.sl 8 (.i .i64)]⟩ (.s (.j ⟨[1,2,5,8],[.loc 2],[],[.sl 141 .bo]⟩ .l (.c .l .l)) (.j ⟨[1,2,8],[.loc 2],[],[.sl 5 (.i .i64)]⟩ (.b (.s .l (.s .l (.c .l .l)))) .l))))) (.s .l .l)))))))
noncomputable abbrev e_countInstr:En:=⟨prog,eU,[(154,vk)],[],noP⟩
theorem ww(a0_x:Lt.Instr)(a1_most:Int)(KK:Int->Prop):mO a0_x a1_most KK=ao e_countInstr f87 qb [.st .Instr,.i .i64] [.i .i64] (a0_x,a1_most) KK:=kQ0
theorem Dr:Cont prog 87 rM:=k1 e_countInstr (En.okc GA En.ok0) (fn:=f87) qb (fun(a0_x,a1_most) hp KK h=>Eq.mp (ww a0_x a1_most KK) (yS a0_x a1_most hp KK h))
def rL:CKt:=bd [.st .Block,.i .i64] [.i .i64] (fun x=>U4 x.1 x.2) (fun x=>dI x.1 x.2)
def qa:An:=.s .l (.s (.j ⟨[1,2],[.loc 2],[],[.sl 29 .bo]⟩ .l (.c (.s .l .l) .l)) (.s .l (.j ⟨[1,2],[.loc 2],[],[.sl 5 (.i .i64)]⟩ (.s .l (.c .l .l)) (.s (.s .l (.b (.lp ⟨[1,2],[.loc 2],[],[.sl 5 (.i .i64),.sl 6 (.i .i64)]⟩ (.s (.j ⟨[1,2,5,6],[.loc 2],[],[.sl 56 .bo]⟩ .l (.c .l .l)) (.s (.b .l) .l))))) (.s (.s .l (.b (.lp ⟨[1,2],[.loc 2],[],[.sl 5 (.i .i64),.sl 7 (.i .i64)]⟩ (.s (.j ⟨[1,2,5,7],[.loc 2],[],[.sl 78 .bo]⟩ .l (.c .l .l)) (.s (.b (.s .l (.s .l (.b (.lp ⟨[1,2,7],[.loc 2],[],[.sl 5 (.i .i64),.sl 8 (.i .i64)]⟩ (.s (.j ⟨[1,2,5,7,8],[.loc 2],[],[.sl 104 .bo]⟩ .l (.c .l .l)) (.j ⟨[1,2,7,8],[.loc 2],[],[.sl 5 (.i .i64)]⟩ (.b (.s .l (.s .l (.c .l .l)))) .l))))))) .l))))) (.s (.s .l (.b (.lp ⟨[1,2],[.loc 2],[],[.sl 5 (.i .i64),.sl 9 (.i .i64)]⟩ (.s (.j ⟨[1,2,5,9],[.loc 2],[],[.sl 147 .bo]⟩ .l (.c .l .l)) (.s (.b .l) .l))))) (.s .l .l)))))))
noncomputable abbrev e_countBlock:En:=⟨prog,eU,[(87,rM)],[],noP⟩
theorem wv(a0_b:Lt.Block)(a1_most:Int)(KK:Int->Prop):mN a0_b a1_most KK=ao e_countBlock f45 qa [.st .Block,.i .i64] [.i .i64] (a0_b,a1_most) KK:=kQ0
theorem Dq:Cont prog 45 rL:=k1 e_countBlock (En.okc Dr En.ok0) (fn:=f45) qa (fun(a0_b,a1_most) hp KK h=>Eq.mp (wv a0_b a1_most KK) (yR a0_b a1_most hp KK h))
def A5:CKt:=bd [.st .Func,.i .i64] [.i .i64] (fun x=>U6 x.1 x.2) (fun x=>kG x.1 x.2)
def xS:An:=.s .l (.s (.s .l (.c (.s .l .l) .l)) (.s .l (.j ⟨[1,2],[.loc 2],[],[.sl 5 (.i .i64)]⟩ (.s .l (.c .l .l)) (.j ⟨[1,2],[.loc 2],[],[.sl 5 (.i .i64)]⟩ (.s .l (.c .l .l)) (.j ⟨[1,2],[.loc 2],[],[.sl 5 (.i .i64)]⟩ (.s .l (.c .l .l)) (.s (.s .l (.b (.lp ⟨[1,2],[.loc 2],[],[.sl 5 (.i .i64),.sl 6 (.i .i64)]⟩ (.s (.j ⟨[1,2,5,6],[.loc 2],[],[.sl 53 .bo]⟩ .l (.c .l .l)) (.s (.b .l) .l))))) (.s .l .l)))))))
noncomputable abbrev e_FewFunc:En:=⟨prog,eU,[(15,nP),(45,rL)],[],noP⟩
theorem EK(a0_f:Lt.Func)(a1_most:Int)(KK:Int->Prop):tQ a0_f a1_most KK=ao e_FewFunc f16 xS [.st .Func,.i .i64] [.i .i64] (a0_f,a1_most) KK:=kQ0
theorem PX:Cont prog 16 A5:=k1 e_FewFunc (En.okc vF (En.okc Dq En.ok0)) (fn:=f16) xS (fun(a0_f,a1_most) hp KK h=>Eq.mp (EK a0_f a1_most KK) (Ir a0_f a1_most hp KK h))
def Yk:CKt:=bd [.st .Program,.i .i64] [.bo] (fun x=>Eh x.1 x.2) (fun x=>Lt.Few x.1 x.2)
def S9:An:=.s .l (.s (.j ⟨[1,2],[.loc 2],[],[.sl 24 .bo]⟩ .l (.c (.s .l .l) .l)) (.s .l (.s (.s .l (.b (.lp ⟨[1,2],[.loc 2],[],[.sl 5 (.i .i64),.sl 6 (.i .i64)]⟩ (.s (.j ⟨[1,2,5,6],[.loc 2],[],[.sl 38 .bo]⟩ .l (.c .l .l)) (.j ⟨[1,2,6],[.loc 2],[],[.sl 5 (.i .i64)]⟩ (.b (.s .l (.s .l (.c .l .l)))) .l))))) (.s (.s .l (.b (.lp ⟨[1,2],[.loc 2],[],[.sl 5 (.i .i64),.sl 7 (.i .i64)]⟩ (.s (.j ⟨[1,2,5,7],[.loc 2],[],[.sl 72 .bo]⟩ .l (.c .l .l)) (.s (.b .l) .l))))) (.s (.s .l (.b (.lp ⟨[1,2],[.loc 2],[],[.sl 5 (.i .i64),.sl 8 (.i .i64)]⟩ (.s (.j ⟨[1,2,5,8],[.loc 2],[],[.sl 94 .bo]⟩ .l (.c .l .l)) (.s (.b .l) .l))))) (.s .l .l))))))
noncomputable abbrev e_Few:En:=⟨prog,eU,[(15,nP),(16,A5)],[],noP⟩
theorem VH(a0_p:Lt.Program)(a1_most:Int)(KK:Bool->Prop):SB a0_p a1_most KK=ao e_Few f8 S9 [.st .Program,.i .i64] [.bo] (a0_p,a1_most) KK:=kQ0
theorem aaQ:Cont prog 8 Yk:=k1 e_Few (En.okc vF (En.okc PX En.ok0)) (fn:=f8) S9 (fun(a0_p,a1_most) hp KK h=>Eq.mp (VH a0_p a1_most KK) (Xh a0_p a1_most hp KK h))
set_option maxRecDepth 100000
theorem Pa{P:Program}{f:Nat}{ps rs:List U}{pre pre':Fl ps->Prop}{F F':Fl ps->Fl rs}(hpre:∀x,pre' x->pre x/\F' x=F x)(h:Cont P f (bd ps rs pre F)):Cont P f (bd ps rs pre' F'):=by
 refine⟨h.run,fun pk s ops k k' hk hc=>?_,fun g pk s a w H γ F1 ops k hX hops hc=>h.call g pk s a w H γ F1 ops k hX hops ?_⟩
 ·unfold bd at hc⊢;dsimp only at hc⊢;split at hc
  ·exact⟨hc.1,hk _ _ (bE _ _) hc.2⟩
  ·exact hc.elim
 ·unfold bd at hc⊢;dsimp only at hc⊢;split at hc
  ·rename_i x hx;obtain⟨h1,h2⟩:=hpre x hc.1;exact⟨h1,by rw[<- h2];exact hc.2⟩
  ·exact hc.elim
theorem Ud(b:Lt.Block)(h:b.End.To=[]):Lt.Gd [b]:=by
 have i0:∀i,i<[b].length->i=0:=fun i hi=>by simpa using hi
 refine⟨Nat.zero_lt_one,fun i j hi hj _=>by rw[i0 i hi,i0 j hj],fun i hi=>?_,fun i hi s hs=>?_,fun k hk=>?_⟩
 ·rw[i0 i hi];show b.End.To.Nodup
  rw[h];exact List.nodup_nil
 ·rw[i0 i hi]at hs;have hs:s∈b.End.To:=hs
  rw[h]at hs;cases hs
 ·rw[i0 k hk];exact .first Nat.zero_lt_one
theorem Th{f:Lt.Func}{b:Lt.Block}{v:List UInt8}(hf:f.Blocks=[b])(h:b.End.To=[]){k:Nat}(hb:Lt.Bare f v k):v ∉ f.Params.map (·.Name):=by
 cases hb with
 |first h=>exact h
 |next i k _ _ _ hi _ hm=>
  rw[hf]at hi hm;obtain rfl:i=0:=by simpa using hi
  have hm:Lt.nmB [b] k∈b.End.To:=hm
  rw[h]at hm;cases hm
theorem U9:cw wr:=by
 unfold cw kf kh qu eV;decide
theorem Va:cw ro:=by
 unfold cw kf kh qu eV;decide
theorem Vb:cw sX:=by
 unfold cw kf kh qu eV;decide
theorem ab1:dH wr=0:=by
 rw[Zs,OZ];refine⟨by kernel_rfl,by kernel_rfl,by kernel_rfl,by kernel_rfl,fun f hf=>?_⟩;obtain rfl:=ac9.1 hf;refine⟨uJ (Ud _ rfl),by kernel_rfl,uJ fun k hk=>?_⟩;obtain rfl:k=0:=by
  have hk:k < 1:=hk
  omega
 exact⟨fun j hj=>absurd hj (Nat.not_lt_zero j),fun _ _=>.inl fun hb=>Th (b:=(aa4.Blocks.getD 0 default)) rfl rfl hb (ac9.2 rfl)⟩
theorem ab2:dH ro=4:=by
 have h1:dY ro=true:=by kernel_rfl
 have h2:gO ro=true:=by kernel_rfl
 have h3:ik ro=true:=by kernel_rfl
 have h4:eX ro=true:=by kernel_rfl
 have h5:e9 T7=true:=uJ (Ud _ rfl)
 have h6:mZ ro T7=true:=by kernel_rfl
 have h7:je T7=false:=yO fun h=>by
  rcases(h 0 Nat.zero_lt_one).2 (.inr rfl) rfl with h|h
  ·exact h (.first fun hm=>by cases hm)
  ·cases h
 unfold dH;rw[h1,h2,h3,h4];simp only[Bool.true_eq_false,or_self,if_false];show wt ro [T7]=4
 unfold wt;rw[h5,h6,h7];rfl
theorem ab3:dH sX=5:=by
 have h1:dY sX=true:=by kernel_rfl
 have h2:gO sX=true:=by kernel_rfl
 have h3:ik sX=true:=by kernel_rfl
 have h4:eX sX=true:=by kernel_rfl
 have h5:e9 W4=false:=yO fun g=>by
  have h:=g.re 1 (by decide)
  generalize hk:(1:Nat)=k at h;cases h with
  |first _=>cases hk
  |next i k _ hi _ hm=>
   have:Lt.toB W4.Blocks i=[]:=by
    have hi:i < 2:=hi
    rcases adJ i 1 with h'|h'
    ·obtain rfl:i=0:=by omega
     rfl
    ·obtain rfl:i=1:=by omega
     rfl
   rw[this]at hm;cases hm
 unfold dH;rw[h1,h2,h3,h4];simp only[Bool.true_eq_false,or_self,if_false];show wt sX [W4]=5
 unfold wt;rw[h5];rfl
abbrev Ka:List (Fl [.s]×Fl [.st .Program,.i .i64,.i .i64]):=[(abJ,(wr,0,0)),(abK,(ro,0,0)),(abL,(sX,0,0))]
theorem P7:Cont prog 13 (bd [.s] [.st .Program,.i .i64,.i .i64] (fun x=>∃y,(x,y)∈Ka) (sW Ka (wr,0,0))):=
 Fv (n:=80) eU eS lParse 4 f13 (ps:=[.s]) (rs:=[.st .Program,.i .i64,.i .i64]) Ka func13 kQ0 kQ0 kQ0 kQ0 kQ0 kQ0 kQ0 kQ0 kQ0 kQ0 kQ0 kQ0 (wr,0,0) (fun x hx=>by
  rcases ac8.1 hx with rfl|hx
  ·exact ta0
  rcases ac8.1 hx with rfl|hx
  ·exact ta1
  obtain rfl:=ac9.1 hx;exact ta2)
theorem VS{x:Fl [.s]}(h:decide (x∈Ka.map (·.1))=true):∃y,(x,y)∈Ka:=by
 obtain⟨z,hz,rfl⟩:=adR.1 (of_decide_eq_true h);exact⟨z.2,hz⟩
noncomputable def x13:Cl 13:=⟨fnB [.s] [.st .Program,.i .i64,.i .i64] (fun x=>decide (x∈Ka.map (·.1))) (sW Ka (wr,0,0)),_,yF (pre:=fun x=>∃y,(x,y)∈Ka) (fun x h=>VS h),P7⟩
abbrev VT:List (Fl [.st .Program]×Fl [.i .i64]):=[(wr,(0:Int)),(ro,(4:Int)),(sX,(5:Int))]
theorem aaV:Cont prog 9 (bd [.st .Program] [.i .i64] (fun x=>cw x) (fun x=>dH x)):=ym
theorem WM:Cont prog 9 (bd [.st .Program] [.i .i64] (fun x=>x=wr\/x=ro\/x=sX) (sW VT (0:Int))):=
 Pa (fun x hx=>by
  rcases hx with rfl|rfl|rfl
  ·exact⟨U9,(show sW VT (0:Int) wr=0 by kernel_rfl).trans ab1.symm⟩
  ·exact⟨Va,(show sW VT (0:Int) ro=4 by kernel_rfl).trans ab2.symm⟩
  ·exact⟨Vb,(show sW VT (0:Int) sX=5 by kernel_rfl).trans ab3.symm⟩) aaV
noncomputable def x9:Cl 9:=⟨fnB [.st .Program] [.i .i64] (fun x=>decide (x=wr\/x=ro\/x=sX)) (sW VT (0:Int)),_,yF (pre:=fun x=>x=wr\/x=ro\/x=sX) (fun x h=>of_decide_eq_true h),WM⟩
noncomputable abbrev lAw:ClS:=[⟨_,x13⟩,⟨_,x9⟩]
theorem ab4:Gv 80 (clE eU eP lAw) f7 [] [.bo] () (fun z=>decide (z=true))=true:=kQ0
theorem Wz:Cont prog 7 (ap [] [.bo] (fun _=>true)):=Sj eU eP lAw 80 f7 [.bo] true func7 kQ0 ab4
end Go.Am
end

section
namespace Go.Am
open Go
def KB(a0_out:List UInt8)(a1_l:List (List UInt8))(KK:(List UInt8)->Prop):Prop:=
 af (α:=List UInt8×Int) (fun R1 v2=>(a1_l.length<=4611686018427387904->if(decide (v2.2 < (a1_l.length:Int)))=true then(ab (α:=List UInt8) (fun J3=>if(decide (0<v2.2))=true then((v2.1.length+([(32:UInt8)]:List UInt8).length<=4611686018427387904/\(v2.1.length+([(32:UInt8)]:List UInt8).length)*1<=140737488355328)/\J3 (v2.1++([(32:UInt8)]:List UInt8)))else(J3 v2.1)) (fun v4=>((0:Int)<=v2.2/\v2.2.toNat<a1_l.length)/\(v4.length+(a1_l.getD v2.2.toNat default).length<=4611686018427387904/\(v4.length+(a1_l.getD v2.2.toNat default).length)*1<=140737488355328)/\R1 ((v4++(a1_l.getD v2.2.toNat default)),(i64.wrap (v2.2+1)))))else((v2.1.length+([(10:UInt8)]:List UInt8).length<=4611686018427387904/\(v2.1.length+([(10:UInt8)]:List UInt8).length)*1<=140737488355328)/\KK (v2.1++([(10:UInt8)]:List UInt8))))) (a0_out,0)
def C3(a0_out:List UInt8)(a1_first:List UInt8)(a2_l:List Lt.Var)(KK:(List UInt8)->Prop):Prop:=
 af (α:=List UInt8×Int) (fun R1 v2=>(a2_l.length<=4611686018427387904->if(decide (v2.2 < (a2_l.length:Int)))=true then(((0:Int)<=v2.2/\v2.2.toNat<a2_l.length)/\((0:Int)<=v2.2/\v2.2.toNat<a2_l.length)/\(bu v2.1 [a1_first,(a2_l.getD v2.2.toNat default).Name,(a2_l.getD v2.2.toNat default).Type_])/\R1 ((fW v2.1 [a1_first,(a2_l.getD v2.2.toNat default).Name,(a2_l.getD v2.2.toNat default).Type_]),(i64.wrap (v2.2+1))))else(KK v2.1))) (a0_out,0)
def C2(a0_n:Int)(KK:Int->Prop):Prop:=
 if(decide (a0_n < 0))=true then(KK (IntKind.u64.wrap (0 - (IntKind.u64.wrap a0_n))))else(KK (IntKind.u64.wrap a0_n))
def KA(a0_n:Int)(KK:(List UInt8)->Prop):Prop:=
 ab (α:=List UInt8) (fun J1=>af (α:=List UInt8×Int) (fun R3 v4=>(10:Int)≠0/\(([(UInt8.ofNat (IntKind.u8.wrap (IntKind.u64.wrap (48+(Int.tmod v4.2 10)))).toNat)]:List UInt8).length+v4.1.length<=4611686018427387904/\(([(UInt8.ofNat (IntKind.u8.wrap (IntKind.u64.wrap (48+(Int.tmod v4.2 10)))).toNat)]:List UInt8).length+v4.1.length)*1<=140737488355328)/\(10:Int)≠0/\if(decide ((IntKind.u64.wrap (Int.tdiv v4.2 10))=0))=true then(J1 (([(UInt8.ofNat (IntKind.u8.wrap (IntKind.u64.wrap (48+(Int.tmod v4.2 10)))).toNat)]:List UInt8)++v4.1))else(R3 ((([(UInt8.ofNat (IntKind.u8.wrap (IntKind.u64.wrap (48+(Int.tmod v4.2 10)))).toNat)]:List UInt8)++v4.1),(IntKind.u64.wrap (Int.tdiv v4.2 10))))) ([],(Cu a0_n))) (fun v2=>if(decide (a0_n < 0))=true then([45].length+v2.length<=4611686018427387904/\KK ([45]++v2))else(KK v2))
def C1(a0_s:List UInt8)(KK:Bool->Prop):Prop:=
 af (α:=Int) (fun R1 v2=>have z1:=(((a0_s.getD v2.toNat 0).toNat:Nat):Int);have z3:=(decide (z1 < (((97:UInt8).toNat:Nat):Int)));have z2:=(decide ((((122:UInt8).toNat:Nat):Int)<z1));(a0_s.length<=4611686018427387904->if(decide (v2 < (a0_s.length:Int)))=true then(((0:Int)<=v2/\v2.toNat<a0_s.length)/\ab (α:=Bool) (fun J3=>if(decide ((((48:UInt8).toNat:Nat):Int)<=z1))=true then(J3 (decide (z1<=(((57:UInt8).toNat:Nat):Int))))else(J3 false)) (fun v4=>ab (α:=Bool) (fun J5=>if v4=true then(if(!(decide (0<v2)))=true then(if(!decide (z1=(((95:UInt8).toNat:Nat):Int)))=true then(if(decide (z1 < (((65:UInt8).toNat:Nat):Int)))=true then(if z3=true then(J5 true)else(J5 z2))else(if(decide ((((90:UInt8).toNat:Nat):Int)<z1))=true then(if z3=true then(J5 true)else(J5 z2))else(J5 false)))else(J5 false))else(J5 false))else(if(!decide (z1=(((95:UInt8).toNat:Nat):Int)))=true then(if(decide (z1 < (((65:UInt8).toNat:Nat):Int)))=true then(if z3=true then(J5 true)else(J5 z2))else(if(decide ((((90:UInt8).toNat:Nat):Int)<z1))=true then(if z3=true then(J5 true)else(J5 z2))else(J5 false)))else(J5 false))) (fun v6=>if v6=true then(KK false)else(R1 (i64.wrap (v2+1))))))else(ab (α:=Bool) (fun J7=>(a0_s.length<=4611686018427387904->if(decide (1<=(a0_s.length:Int)))=true then(if(decide ((a0_s.length:Int)<=16))=true then(if(!decide (a0_s=[110,117,108,108]))=true then(if(!decide (a0_s=[105,110,116]))=true then(J7 (!decide (a0_s=[102,108,111,97,116])))else(J7 false))else(J7 false))else(J7 false))else(J7 false))) (fun v8=>KK v8)))) 0
def xv(a0_n:Int)(KK:Bool->Prop):Prop:=
 (9223372036854775808:Int)≠0/\KK (decide (9218868437227405312 < (Int.tmod (IntKind.u64.wrap a0_n) 9223372036854775808)))
def xx(a0_n:Int)(KK:Int->Prop):Prop:=
 if(Et a0_n)=true then(KK 9221120237041090560)else(KK a0_n)
def xy(a0_a:Lt.Arg)(KK:Bool->Prop):Prop:=
 have z2:=decide (a0_a.Kind=4);have z1:=decide (a0_a.Kind=5);if(decide (a0_a.Kind=1))=true then(if(zD a0_a.S)=true then(KK (decide (a0_a.N=0)))else(KK false))else(ab (α:=Bool) (fun J1=>if(decide (a0_a.Kind < 1))=true then(J1 true)else(if(decide (5<a0_a.Kind))=true then(J1 true)else(J1 (!decide (a0_a.S=([]:List UInt8)))))) (fun v2=>if v2=true then(KK false)else(ab (α:=Bool) (fun J3=>if(decide (a0_a.Kind=2))=true then((J3 true)/\(J3 true))else(if(decide (a0_a.Kind=3))=true then((if(decide ((oT a0_a.N)=a0_a.N))=true then(J3 true)else(if z2=true then(if(decide (a0_a.N=0))=true then(J3 true)else(if z1=true then(if(decide (0<=a0_a.N))=true then(J3 (decide (a0_a.N<=999)))else(J3 false))else(J3 false)))else(if z1=true then(if(decide (0<=a0_a.N))=true then(J3 (decide (a0_a.N<=999)))else(J3 false))else(J3 false))))/\(if(decide ((oT a0_a.N)=a0_a.N))=true then(J3 true)else(if z2=true then(if(decide (a0_a.N=0))=true then(J3 true)else(if z1=true then(if(decide (0<=a0_a.N))=true then(J3 (decide (a0_a.N<=999)))else(J3 false))else(J3 false)))else(if z1=true then(if(decide (0<=a0_a.N))=true then(J3 (decide (a0_a.N<=999)))else(J3 false))else(J3 false)))))else((if z2=true then(if(decide (a0_a.N=0))=true then(J3 true)else(if z1=true then(if(decide (0<=a0_a.N))=true then(J3 (decide (a0_a.N<=999)))else(J3 false))else(J3 false)))else(if z1=true then(if(decide (0<=a0_a.N))=true then(J3 (decide (a0_a.N<=999)))else(J3 false))else(J3 false)))/\(if z2=true then(if(decide (a0_a.N=0))=true then(J3 true)else(if z1=true then(if(decide (0<=a0_a.N))=true then(J3 (decide (a0_a.N<=999)))else(J3 false))else(J3 false)))else(if z1=true then(if(decide (0<=a0_a.N))=true then(J3 (decide (a0_a.N<=999)))else(J3 false))else(J3 false)))))) (fun v4=>KK v4))))
def Kz(a0_n:Int)(KK:(List UInt8)->Prop):Prop:=
 af (α:=Int×List UInt8×Int) (fun R1 v2=>if(decide (v2.2.2 < 16))=true then((16:Int)≠0/\ab (α:=UInt8) (fun J3=>if(decide ((((UInt8.ofNat (IntKind.u8.wrap (Int.tmod v2.1 16)).toNat).toNat:Nat):Int) < (((10:UInt8).toNat:Nat):Int)))=true then(J3 (UInt8.ofNat (IntKind.u8.wrap ((((UInt8.ofNat (IntKind.u8.wrap (Int.tmod v2.1 16)).toNat).toNat:Nat):Int)+(((48:UInt8).toNat:Nat):Int))).toNat))else(J3 (UInt8.ofNat (IntKind.u8.wrap ((((UInt8.ofNat (IntKind.u8.wrap (Int.tmod v2.1 16)).toNat).toNat:Nat):Int)+(((87:UInt8).toNat:Nat):Int))).toNat))) (fun v4=>(([v4]:List UInt8).length+v2.2.1.length<=4611686018427387904/\(([v4]:List UInt8).length+v2.2.1.length)*1<=140737488355328)/\(16:Int)≠0/\R1 ((IntKind.u64.wrap (Int.tdiv v2.1 16)),(([v4]:List UInt8)++v2.2.1),(i64.wrap (v2.2.2+1)))))else([48,102].length+v2.2.1.length<=4611686018427387904/\KK ([48,102]++v2.2.1))) ((IntKind.u64.wrap (oT a0_n)),[],0)
def C4(a0_a:Lt.Arg)(KK:(List UInt8)->Prop):Prop:=
 if(!(zE a0_a))=true then(KK ([]:List UInt8))else(if(decide (a0_a.Kind=1))=true then(KK a0_a.S)else(if(decide (a0_a.Kind=2))=true then((fV a0_a.N)/\KK (iM a0_a.N))else(if(decide (a0_a.Kind=3))=true then(KK (My a0_a.N))else(if(decide (a0_a.Kind=4))=true then(KK [110,117,108,108])else((fV a0_a.N)/\[35].length+(iM a0_a.N).length<=4611686018427387904/\KK ([35]++(iM a0_a.N)))))))
def NK(a0_op:Int)(KK:(Lt.RForm×Bool)->Prop):Prop:=
 have z1:=gw.getD a0_op.toNat default;have z4:=Lt.RForm.mk z1 false (decide (a0_op<=32)) 0 0;have z3:=Lt.RForm.mk z1 (!decide (a0_op=34)) true 0 0;have z2:=Lt.RForm.mk z1 false true 0 0;ab (α:=Bool) (fun J1=>if(decide (a0_op < 1))=true then(J1 true)else(J1 (decide (34<a0_op)))) (fun v2=>if v2=true then(KK ((Lt.RForm.mk ([]:List UInt8) false false 0 0),false))else(ab (α:=Lt.RForm) (fun J3=>((0:Int)<=a0_op/\a0_op < ((35:Nat):Int))/\a0_op.toNat<gw.length/\if(!decide (a0_op=27))=true then(if(!decide (a0_op=30))=true then(if(!decide (a0_op=33))=true then(if(decide (a0_op=25))=true then(J3 z3)else(if(decide (a0_op=26))=true then(J3 z3)else(if(decide (a0_op=27))=true then(J3 z3)else(if(decide (29<=a0_op))=true then(J3 (Lt.RForm.mk z1 (!decide (a0_op=34)) (decide (a0_op<=32)) 0 0))else(J3 (Lt.RForm.mk z1 (!decide (a0_op=34)) false 0 0))))))else(if(decide (a0_op=25))=true then(J3 z2)else(if(decide (a0_op=26))=true then(J3 z2)else(if(decide (a0_op=27))=true then(J3 z2)else(if(decide (29<=a0_op))=true then(J3 z4)else(J3 (Lt.RForm.mk z1 false false 0 0)))))))else(if(decide (a0_op=25))=true then(J3 z2)else(if(decide (a0_op=26))=true then(J3 z2)else(if(decide (a0_op=27))=true then(J3 z2)else(if(decide (29<=a0_op))=true then(J3 z4)else(J3 (Lt.RForm.mk z1 false false 0 0)))))))else(if(decide (a0_op=25))=true then(J3 z2)else(if(decide (a0_op=26))=true then(J3 z2)else(if(decide (a0_op=27))=true then(J3 z2)else(if(decide (29<=a0_op))=true then(J3 z4)else(J3 (Lt.RForm.mk z1 false false 0 0))))))) (fun v4=>ab (α:=Lt.RForm) (fun J5=>ab (α:=Bool) (fun J7=>if(decide (a0_op=22))=true then(J7 (decide (a0_op=22)))else(if(decide (a0_op=23))=true then(J7 (decide (a0_op=23)))else(if(decide (a0_op=24))=true then(J7 (decide (a0_op=24)))else(if(decide (a0_op=26))=true then(J7 (decide (a0_op=26)))else(if(decide (a0_op=30))=true then(J7 (decide (a0_op=30)))else(J7 (decide (a0_op=33)))))))) (fun v8=>if v8=true then(J5 (Lt.RForm.mk v4.Word v4.Dst v4.Named 1 1))else(ab (α:=Bool) (fun J9=>if(decide (a0_op=25))=true then(J9 (decide (a0_op=25)))else(if(decide (a0_op=31))=true then(J9 (decide (a0_op=31)))else(J9 (decide (a0_op=32))))) (fun v10=>if v10=true then(J5 (Lt.RForm.mk v4.Word v4.Dst v4.Named v4.Least 8))else(ab (α:=Bool) (fun J11=>if(decide (a0_op=29))=true then(J11 (decide (a0_op=29)))else(J11 (decide (a0_op=34)))) (fun v12=>if v12=true then(J5 (Lt.RForm.mk v4.Word v4.Dst v4.Named v4.Least 0))else(J5 (Lt.RForm.mk v4.Word v4.Dst v4.Named 2 2)))))))) (fun v6=>KK (v6,true)))))
def CY(a0_l:List (List UInt8))(a1_a:List Lt.Arg)(KK:(List (List UInt8))->Prop):Prop:=
 af (α:=List (List UInt8)×Int) (fun R1 v2=>(a1_a.length<=4611686018427387904->if(decide (v2.2 < (a1_a.length:Int)))=true then(((0:Int)<=v2.2/\v2.2.toNat<a1_a.length)/\(kg (a1_a.getD v2.2.toNat default))/\(v2.1.length+([(bB (a1_a.getD v2.2.toNat default))]:List (List UInt8)).length<=4611686018427387904/\(v2.1.length+([(bB (a1_a.getD v2.2.toNat default))]:List (List UInt8)).length)*16<=140737488355328)/\R1 ((v2.1++([(bB (a1_a.getD v2.2.toNat default))]:List (List UInt8))),(i64.wrap (v2.2+1))))else(KK v2.1))) (a0_l,0)
def CZ(a0_out:List UInt8)(a1_x:Lt.Instr)(KK:(List UInt8)->Prop):Prop:=
 have z6:=([a1_x.Name]:List (List UInt8));have z4:=([((Lt.rOf a1_x.Op).1).Word]:List (List UInt8));ab (α:=List (List UInt8)) (fun J1=>if(((Lt.rOf a1_x.Op).1).Dst)=true then((([]:List (List UInt8)).length+([a1_x.Dst,[61]]:List (List UInt8)).length<=4611686018427387904/\(([]:List (List UInt8)).length+([a1_x.Dst,[61]]:List (List UInt8)).length)*16<=140737488355328)/\J1 [a1_x.Dst,[61]])else(J1 [])) (fun v2=>have z9:=s6 (v2++z4) ((a1_x.Args.drop 0).take (1 - 0));(v2.length+z4.length<=4611686018427387904/\(v2.length+z4.length)*16<=140737488355328)/\ab (α:=List (List UInt8)) (fun J3=>ab (α:=Bool) (fun J5=>if(decide (a1_x.Op=26))=true then(J5 (decide (0 < (a1_x.Args.length:Int))))else(if(decide (a1_x.Op=27))=true then(J5 (decide (0 < (a1_x.Args.length:Int))))else(J5 false))) (fun v6=>if v6=true then((0:Int)<=1/\(0<=1/\1<=a1_x.Args.length)/\(ml (v2++z4) ((a1_x.Args.drop 0).take (1 - 0)))/\(z9.length+z6.length<=4611686018427387904/\(z9.length+z6.length)*16<=140737488355328)/\(0:Int)<=1/\(1<=a1_x.Args.length/\a1_x.Args.length<=a1_x.Args.length)/\(ml (z9++z6) ((a1_x.Args.drop 1).take (a1_x.Args.length - 1)))/\J3 (s6 (z9++z6) ((a1_x.Args.drop 1).take (a1_x.Args.length - 1))))else(ab (α:=List (List UInt8)) (fun J7=>if(((Lt.rOf a1_x.Op).1).Named)=true then(((v2++z4).length+z6.length<=4611686018427387904/\((v2++z4).length+z6.length)*16<=140737488355328)/\J7 ((v2++z4)++z6))else(J7 (v2++z4))) (fun v8=>(ml v8 a1_x.Args)/\J3 (s6 v8 a1_x.Args))))) (fun v4=>(bu a0_out v4)/\af (α:=List UInt8×Int) (fun R9 v10=>have z2:=((0:Int)<=v10.2/\v10.2.toNat<a1_x.Frames.length);have z1:=a1_x.Frames.getD v10.2.toNat default;(a1_x.Frames.length<=4611686018427387904->if(decide (v10.2 < (a1_x.Frames.length:Int)))=true then(ab (α:=List (List UInt8)) (fun J11=>have z7:=z2/\(z2/\(fV (z1.At))/\J11 [[97,116],z1.Func,z1.Block,(iM (z1.At))])/\((fV (z1.At))/\z2/\J11 [[97,116],z1.Func,z1.Block,(iM (z1.At))]);z2/\z7/\z7/\((fV (z1.At))/\z2/\z2/\J11 [[97,116],z1.Func,z1.Block,(iM (z1.At))])) (fun v12=>af (α:=List (List UInt8)×Int) (fun R13 v14=>have z11:=((0:Int)<=v14.2/\v14.2.toNat < (z1.Vars).length);have z10:=(z1.Vars).getD v14.2.toNat default;have z3:=([z10.Name,(bB (z10.A))]:List (List UInt8));have z12:=v14.1.length+z3.length<=4611686018427387904/\(v14.1.length+z3.length)*16<=140737488355328;z2/\((z1.Vars).length<=4611686018427387904->if(decide (v14.2 < ((z1.Vars).length:Int)))=true then(ab (α:=List (List UInt8)) (fun J15=>z2/\z11/\(z2/\z11/\(kg (z10.A))/\z12/\J15 (v14.1++z3))/\((kg (z10.A))/\z2/\z11/\z12/\J15 (v14.1++z3))) (fun v16=>R13 (v16,(i64.wrap (v14.2+1)))))else((bu v10.1 v14.1)/\R9 ((fW v10.1 v14.1),(i64.wrap (v10.2+1)))))) (v12,0)))else(af (α:=List UInt8×Int) (fun R17 v18=>have z8:=a1_x.Objs.getD v18.2.toNat default;(a1_x.Objs.length<=4611686018427387904->if(decide (v18.2 < (a1_x.Objs.length:Int)))=true then(ab (α:=List UInt8) (fun J19=>have z5:=(((0:Int)<=v18.2/\v18.2.toNat<a1_x.Objs.length)/\(ml [[111,98,106],z8.Class] (z8.Vals))/\(bu v18.1 (s6 [[111,98,106],z8.Class] (z8.Vals)))/\J19 (fW v18.1 (s6 [[111,98,106],z8.Class] (z8.Vals))));((0:Int)<=v18.2/\v18.2.toNat<a1_x.Objs.length)/\z5/\z5) (fun v20=>R17 (v20,(i64.wrap (v18.2+1)))))else(KK v18.1))) (v10.1,0)))) ((fW a0_out v4),0)))
def C0(a0_out:List UInt8)(a1_t:Lt.Term)(KK:(List UInt8)->Prop):Prop:=
 have z2:=([(iM a1_t.N)]:List (List UInt8));have z1:=([([]:List UInt8),[106,117,109,112],[98,114,97,110,99,104],[114,101,116],[116,114,97,112]].getD a1_t.Kind.toNat default);ab (α:=Bool) (fun J1=>if(decide (a1_t.Kind < 1))=true then(J1 true)else(J1 (decide (4<a1_t.Kind)))) (fun v2=>if v2=true then(KK a0_out)else(((0:Int)<=a1_t.Kind/\a1_t.Kind < (([([]:List UInt8),[106,117,109,112],[98,114,97,110,99,104],[114,101,116],[116,114,97,112]].length:Nat):Int))/\ab (α:=List (List UInt8)) (fun J3=>ab (α:=Bool) (fun J5=>if(decide (a1_t.Kind=2))=true then(J5 true)else(J5 (decide (a1_t.Kind=3)))) (fun v6=>if v6=true then((kg a1_t.A)/\(([z1]:List (List UInt8)).length+([(bB a1_t.A)]:List (List UInt8)).length<=4611686018427387904/\(([z1]:List (List UInt8)).length+([(bB a1_t.A)]:List (List UInt8)).length)*16<=140737488355328)/\J3 [z1,(bB a1_t.A)])else(J3 [z1]))) (fun v4=>(v4.length+a1_t.To.length<=4611686018427387904/\(v4.length+a1_t.To.length)*16<=140737488355328)/\ab (α:=List (List UInt8)) (fun J7=>if(decide (a1_t.Kind=4))=true then((fV a1_t.N)/\((v4++a1_t.To).length+z2.length<=4611686018427387904/\((v4++a1_t.To).length+z2.length)*16<=140737488355328)/\J7 ((v4++a1_t.To)++z2))else(J7 (v4++a1_t.To))) (fun v8=>(bu a0_out v8)/\KK (fW a0_out v8)))))
def xw(a0_p:Lt.Program)(KK:(List UInt8)->Prop):Prop:=
 ab (α:=List UInt8) (fun J1=>if a0_p.SSA=true then((bu [] [[115,115,97]])/\J1 (fW [] [[115,115,97]]))else(J1 [])) (fun v2=>af (α:=List UInt8×Int) (fun R3 v4=>have z15:=((0:Int)<=v4.2/\v4.2.toNat<a0_p.Classes.length);have z7:=a0_p.Classes.getD v4.2.toNat default;have z13:=fW v4.1 [[99,108,97,115,115],z7.Name];(a0_p.Classes.length<=4611686018427387904->if(decide (v4.2 < (a0_p.Classes.length:Int)))=true then(ab (α:=List UInt8) (fun J5=>have z6:=(z15/\(bu v4.1 [[99,108,97,115,115],z7.Name])/\(cp z13 [102,105,101,108,100] (z7.Fields))/\J5 (nF z13 [102,105,101,108,100] (z7.Fields)));z15/\(((bu v4.1 [[99,108,97,115,115],z7.Name])/\z15/\(cp z13 [102,105,101,108,100] (z7.Fields))/\J5 (nF z13 [102,105,101,108,100] (z7.Fields)))/\z6)/\z6) (fun v6=>R3 (v6,(i64.wrap (v4.2+1)))))else((cp v4.1 [103,108,111,98,97,108] a0_p.Globals)/\af (α:=List UInt8×Int) (fun R7 v8=>have z16:=((0:Int)<=v8.2/\v8.2.toNat<a0_p.Externs.length);have z8:=a0_p.Externs.getD v8.2.toNat default;have z21:=fW v8.1 [[101,120,116,101,114,110],z8.Name,(iM (z8.N))];have z20:=bu v8.1 [[101,120,116,101,114,110],z8.Name,(iM (z8.N))];(a0_p.Externs.length<=4611686018427387904->if(decide (v8.2 < (a0_p.Externs.length:Int)))=true then(ab (α:=List UInt8) (fun J9=>z16/\(z16/\(fV (z8.N))/\z20/\J9 z21)/\((fV (z8.N))/\z16/\z20/\J9 z21)) (fun v10=>R7 (v10,(i64.wrap (v8.2+1)))))else(af (α:=List UInt8×Int) (fun R11 v12=>have z1:=a0_p.Funcs.getD v12.2.toNat default;have z14:=fW v12.1 [[102,117,110,99],z1.Name,z1.Result];have z12:=bu v12.1 [[102,117,110,99],z1.Name,z1.Result];have z10:=nF z14 [112,97,114,97,109] (z1.Params);(a0_p.Funcs.length<=4611686018427387904->if(decide (v12.2 < (a0_p.Funcs.length:Int)))=true then(((0:Int)<=v12.2/\v12.2.toNat<a0_p.Funcs.length)/\ab (α:=List UInt8) (fun J13=>have z3:=(cp z14 [112,97,114,97,109] (z1.Params))/\(cp z10 [118,97,114] (z1.Vars))/\J13 (nF z10 [118,97,114] (z1.Vars));have z2:=z12/\(cp z14 [112,97,114,97,109] (z1.Params))/\(cp z10 [118,97,114] (z1.Vars))/\J13 (nF z10 [118,97,114] (z1.Vars));((z12/\z3/\z3)/\((z12/\z3/\z3)/\z2)/\(z2/\z2))/\(((z12/\z3/\z3)/\z2)/\z2)/\((z2/\z2)/\z2)) (fun v14=>af (α:=List UInt8×Int) (fun R15 v16=>have z4:=(z1.Blocks).getD v16.2.toNat default;have z22:=Lt.Term.mk ((z4.End).Kind) ((z4.End).A) ((z4.End).To) ((z4.End).N);((z1.Blocks).length<=4611686018427387904->if(decide (v16.2 < ((z1.Blocks).length:Int)))=true then(((0:Int)<=v16.2/\v16.2.toNat < (z1.Blocks).length)/\(bu v16.1 [[98,108,111,99,107],z4.Name])/\af (α:=List UInt8×Int) (fun R17 v18=>have z11:=((0:Int)<=v18.2/\v18.2.toNat < (z4.Phis).length);have z9:=((z4.Phis).getD v18.2.toNat default).Ins;((z4.Phis).length<=4611686018427387904->if(decide (v18.2 < ((z4.Phis).length:Int)))=true then(z11/\af (α:=List (List UInt8)×Int) (fun R19 v20=>have z19:=z9.getD v20.2.toNat default;have z18:=((0:Int)<=v20.2/\v20.2.toNat<z9.length);have z5:=([z19.Block,(bB (z19.A))]:List (List UInt8));have z17:=v20.1.length+z5.length<=4611686018427387904/\(v20.1.length+z5.length)*16<=140737488355328;z11/\(z9.length<=4611686018427387904->if(decide (v20.2 < (z9.length:Int)))=true then(ab (α:=List (List UInt8)) (fun J21=>z11/\z18/\(z11/\z18/\(kg (z19.A))/\z17/\J21 (v20.1++z5))/\((kg (z19.A))/\z11/\z18/\z17/\J21 (v20.1++z5))) (fun v22=>R19 (v22,(i64.wrap (v20.2+1)))))else((bu v18.1 v20.1)/\R17 ((fW v18.1 v20.1),(i64.wrap (v18.2+1)))))) ([[112,104,105],((z4.Phis).getD v18.2.toNat default).Dst],0))else(af (α:=List UInt8×Int) (fun R23 v24=>((z4.Code).length<=4611686018427387904->if(decide (v24.2 < ((z4.Code).length:Int)))=true then(((0:Int)<=v24.2/\v24.2.toNat < (z4.Code).length)/\(zx v24.1 ((z4.Code).getD v24.2.toNat default))/\R23 ((OT v24.1 ((z4.Code).getD v24.2.toNat default)),(i64.wrap (v24.2+1))))else((s4 v24.1 z22)/\R15 ((OU v24.1 z22),(i64.wrap (v16.2+1)))))) (v18.1,0)))) ((fW v16.1 [[98,108,111,99,107],z4.Name]),0))else(R11 (v16.1,(i64.wrap (v12.2+1)))))) (v14,0)))else(KK v12.1))) (v8.1,0)))) ((nF v4.1 [103,108,111,98,97,108] a0_p.Globals),0)))) (v2,0))
theorem qY{n:Nat}(h:n < 10):Lt.digs n=[UInt8.ofNat (48+n)]:=by
 rw[Lt.digs,if_pos h]
theorem GM{n:Nat}(h:¬ n < 10):Lt.digs n=Lt.digs (n / 10)++[UInt8.ofNat (48+n % 10)]:=by
 rw[Lt.digs,if_neg h]
theorem yy:∀(k n:Nat),n < 10 ^ (k+1)->(Lt.digs n).length<=k+1
 |0,n,h=>by rw[qY kQ1];simp
 |k+1,n,h=>by
  by_cases h10:n < 10
  ·rw[qY h10];simp
  ·rw[GM h10];have:=yy k (n / 10) (by rw[Nat.pow_succ]at h;omega)
   simp only[ac3,ac0,ac6];omega
theorem zc{n:Int}(h:Lt.inR n):(Ea n).length<=20:=by
 unfold Lt.inR at h;have:=yy 18 n.natAbs kQ1
 unfold Ea;simp only[ac3];split<;>simp<;>omega
theorem vY{n:Nat}(h:n < 18446744073709551616):IntKind.u64.wrap (n:Int)=(n:Int):=by
 simp only[IntKind.wrap,IntKind.signed,IntKind.bits];simp;omega
theorem Ou{α:Type}(f g:α->List UInt8)(l:List α):(l.flatMap fun b=>[f b,g b]).length=2*l.length:=by
 induction l with
 |nil=>rfl
 |cons a l ih=>rw[adU,ac3,ih];simp;omega
theorem B2{α β:Type}[Inhabited α](f:α->List β)(l:List α){i:Nat}(h:i<l.length):(l.take (i+1)).flatMap f=(l.take i).flatMap f++f (l.getD i default):=by
 rw[ce l h,List.flatMap_append];simp
theorem dp{α β:Type}[Inhabited α](l:List α)(g:α->List β)(out:List β)(body:(List β×Int->Prop)->List β×Int->Prop)
  (hs:∀R i b,l.length<=LEN->i<l.length->b=out++(l.take i).flatMap g->R (b++g (l.getD i default),i64.wrap ((i:Int)+1))->body R (b,(i:Int)))
  (he:∀R,l.length<=LEN->body R (out++l.flatMap g,(l.length:Int))):af (fun R v=>l.length<=4611686018427387904->body R v) (out,0):=by
 by_cases hl:l.length<=LEN
 ·refine Uh l.length hl (fun i=>out++(l.take i).flatMap g) _ (fun R i hi ih _=>?_) (fun R _=>?_) (by simp)
  ·refine hs R i _ hl hi rfl ?_;rw[B2 g l hi,<- aeC]at ih;exact ih
  ·have:=he R hl
   rw[afA];exact this
 ·exact⟨1,fun h=>absurd h hl⟩
theorem gP{α β:Type}[Inhabited α](g:α->List β)(l:List α){i:Nat}(h:i<l.length):((l.take i).flatMap g).length+(g (l.getD i default)).length<=(l.flatMap g).length:=by
 have e:l.flatMap g=(l.take (i+1)).flatMap g++(l.drop (i+1)).flatMap g:=by rw[<- List.flatMap_append,ae1]
 rw[e,B2 g l h];simp only[ac3];omega
theorem YK:∀(ws:List (List UInt8)),ws.length<=(Lt.jw true ws).length
 |[]=>by simp
 |w::r=>by
  have:=YK r
  rw[Lt.jw];simp only[ac3,ac0,ac6,if_true];omega
theorem yU(ws:List (List UInt8)):ws.length<=(Lt.lnT ws).length:=by
 unfold Lt.lnT;cases ws with
 |nil=>simp
 |cons w r=>
  have:=YK r
  rw[Lt.jw];simp only[ac3,ac0,ac6];omega
theorem Uu(out:List UInt8)(l:List (List UInt8))(hp:bu out l)(KK:List UInt8->Prop)(h:KK (fW out l)):KB out l KK:=by
 unfold KB;(try simp only[aE,aK,aL,jval,bor,band,bnand,bimp,and_self]);unfold bu Lt.room at hp;by_cases hl:l.length<=LEN
 rotate_left
 ·exact⟨1,fun h=>absurd h hl⟩
 have hlen:(fW out l).length<=1099511627776:=by simpa[fW]using hp
 refine aZ _ l.length (fun i x=>∃b,x=(b,(i:Int))/\b++Lt.jw (decide (0<i)) (l.drop i)++[10]=fW out l) (fun R i x hi hP hR=>?_) (fun R x hP=>?_) _ ⟨out,rfl,by simp[fW,Lt.lnT]⟩
 ·obtain⟨b,rfl,e⟩:=hP;have ed:l.getD i default=l[i]:=by rw[List.getD,acW hi];rfl
  rw[aeP hi,Lt.jw,<- ed]at e;have el:=congrArg List.length e
  simp only[ac3,ac0,ac6]at el;simp only[aU hi,if_true,Int.toNat_natCast]
  try dsimp +instances only [Int.toNat_natCast]
  intro _ J hJ;have hj:J (b++(if decide (0<i)=true then [32]else [])):=by
   refine hJ _ ⟨⟨ac2 i,hi⟩,?_,?_⟩
   ·simp only[ac3];omega
   ·refine hR _ ⟨_,by rw[az (by unfold LEN at hl;omega)],?_⟩;rw[<- e];have:decide (0<i+1)=true:=by simp
    rw[this];simp only[aeC]
  by_cases h0:0<i
  ·have h1:decide ((0:Int) < (i:Int))=true:=by simp;omega
   simp only[h0,decide_true,if_true,ac0,ac6]at hj el;rw[if_pos h1];exact⟨by simp only[ac0,ac6];omega,hj⟩
  ·have h1:decide ((0:Int) < (i:Int))=false:=by simp;omega
   simp only[h0,decide_false,ac4,if_false,afF]at hj;rw[h1];simpa using hj
 ·obtain⟨b,rfl,e⟩:=hP;rw[ae2,Lt.jw,afF]at e;have el:=congrArg List.length e
  simp only[ac3,ac0,ac6]at el;intro _;simp only[gm,ac4,if_false];refine⟨by simp only[ac0,ac6];omega,?_⟩;rw[e];exact h
theorem QO(out first:List UInt8)(l:List Lt.Var)(hp:cp out first l)(KK:List UInt8->Prop)(h:KK (nF out first l)):C3 out first l KK:=by
 unfold C3;(try simp only[aE,aK,aL,jval,bor,band,bnand,bimp,and_self]);unfold cp iN at hp;refine dp l (fun v=>Lt.lnT [first,v.Name,v.Type_]) out _ (fun R i b hl hi hb ih=>?_) (fun R hl=>?_)
 ·simp only[aU hi,if_true,Int.toNat_natCast]
  try dsimp +instances only [Int.toNat_natCast]
  have:=gP (fun v:Lt.Var=>Lt.lnT [first,v.Name,v.Type_]) l hi
  refine⟨⟨ac2 i,hi⟩,⟨ac2 i,hi⟩,?_,ih⟩;unfold bu;rw[hb,ac3];omega
 ·simp only[gm,ac4,if_false];exact h
theorem QN(n:Int)(KK:Int->Prop)(h:KK (Cu n)):C2 n KK:=by
 unfold C2;(try simp only[aE,aK,aL,jval,bor,band,bnand,bimp,and_self]);refine kk h ?_;unfold Cu;grind
theorem Vh{n:Int}(h:Lt.inR n):Cu n=(n.natAbs:Int):=by
 unfold Lt.inR at h;unfold Cu;simp only[IntKind.wrap,IntKind.signed,IntKind.bits];split<;>simp<;>omega
theorem Us(n:Int)(hp:fV n)(KK:List UInt8->Prop)(h:KK (iM n)):KA n KK:=by
 unfold fV at hp;unfold KA;(try simp only[aE,aK,aL,jval,bor,band,bnand,bimp,and_self]);rw[Vh hp];have hdl:=yy 18 n.natAbs (by unfold Lt.inR at hp;omega)
 unfold Lt.inR at hp;intro J hJ;have hj:J (Lt.digs n.natAbs):=by
  refine hJ _ ?_;unfold iM Ea at h;refine ifk (fun hc=>⟨?_,kk h ?_⟩) (fun hc=>kk h ?_)
  ·simp only[ac0,ac6];omega
  ·rw[if_pos (by simpa using hc)]
  ·rw[if_neg (by simpa using hc)];rfl
 have step:∀(m:Nat)(acc:List UInt8)(R:List UInt8×Int->Prop),m<=9223372036854775808->Lt.digs m++acc=Lt.digs n.natAbs->(¬ m < 10->R (UInt8.ofNat (48+m % 10)::acc,((m / 10:Nat):Int))) ->
   (10:Int)≠0/\(([UInt8.ofNat (IntKind.u8.wrap (IntKind.u64.wrap (48+Int.tmod (m:Int) 10))).toNat]:List UInt8).length+acc.length<=4611686018427387904/\(([UInt8.ofNat (IntKind.u8.wrap (IntKind.u64.wrap (48+Int.tmod (m:Int) 10))).toNat]:List UInt8).length+acc.length)*1<=140737488355328)/\(10:Int)≠0 /\
    if decide (IntKind.u64.wrap (Int.tdiv (m:Int) 10)=0)=true then J ([UInt8.ofNat (IntKind.u8.wrap (IntKind.u64.wrap (48+Int.tmod (m:Int) 10))).toNat]++acc)
    else R ([UInt8.ofNat (IntKind.u8.wrap (IntKind.u64.wrap (48+Int.tmod (m:Int) 10))).toNat]++acc,IntKind.u64.wrap (Int.tdiv (m:Int) 10)):=by
  intro m acc R hm e hR;have w:IntKind.u64.wrap (48+Int.tmod (m:Int) 10)=((48+m % 10:Nat):Int):=by
   rw[show(48+Int.tmod (m:Int) 10)=((48+m % 10:Nat):Int)from rfl];exact vY kQ1
  have w2:UInt8.ofNat (IntKind.u8.wrap ((48+m % 10:Nat):Int)).toNat=UInt8.ofNat (48+m % 10):=by
   simp only[IntKind.wrap,IntKind.signed,IntKind.bits]
   congr 1
   simp;omega
  have w3:IntKind.u64.wrap (Int.tdiv (m:Int) 10)=((m / 10:Nat):Int):=by
   rw[show Int.tdiv (m:Int) 10=((m / 10:Nat):Int)from rfl];exact vY kQ1
  have el:=congrArg List.length e
  rw[ac3]at el;rw[w,w2,w3];refine⟨by decide,⟨by simp only[ac0,ac6];omega,by simp only[ac0,ac6];omega⟩,by decide,?_⟩;refine ifk (fun hc=>?_) (fun hc=>?_)
  ·have h10:m < 10:=by
    simp only[decide_eq_true_eq]at hc;omega
   rw[qY h10]at e;rw[Nat.mod_eq_of_lt h10];rw[e];exact hj
  ·exact hR (by simp only[decide_eq_true_eq]at hc;omega)
 refine aZ _ 20 (fun i x=>∃(m:Nat)(acc:List UInt8),x=(acc,(m:Int))/\m < 10 ^ (20-i)/\m<=9223372036854775808/\Lt.digs m++acc=Lt.digs n.natAbs) (fun R i x hi hP hR=>?_) (fun R x hP=>?_) _ ⟨n.natAbs,[],rfl,by omega,by omega,by simp⟩
 ·obtain⟨m,acc,rfl,hm,hm2,e⟩:=hP;refine step m acc R hm2 e (fun h10=>hR _ ⟨m / 10,_,rfl,?_,by omega,?_⟩)
  ·rw[show 20-i=(20 - (i+1))+1 by omega,Nat.pow_succ]at hm;omega
  ·rw[GM h10]at e;rw[<- e];simp
 ·obtain⟨m,acc,rfl,hm,hm2,e⟩:=hP;exact step m acc R hm2 e (fun h10=>absurd hm kQ1)
theorem u8w(y:Int):(((UInt8.ofNat (IntKind.u8.wrap y).toNat).toNat:Nat):Int)=IntKind.u8.wrap y:=by
 simp only[IntKind.wrap,IntKind.signed,IntKind.bits,UInt8.toNat_ofNat'];simp;omega
theorem Ur(n:Int)(KK:List UInt8->Prop)(h:KK (My n)):Kz n KK:=by
 unfold Kz;(try simp only[aE,aK,aL,jval,bor,band,bnand,bimp,and_self]);unfold My at h;have hb:∀x:Int,(if decide ((((UInt8.ofNat (IntKind.u8.wrap (Int.tmod x 16)).toNat).toNat:Nat):Int) < (((10:UInt8).toNat:Nat):Int))=true then UInt8.ofNat (IntKind.u8.wrap ((((UInt8.ofNat (IntKind.u8.wrap (Int.tmod x 16)).toNat).toNat:Nat):Int)+(((48:UInt8).toNat:Nat):Int))).toNat
   else UInt8.ofNat (IntKind.u8.wrap ((((UInt8.ofNat (IntKind.u8.wrap (Int.tmod x 16)).toNat).toNat:Nat):Int)+(((87:UInt8).toNat:Nat):Int))).toNat)=ZA x:=by
  intro x;rw[u8w];have e10:(((10:UInt8).toNat:Nat):Int)=10:=rfl
  have e48:(((48:UInt8).toNat:Nat):Int)=48:=rfl
  have e87:(((87:UInt8).toNat:Nat):Int)=87:=rfl
  rw[e10,e48,e87];unfold ZA;by_cases hc:IntKind.u8.wrap (Int.tmod x 16) < 10
  ·rw[if_pos (by simpa using hc),if_pos hc]
  ·rw[if_neg (by simpa using hc),if_neg hc]
 refine aZ _ 16 (fun i x=>∃(y:Int)(acc:List UInt8),x=(y,acc,(i:Int))/\acc.length=i/\DJ (16-i) y acc=DJ 16 (IntKind.u64.wrap (oT n)) []) (fun R i x hi hP hR=>?_) (fun R x hP=>?_) _ ⟨_,[],rfl,rfl,rfl⟩
 ·obtain⟨y,acc,rfl,hl,e⟩:=hP;have hd:decide ((i:Int) < 16)=true:=by simp;omega
  dsimp only;rw[hb,if_pos hd];refine⟨by decide,⟨by simp only[ac0,ac6];omega,by simp only[ac0,ac6];omega⟩,by decide,hR _ ⟨_,_,by rw[az kQ1],by simp[hl],?_⟩⟩;rw[show 16-i=(16 - (i+1))+1 by omega,DJ]at e;exact e
 ·obtain⟨y,acc,rfl,hl,e⟩:=hP;have hd:decide (((16:Nat):Int) < 16)=false:=by decide
  dsimp only;rw[if_neg (by rw[hd];exact Bool.false_ne_true)];refine⟨by simp only[ac0,ac6];omega,?_⟩;rw[show 16 - 16=0 from rfl,DJ]at e;rw[e];exact h
theorem LM(n:Int)(KK:Bool->Prop)(h:KK (Et n)):xv n KK:=by
 unfold xv;(try simp only[aE,aK,aL,jval,bor,band,bnand,bimp,and_self]);exact⟨by decide,h⟩
theorem LO(n:Int)(KK:Int->Prop)(h:KK (oT n)):xx n KK:=by
 unfold xx;(try simp only[aE,aK,aL,jval,bor,band,bnand,bimp,and_self]);exact h
theorem LP(a:Lt.Arg)(KK:Bool->Prop)(h:KK (zE a)):xy a KK:=by
 unfold xy;dsimp only;(try simp only[aE,aK,aL,jval,bor,band,bnand,bimp,and_self]);refine kk h ?_;unfold zE;obtain⟨k,s,n⟩:=a;dsimp only;by_cases k1:k=1
 ·subst k1;simp
 by_cases k2:k=2
 ·subst k2;by_cases hs:s=[]<;>simp[hs]
 by_cases k3:k=3
 ·subst k3;by_cases hs:s=[]<;>simp[hs]
 by_cases k4:k=4
 ·subst k4;by_cases hs:s=[]<;>simp[hs]
 by_cases k5:k=5
 ·subst k5;by_cases hs:s=[]<;>simp[hs,afB]
 have:k < 1\/5<k:=by omega
 have e:(decide (k < 1)||decide (5<k))=true:=by simpa using this
 grind
theorem QM(s:List UInt8)(KK:Bool->Prop)(h:KK (zD s)):C1 s KK:=by
 unfold C1;dsimp only;(try simp only[aE,aK,aL,jval,bor,band,bnand,bimp,and_self]);by_cases hl:s.length<=LEN
 rotate_left
 ·exact⟨1,fun h=>absurd h hl⟩
 refine aZ _ s.length (fun i x=>x=(i:Int)/\∀j,j<i->u5 j (s.getD j 0)=true) (fun R i x hi hP hR=>?_) (fun R x hP=>?_) _ ⟨rfl,by omega⟩
 ·obtain⟨rfl,hP⟩:=hP;simp only[aU hi,if_true,Int.toNat_natCast]
  try dsimp +instances only [Int.toNat_natCast]
  intro _;refine⟨⟨ac2 i,hi⟩,?_⟩;have key:u5 i (s.getD i 0)=true->R (i64.wrap ((i:Int)+1)):=fun hc=>hR _ ⟨by rw[az (by unfold LEN at hl;omega)],fun j hj=>by
   by_cases e:j=i
   ·rw[e];exact hc
   ·exact hP j kQ1⟩
  have key2:u5 i (s.getD i 0)=false->KK false:=fun hc=>by
   have:zD s=false:=by
    unfold zD;rw[Bool.and_eq_false_iff];refine .inl ?_;rw[List.all_eq_false];exact⟨i,by simpa using hi,by rw[hc];exact Bool.false_ne_true⟩
   rw[this]at h;exact h
  unfold u5 at key key2;clear hP hR h;generalize s.getD i 0=c at key key2⊢;have e48:(((48:UInt8).toNat:Nat):Int)=48:=rfl
  have e57:(((57:UInt8).toNat:Nat):Int)=57:=rfl
  have e95:(((95:UInt8).toNat:Nat):Int)=95:=rfl
  have e65:(((65:UInt8).toNat:Nat):Int)=65:=rfl
  have e90:(((90:UInt8).toNat:Nat):Int)=90:=rfl
  have e97:(((97:UInt8).toNat:Nat):Int)=97:=rfl
  have e122:(((122:UInt8).toNat:Nat):Int)=122:=rfl
  simp only[e48,e57,e95,e65,e90,e97,e122];generalize((c.toNat:Nat):Int)=z at key key2⊢
  grind
 ·obtain⟨rfl,hP⟩:=hP;intro _;simp only[gm,ac4,if_false];intro _;refine kk h ?_;have:(List.range s.length).all (fun i=>u5 i (s.getD i 0))=true:=by
   rw[adC];intro j hj;exact hP j (by simpa using hj)
  unfold zD;rw[this,ad6];simp only[afB]
theorem QP(a:Lt.Arg)(hp:kg a)(KK:List UInt8->Prop)(h:KK (bB a)):C4 a KK:=by
 unfold C4;(try simp only[aE,aK,aL,jval,bor,band,bnand,bimp,and_self]);unfold bB at h;unfold kg Lt.Arg.ok at hp;have hq:fV a.N:=hp
 have:=zc hp
 have e:(35::iM a.N).length<=4611686018427387904:=by simp only[ac0,iM];omega
 grind
theorem QJ(l:List (List UInt8))(a:List Lt.Arg)(hp:ml l a)(KK:List (List UInt8)->Prop)(h:KK (s6 l a)):CY l a KK:=by
 unfold CY;(try simp only[aE,aK,aL,jval,bor,band,bnand,bimp,and_self]);obtain⟨hok,hp⟩:=hp;unfold Lt.room at hp;have e:∀l:List Lt.Arg,(l.flatMap fun x=>[bB x])=l.map bB:=fun l=>by induction l<;>simp_all
 refine dp a (fun x=>[bB x]) l _ (fun R i b hl hi hb ih=>?_) (fun R hl=>?_)
 ·simp only[aU hi,if_true,Int.toNat_natCast]
  try dsimp +instances only [Int.toNat_natCast]
  have:=gP (fun x=>[bB x]) a hi
  rw[e,e,acY]at this;refine⟨⟨ac2 i,hi⟩,hok _ (bJ _ hi),?_,ih⟩;rw[hb,e];simp only[ac3,acY,ad8,ac0,ac6];omega
 ·simp only[gm,ac4,if_false];rw[e];exact h
theorem QL(out:List UInt8)(t:Lt.Term)(hp:s4 out t)(KK:List UInt8->Prop)(h:KK (OU out t)):C0 out t KK:=by
 obtain⟨⟨okA,okN⟩,hp⟩:=hp;unfold C0;dsimp only;(try simp only[aE,aK,aL,jval,bor,band,bnand,bimp,and_self]);unfold OU at h;refine ifk (fun hc=>kk h ?_) (fun hc=>?_)
 ·unfold zC;rw[if_pos (by simpa using hc)];simp
 ·have hk:¬ (t.Kind < 1\/4<t.Kind):=by simpa using hc
  unfold zC at h hp;rw[if_neg hk]at h hp;have hlen:t.To.length<=1099511627776:=by
   have:=yU (vS t)
   have h2:t.To.length<=(vS t).length:=by unfold vS;simp only[ac3];omega
   unfold Lt.room at hp;omega
  refine⟨⟨by omega,by simp only[ac0,ac6];omega⟩,?_⟩;generalize hw:([[],[106,117,109,112],[98,114,97,110,99,104],[114,101,116],[116,114,97,112]]:List (List UInt8)).getD t.Kind.toNat default=w;have he:vS t=([w]++(if t.Kind=2\/t.Kind=3 then [bB t.A]else []))++t.To++(if t.Kind=4 then [iM t.N]else []):=by
   rw[<- hw];rfl
  intro J hJ;have hj:J ([w]++(if t.Kind=2\/t.Kind=3 then [bB t.A]else [])):=by
   refine hJ _ ?_;generalize hv:([w]++(if t.Kind=2\/t.Kind=3 then [bB t.A]else []))=v at he;have hvl:v.length<=2:=by rw[<- hv];split<;>simp
   refine⟨⟨by omega,by omega⟩,?_⟩;intro J2 hJ2;have hj2:J2 (vS t):=hJ2 _ ⟨hp,h⟩
   rw[he]at hj2;refine ifk (fun hc=>⟨okN,?_,?_⟩) (fun hc=>?_)
   ·simp only[ac3,ac0,ac6];omega
   ·rw[if_pos (by simpa using hc)]at hj2;exact hj2
   ·rw[if_neg (by simpa using hc),afF]at hj2;exact hj2
  refine ifk (fun hc=>⟨okA,?_,?_⟩) (fun hc=>?_)
  ·simp
  ·rw[if_pos (by simpa using hc)]at hj;exact hj
  ·rw[if_neg (by simpa using hc)]at hj;exact hj
theorem Xk(n:Int)(KK:Lt.RForm×Bool->Prop)(h:KK (Lt.rOf n)):NK n KK:=by
 by_cases hr:n < 1\/34<n
 ·unfold NK Lt.rOf at *;rw[if_pos hr]at h;simp only[aE,jval,bor];rw[if_pos (by simpa using hr)];exact h
 ·have:n=1\/n=2\/n=3\/n=4\/n=5\/n=6\/n=7\/n=8\/n=9\/n=10\/n=11\/n=12\/n=13\/n=14\/n=15\/n=16\/n=17\/n=18\/n=19\/n=20\/n=21\/n=22\/n=23\/n=24\/n=25\/n=26\/n=27\/n=28\/n=29\/n=30\/n=31\/n=32\/n=33\/n=34:=by omega
  rcases this with rfl|rfl|rfl|rfl|rfl|rfl|rfl|rfl|rfl|rfl|rfl|rfl|rfl|rfl|rfl|rfl|rfl|rfl|rfl|rfl|rfl|rfl|rfl|rfl|rfl|rfl|rfl|rfl|rfl|rfl|rfl|rfl|rfl|rfl
  all_goals
   simp[Lt.rOf]at h;simp[NK,aE,gw];exact h
theorem QK(out:List UInt8)(x:Lt.Instr)(hp:zx out x)(KK:List UInt8->Prop)(h:KK (OT out x)):CZ out x KK:=by
 obtain⟨⟨okA,okF,okO⟩,okAt,hp⟩:=hp;unfold lF Lt.room at hp;simp only[ac3]at hp;unfold CZ;dsimp only;(try simp only[aE,aK,aL,jval,bor,band,bnand,bimp,and_self]);intro J hJ;have hw:=yU (km x)
 have j1:J (if(Lt.rOf x.Op).1.Dst=true then [x.Dst,[61]]else []):=by
  refine hJ _ ?_;generalize hv:(if(Lt.rOf x.Op).1.Dst=true then [x.Dst,[61]]else [])=v;have hh:s7 x=v++[(Lt.rOf x.Op).1.Word]:=by rw[<- hv];rfl
  have hvl:v.length<=2:=by rw[<- hv];split<;>simp
  refine⟨⟨by simp only[ac0,ac6];omega,by simp only[ac0,ac6];omega⟩,?_⟩;rw[<- hh];have hhl:(s7 x).length<=3:=by rw[hh];simp;omega
  intro J2 hJ2;have j2:J2 (km x):=by
   refine hJ2 _ ⟨by unfold bu Lt.room;omega,?_⟩;refine dp x.Frames (fun f=>Lt.lnT (eY f)) (fW out (km x)) _ (fun R i b hl hi hb ih=>?_) (fun R hl=>?_)
   ·simp only[aU hi,if_true,Int.toNat_natCast]
    try dsimp +instances only [Int.toNat_natCast]
    have o:(0:Int)<=(i:Int)/\i<x.Frames.length:=⟨ac2 i,hi⟩
    have pN:fV (x.Frames.getD i default).At:=bL okAt hi
    simp only[o,pN,and_self,true_and];(try simp only[aE,aK,aL,jval,bor,band,bnand,bimp,and_self]);have fl:=gP (fun f=>Lt.lnT (eY f)) x.Frames hi
    have okf:=bL okF hi
    generalize x.Frames.getD i default=f at fl okf pN ih⊢;have hbl:b.length+(Lt.lnT (eY f)).length<=1099511627776:=by
     rw[hb];simp only[fW,ac3];omega
    have hfw:=yU (eY f)
    have hfl:(eY f).length=4+2*f.Vars.length:=by
     simp only[eY,ac3,Ou,ac0,ac6]
    refine dp f.Vars (fun v=>[v.Name,bB v.A]) _ _ (fun R2 j w hl2 hj hw ih2=>?_) (fun R2 hl2=>?_)
    ·simp only[aU hj,if_true,Int.toNat_natCast]
     try dsimp +instances only [Int.toNat_natCast]
     have o2:(0:Int)<=(j:Int)/\j<f.Vars.length:=⟨ac2 j,hj⟩
     have pA:kg (f.Vars.getD j default).A:=okf.2 _ (bJ _ hj)
     simp only[o2,pA,and_self,true_and];(try simp only[aE,aK,aL,jval,bor,band,bnand,bimp,and_self]);refine⟨?_,ih2⟩;rw[hw];simp only[ac3,Ou,ac0,ac6,ad8];omega
    ·simp only[gm,ac4,if_false];refine⟨?_,ih⟩;unfold bu Lt.room;exact hbl
   ·simp only[gm,ac4,if_false];refine dp x.Objs (fun o=>Lt.lnT (iO o)) _ _ (fun R i b hl hi hb ih=>?_) (fun R hl=>?_)
    ·simp only[aU hi,if_true,Int.toNat_natCast]
     try dsimp +instances only [Int.toNat_natCast]
     have fl:=gP (fun o=>Lt.lnT (iO o)) x.Objs hi
     have oko:=bL okO hi
     have o:(0:Int)<=(i:Int)/\i<x.Objs.length:=⟨ac2 i,hi⟩
     refine⟨o,o,?_⟩;generalize x.Objs.getD i default=v at fl oko ih⊢;have hbl:b.length+(Lt.lnT (iO v)).length<=1099511627776:=by
      rw[hb];simp only[fW,ac3];omega
     have hfw:=yU (iO v)
     have hfl:(iO v).length=2+v.Vals.length:=by
      simp only[iO,ac3,acY,ac0,ac6]
     refine⟨⟨oko,?_⟩,?_,ih⟩
     ·unfold Lt.room;simp only[ac0,ac6];omega
     ·unfold bu Lt.room;exact hbl
    ·simp only[gm,ac4,if_false];unfold OT lF at h;simp only[fW,aeC]at h⊢;exact h
  have hlen:=hw
  refine ifk (fun hc=>?_) (fun hc=>?_)
  ·have hc':(x.Op=26\/x.Op=27)/\x.Args≠[]:=by
    cases hx:x.Args with
    |nil=>rw[hx]at hc;simp at hc
    |cons a r=>
     rw[hx]at hc;refine⟨?_,by simp⟩;by_cases h26:x.Op=26
     ·exact .inl h26
     ·by_cases h27:x.Op=27
      ·exact .inr h27
      ·simp[h26,h27]at hc
   have hne:1<=x.Args.length:=by
    have:=hc'.2
    cases hx:x.Args with
    |nil=>exact absurd hx this
    |cons a r=>simp
   have e:km x=s7 x++(x.Args.take 1).map bB++[x.Name]++(x.Args.drop 1).map bB:=by
    unfold km;rw[if_pos hc']
   have el:=congrArg List.length e
   simp only[ac3,acY,ad8,List.length_drop,ac0,ac6]at el;have t1:List.take (1 - 0) (List.drop 0 x.Args)=x.Args.take 1:=rfl
   have t2:List.take (x.Args.length - 1) (List.drop 1 x.Args)=x.Args.drop 1:=List.take_of_length_le (by simp)
   rw[t1,t2];refine⟨by omega,⟨by omega,hne⟩,⟨fun a ha=>okA a (List.mem_of_mem_take ha),?_⟩,?_,by omega,⟨hne,ac1 _⟩,⟨fun a ha=>okA a (List.mem_of_mem_drop ha),?_⟩,?_⟩
   ·unfold Lt.room;rw[ad8];omega
   ·simp only[s6,ac3,acY,ad8,ac0,ac6];omega
   ·unfold Lt.room;simp only[s6,ac3,acY,ad8,List.length_drop,ac0,ac6];omega
   ·rw[e]at j2;exact j2
  ·have hc':¬ ((x.Op=26\/x.Op=27)/\x.Args≠[]):=by
    rintro⟨h1,h2⟩
    have:0<x.Args.length:=List.length_pos_iff.2 h2
    refine hc ?_;rcases h1 with h1|h1<;>simp[h1]<;>omega
   have e:km x=s7 x++(if(Lt.rOf x.Op).1.Named then [x.Name]else [])++x.Args.map bB:=by
    unfold km;rw[if_neg hc']
   have el:=congrArg List.length e
   simp only[ac3,acY]at el;intro J3 hJ3;have j3:J3 (s7 x++(if(Lt.rOf x.Op).1.Named then [x.Name]else [])):=by
    refine hJ3 _ ⟨⟨okA,?_⟩,?_⟩
    ·unfold Lt.room;simp only[ac3];omega
    ·rw[e]at j2;exact j2
   refine ifk (fun hn=>⟨?_,?_⟩) (fun hn=>?_)
   ·simp only[ac0,ac6];omega
   ·rw[if_pos hn]at j3;exact j3
   ·rw[if_neg hn,afF]at j3;exact j3
 exact ifk (fun hc=>⟨by simp,by rw[if_pos hc]at j1;exact j1⟩) (fun hc=>by rw[if_neg hc]at j1;exact j1)
theorem LN(p:Lt.Program)(hp:mm p)(KK:List UInt8->Prop)(h:KK (nl p)):xw p KK:=by
 obtain⟨okP,okE,okAt,hp⟩:=hp;unfold xw;dsimp only;(try simp only[aE,aK,aL,jval,bor,band,bnand,bimp,and_self]);unfold nl at h hp;unfold Lt.room at hp;simp only[ac3]at hp;intro J hJ;have j1:J (if p.SSA=true then Lt.lnT [[115,115,97]]else []):=by
  refine hJ _ ?_;generalize(if p.SSA=true then Lt.lnT [[115,115,97]]else [])=s at h hp;refine dp p.Classes jl s _ (fun R i b hl hi hb ih=>?_) (fun R hl=>?_)
  ·simp only[aU hi,if_true,Int.toNat_natCast]
   try dsimp +instances only [Int.toNat_natCast]
   have o:(0:Int)<=(i:Int)/\i<p.Classes.length:=⟨ac2 i,hi⟩
   have fl:=gP jl p.Classes hi
   generalize p.Classes.getD i default=c at fl ih⊢;have hbl:b.length+(jl c).length<=1099511627776:=by rw[hb,ac3];omega
   simp only[jl,ac3]at hbl;have p1:bu b [[99,108,97,115,115],c.Name]:=by unfold bu Lt.room;omega
   have p2:cp (fW b [[99,108,97,115,115],c.Name]) [102,105,101,108,100] c.Fields:=by
    unfold cp Lt.room;simp only[fW,ac3];omega
   simp only[o,p1,p2,and_self,true_and];(try simp only[aE,aK,aL,jval,bor,band,bnand,bimp,and_self]);simp only[jl,<- aeC]at ih;exact ih
  ·simp only[gm,ac4,if_false];refine⟨by unfold cp Lt.room;simp only[ac3];omega,?_⟩;refine dp p.Externs kl _ _ (fun R i b hl hi hb ih=>?_) (fun R hl=>?_)
   ·simp only[aU hi,if_true,Int.toNat_natCast]
    try dsimp +instances only [Int.toNat_natCast]
    have o:(0:Int)<=(i:Int)/\i<p.Externs.length:=⟨ac2 i,hi⟩
    have fl:=gP kl p.Externs hi
    have pN:fV (p.Externs.getD i default).N:=bL okE hi
    generalize p.Externs.getD i default=c at fl ih pN⊢;have p1:bu b [[101,120,116,101,114,110],c.Name,iM c.N]:=by
     unfold bu Lt.room;rw[hb];simp only[nF,ac3];unfold iN at hp;have:(kl c)=Lt.lnT [[101,120,116,101,114,110],c.Name,iM c.N]:=rfl
     rw[<- this];omega
    simp only[o,p1,pN,and_self,true_and];(try simp only[aE,aK,aL,jval,bor,band,bnand,bimp,and_self]);exact ih
   ·simp only[gm,ac4,if_false];refine dp p.Funcs nk _ _ (fun R i b hl hi hb ih=>?_) (fun R hl=>?_)
    ·simp only[aU hi,if_true,Int.toNat_natCast]
     try dsimp +instances only [Int.toNat_natCast]
     have o:(0:Int)<=(i:Int)/\i<p.Funcs.length:=⟨ac2 i,hi⟩
     have fl:=gP nk p.Funcs hi
     have okf:=bL okP hi
     have okat:=bL okAt hi
     refine⟨o,?_⟩;generalize p.Funcs.getD i default=f at fl okf okat ih⊢;have hbl:b.length+(nk f).length<=1099511627776:=by
      rw[hb];unfold iN at hp;simp only[nF,ac3];omega
     simp only[nk,ac3]at hbl;refine⟨by unfold bu Lt.room;omega,by unfold cp Lt.room;simp only[fW,ac3];omega,?_,?_⟩
     ·unfold cp Lt.room;unfold iN at hbl⊢;simp only[nF,fW,ac3];omega
     ·refine dp f.Blocks jk _ _ (fun R2 j b2 hl2 hj hb2 ih2=>?_) (fun R2 hl2=>?_)
      ·simp only[aU hj,if_true,Int.toNat_natCast]
       try dsimp +instances only [Int.toNat_natCast]
       have o2:(0:Int)<=(j:Int)/\j<f.Blocks.length:=⟨ac2 j,hj⟩
       have fl2:=gP jk f.Blocks hj
       have okb:=bL okf hj
       have okbt:=bL okat hj
       simp only[o2,and_self,true_and];generalize f.Blocks.getD j default=k at fl2 okb okbt ih2⊢;have hb2l:b2.length+(jk k).length<=1099511627776:=by
        rw[hb2];unfold iN at hbl;simp only[nF,fW,ac3];omega
       simp only[jk,ac3]at hb2l;refine⟨by unfold bu Lt.room;omega,?_⟩;refine dp k.Phis (fun x=>Lt.lnT (nE x)) _ _ (fun R3 q b3 hl3 hq hb3 ih3=>?_) (fun R3 hl3=>?_)
       ·simp only[aU hq,if_true,Int.toNat_natCast]
        try dsimp +instances only [Int.toNat_natCast]
        have o3:(0:Int)<=(q:Int)/\q<k.Phis.length:=⟨ac2 q,hq⟩
        have fl3:=gP (fun x=>Lt.lnT (nE x)) k.Phis hq
        have okx:=bL okb.1 hq
        simp only[o3,and_self,true_and];generalize k.Phis.getD q default=x at fl3 okx ih3⊢;have hb3l:b3.length+(Lt.lnT (nE x)).length<=1099511627776:=by
         rw[hb3];simp only[fW,ac3];omega
        have hfw:=yU (nE x)
        have hfl:(nE x).length=2+2*x.Ins.length:=by
         simp only[nE,ac3,Ou,ac0,ac6]
        refine dp x.Ins (fun i=>[i.Block,bB i.A]) _ _ (fun R4 t w hl4 ht hw ih4=>?_) (fun R4 hl4=>?_)
        ·simp only[aU ht,if_true,Int.toNat_natCast]
         try dsimp +instances only [Int.toNat_natCast]
         have o4:(0:Int)<=(t:Int)/\t<x.Ins.length:=⟨ac2 t,ht⟩
         have pA:kg (x.Ins.getD t default).A:=okx.2 _ (bJ _ ht)
         simp only[o4,pA,and_self,true_and];(try simp only[aE,aK,aL,jval,bor,band,bnand,bimp,and_self]);refine⟨?_,ih4⟩;rw[hw];simp only[ac3,Ou,ac0,ac6,ad8];omega
        ·simp only[gm,ac4,if_false];refine⟨?_,ih3⟩;unfold bu Lt.room;exact hb3l
       ·simp only[gm,ac4,if_false];refine dp k.Code lF _ _ (fun R4 q b4 hl4 hq hb4 ih4=>?_) (fun R4 hl4=>?_)
        ·simp only[aU hq,if_true,Int.toNat_natCast]
         try dsimp +instances only [Int.toNat_natCast]
         have fl4:=gP lF k.Code hq
         have okc:=bL okb.2.1 hq
         have okct:=bL okbt hq
         refine⟨⟨ac2 q,hq⟩,⟨okc,okct,?_⟩,ih4⟩;rw[hb4];unfold Lt.room;simp only[fW,ac3];omega
        ·simp only[gm,ac4,if_false];refine⟨(⟨okb.2.2,?_⟩:s4 _ k.End),?_⟩
         ·unfold Lt.room;simp only[fW,ac3];omega
         ·simp only[jk,<- aeC]at ih2;exact ih2
      ·simp only[gm,ac4,if_false];simp only[nk,<- aeC]at ih;exact ih
    ·simp only[gm,ac4,if_false];unfold iN at h;exact h
 exact ifk (fun hc=>⟨by unfold bu Lt.room;decide,by rw[if_pos hc]at j1;exact j1⟩) (fun hc=>by rw[if_neg hc]at j1;exact j1)
end Go.Am
end

section
namespace Go.Am
open Go Go.Proofs
set_option maxRecDepth 100000
def A9:CKt:=ap [] [.bo] (fun x=>Dp )
theorem P1:Cont prog 7 A9:=Wz
def xd:CKt:=Ef .b8 [.sl .s] (fun x y=>bu x y) (fun x y=>fW x y)
def N9:An:=.s .l (.s (.s .l (.b (.lp ⟨[1],[],[],[.ow 0 [.fr] .b8,.sl 5 (.i .i64)]⟩ (.s (.s .l (.c .l .l)) (.s (.b (.j ⟨[1,5],[],[],[.ow 0 [.fr] .b8]⟩ (.s .l (.c .l .l)) .l)) .l))))) (.s .l .l))
theorem RF(a0_out:List UInt8)(a1_l:List (List UInt8))(KK:(List UInt8)->Prop):KB a0_out a1_l KK=qR eZ f39 N9 .b8 [.sl .s] a0_out a1_l KK:=kQ0
theorem Dt:Cont prog 39 xd:=k3 eZ En.ok0 (fn:=f39) N9 (fun a0_out a1_l hp KK h=>Eq.mp (RF a0_out a1_l KK) (Uu a0_out a1_l hp KK h))
def NB:CKt:=Ef .b8 [.s,(.sl (.st .Var))] (fun x y=>cp x y.1 y.2) (fun x y=>nF x y.1 y.2)
def Ge:An:=.s .l (.s (.s .l (.b (.lp ⟨[1,2],[],[],[.ow 0 [.fr] .b8,.sl 7 (.i .i64)]⟩ (.s (.s .l (.c .l .l)) (.s (.b .l) .l))))) (.s .l .l))
noncomputable abbrev e_rVars:En:=⟨prog,eU,[(39,xd)],[],noP⟩
theorem M5(a0_out:List UInt8)(a1_first:List UInt8)(a2_l:List Lt.Var)(KK:(List UInt8)->Prop):C3 a0_out a1_first a2_l KK=qR e_rVars f40 Ge .b8 [.s,(.sl (.st .Var))] a0_out (a1_first,a2_l) KK:=kQ0
theorem WL:Cont prog 40 NB:=k3 e_rVars (En.okc Dt En.ok0) (fn:=f40) Ge (fun a0_out(a1_first,a2_l)hp KK h=>Eq.mp (M5 a0_out a1_first a2_l KK) (QO a0_out a1_first a2_l hp KK h))
def NA:CKt:=ap [.i .i64] [.i .u64] (fun x=>Cu x)
def Gc:An:=.s .l (.s (.s .l (.c (.s .l .l) .l)) (.s .l .l))
theorem M4(a0_n:Int)(KK:Int->Prop):C2 a0_n KK=ao eZ f82 Gc [.i .i64] [.i .u64] a0_n KK:=kQ0
theorem WK:Cont prog 82 NA:=k0 eZ En.ok0 (fn:=f82) Gc (fun a0_n KK h=>Eq.mp (M4 a0_n KK) (QN a0_n KK h))
def xb:CKt:=bd [.i .i64] [.s] (fun x=>fV x) (fun x=>iM x)
def N8:An:=.s .l (.s .l (.s .l (.j ⟨[0],[],[],[.ow 3 [.fr] .b8]⟩ (.b (.lp ⟨[0],[],[],[.ow 3 [.fr] .b8,.sl 4 (.i .u64)]⟩ (.b (.s .l (.s .l (.s .l (.c .l .l))))))) (.s (.s .l (.c (.s .l .l) .l)) (.s .l .l)))))
noncomputable abbrev e_rNum:En:=⟨prog,eU,[(82,NA)],[],noP⟩
theorem RE(a0_n:Int)(KK:(List UInt8)->Prop):KA a0_n KK=ao e_rNum f41 N8 [.i .i64] [.s] a0_n KK:=kQ0
theorem Ds:Cont prog 41 xb:=k1 e_rNum (En.okc WK En.ok0) (fn:=f41) N8 (fun a0_n hp KK h=>Eq.mp (RE a0_n KK) (Us a0_n hp KK h))
def Nz:CKt:=ap [.s] [.bo] (fun x=>zD x)
def Gb:An:=.s .l (.s (.s .l (.b (.lp ⟨[0],[],[],[.sl 3 (.i .i64)]⟩ (.s (.s .l (.c .l .l)) (.s (.b (.s .l (.j ⟨[0,3,4],[],[],[.sl 5 .bo]⟩ .l (.j ⟨[0,3],[],[],[.sl 46 .bo]⟩ .l (.c (.s .l .l) .l))))) .l))))) (.j ⟨[],[],[],[.sl 2 .bo]⟩ .l .l))
theorem M3(a0_s:List UInt8)(KK:Bool->Prop):C1 a0_s KK=ao eZ f152 Gb [.s] [.bo] a0_s KK:=kQ0
theorem WJ:Cont prog 152 Nz:=k0 eZ En.ok0 (fn:=f152) Gb (fun a0_s KK h=>Eq.mp (M3 a0_s KK) (QM a0_s KK h))
def Fg:CKt:=ap [.i .i64] [.bo] (fun x=>Et x)
def BI:An:=.s .l (.s .l (.s .l .l))
theorem JS(a0_n:Int)(KK:Bool->Prop):xv a0_n KK=ao eZ f199 BI [.i .i64] [.bo] a0_n KK:=kQ0
theorem TG:Cont prog 199 Fg:=k0 eZ En.ok0 (fn:=f199) BI (fun a0_n KK h=>Eq.mp (JS a0_n KK) (LM a0_n KK h))
def xc:CKt:=ap [.i .i64] [.i .i64] (fun x=>oT x)
def BK:An:=.s .l (.s (.s .l (.c (.s .l .l) .l)) (.s .l .l))
noncomputable abbrev e_rPlain:En:=⟨prog,eU,[(199,Fg)],[],noP⟩
theorem JU(a0_n:Int)(KK:Int->Prop):xx a0_n KK=ao e_rPlain f153 BK [.i .i64] [.i .i64] a0_n KK:=kQ0
theorem GB:Cont prog 153 xc:=k0 e_rPlain (En.okc TG En.ok0) (fn:=f153) BK (fun a0_n KK h=>Eq.mp (JU a0_n KK) (LO a0_n KK h))
def Fi:CKt:=ap [.st .Arg] [.bo] (fun x=>zE x)
def BL:An:=.s .l (.s (.s .l (.c (.s .l .l) .l)) (.s (.j ⟨[1],[.loc 1],[],[.sl 26 .bo]⟩ .l (.c (.s .l .l) .l)) (.j ⟨[],[],[],[.sl 2 .bo]⟩ .l .l)))
noncomputable abbrev e_rRight:En:=⟨prog,eU,[(152,Nz),(153,xc)],[],noP⟩
theorem JV(a0_a:Lt.Arg)(KK:Bool->Prop):xy a0_a KK=ao e_rRight f83 BL [.st .Arg] [.bo] a0_a KK:=kQ0
theorem TI:Cont prog 83 Fi:=k0 e_rRight (En.okc WJ (En.okc GB En.ok0)) (fn:=f83) BL (fun a0_a KK h=>Eq.mp (JV a0_a KK) (LP a0_a KK h))
def Sd:CKt:=ap [.i .i64] [.s] (fun x=>My x)
def N7:An:=.s .l (.s .l (.s .l (.s (.s .l (.b (.lp ⟨[],[],[],[.sl 3 (.i .u64),.ow 4 [.fr] .b8,.sl 5 (.i .i64)]⟩ (.s (.s .l (.c .l .l)) (.s (.b (.s .l (.j ⟨[3,4,5],[.gh 900004],[],[.sl 6 .b8]⟩ (.s .l (.c .l .l)) (.s .l .l)))) .l))))) (.s .l .l))))
noncomputable abbrev e_rFlo:En:=⟨prog,eU,[(153,xc)],[],noP⟩
theorem RD(a0_n:Int)(KK:(List UInt8)->Prop):Kz a0_n KK=ao e_rFlo f84 N7 [.i .i64] [.s] a0_n KK:=kQ0
theorem Zo:Cont prog 84 Sd:=k0 e_rFlo (En.okc GB En.ok0) (fn:=f84) N7 (fun a0_n KK h=>Eq.mp (RD a0_n KK) (Ur a0_n KK h))
def rN:CKt:=bd [.st .Arg] [.s] (fun x=>kg x) (fun x=>bB x)
def Gf:An:=.s .l (.s (.s .l (.c (.s .l .l) .l)) (.s (.s .l (.c (.s .l .l) .l)) (.s (.s .l (.c (.s .l .l) .l)) (.s (.s .l (.c (.s .l .l) .l)) (.s (.s .l (.c (.s .l .l) .l)) (.s .l .l))))))
noncomputable abbrev e_rWord:En:=⟨prog,eU,[(41,xb),(83,Fi),(84,Sd)],[],noP⟩
theorem M6(a0_a:Lt.Arg)(KK:(List UInt8)->Prop):C4 a0_a KK=ao e_rWord f42 Gf [.st .Arg] [.s] a0_a KK:=kQ0
theorem wC:Cont prog 42 rN:=k1 e_rWord (En.okc Ds (En.okc TI (En.okc Zo En.ok0))) (fn:=f42) Gf (fun a0_a hp KK h=>Eq.mp (M6 a0_a KK) (QP a0_a hp KK h))
def Yn:CKt:=ap [.i .i64] [.st .RForm,.bo] (fun x=>Lt.rOf x)
def Tc:An:=.s .l (.s (.j ⟨[0,2],[.loc 2],[],[.sl 10 .bo]⟩ .l (.c (.s .l .l) .l)) (.j ⟨[0,2],[.loc 2],[(4,.loc 4,0)],[.rt (.loc 4) [.fr,.fr,.fr,.fr,.fr] (.st .RForm)]⟩ .l (.j ⟨[2,4],[.loc 2],[],[.rt (.loc 4) [.fr,.fr,.fr,.fr,.fr] (.st .RForm)]⟩ (.s .l (.b (.j ⟨[2,4,48],[.loc 2,.loc 4],[],[.sl 51 .bo]⟩ (.s .l (.c .l (.s .l (.c .l (.s .l (.c .l (.s .l (.c .l (.s .l (.c .l .l)))))))))) (.c (.s .l .l) (.j ⟨[2,4,48],[.loc 2,.loc 4],[],[.sl 60 .bo]⟩ (.s .l (.c .l (.s .l (.c .l .l)))) (.c .l (.j ⟨[2,4],[.loc 2,.loc 4],[],[.sl 65 .bo]⟩ (.s .l (.c .l .l)) (.c .l (.s .l .l))))))))) (.s .l .l))))
theorem VK(a0_op:Int)(KK:(Lt.RForm×Bool)->Prop):NK a0_op KK=ao eZ f85 Tc [.i .i64] [.st .RForm,.bo] a0_op KK:=kQ0
theorem aaU:Cont prog 85 Yn:=k0 eZ En.ok0 (fn:=f85) Tc (fun a0_op KK h=>Eq.mp (VK a0_op KK) (Xk a0_op KK h))
def Nw:CKt:=Ef .s [(.sl (.st .Arg))] (fun x y=>ml x y) (fun x y=>s6 x y)
def F8:An:=.s .l (.s (.s .l (.b (.lp ⟨[1],[],[],[.ow 0 [.fr] .s,.sl 5 (.i .i64)]⟩ (.s (.s .l (.c .l .l)) (.s (.b .l) .l))))) (.s .l .l))
noncomputable abbrev e_rArgs:En:=⟨prog,eU,[(42,rN)],[],noP⟩
theorem M0(a0_l:List (List UInt8))(a1_a:List Lt.Arg)(KK:(List (List UInt8))->Prop):CY a0_l a1_a KK=qR e_rArgs f86 F8 .s [(.sl (.st .Arg))] a0_l a1_a KK:=kQ0
theorem WG:Cont prog 86 Nw:=k3 e_rArgs (En.okc wC En.ok0) (fn:=f86) F8 (fun a0_l a1_a hp KK h=>Eq.mp (M0 a0_l a1_a KK) (QJ a0_l a1_a hp KK h))
def Nx:CKt:=Ef .b8 [.st .Instr] (fun x y=>zx x y) (fun x y=>OT x y)
def F9:An:=.s .l (.s .l (.s .l (.j ⟨[0,3,5],[.loc 3,.loc 5,.out 0],[],[.ow 7 [.fr] .s]⟩ (.s .l (.c .l .l)) (.s .l (.j ⟨[0,3],[.loc 3,.out 0],[],[.ow 7 [.fr] .s]⟩ (.j ⟨[0,3,5,7],[.gh 29,.loc 3,.loc 5,.out 0],[],[.sl 43 .bo]⟩ .l (.c (.s .l (.s .l .l)) (.j ⟨[0,3],[.loc 3,.out 0],[],[.ow 7 [.fr] .s]⟩ (.s .l (.c .l .l)) .l))) (.s .l (.s (.s .l (.b (.lp ⟨[3],[.loc 3],[],[.ow 0 [.fr] .b8,.sl 8 (.i .i64)]⟩ (.s (.s .l (.c .l .l)) (.s (.b (.j ⟨[0,3,8],[.gh 900000,.loc 3],[],[.ow 9 [.fr] .s]⟩ .l (.s (.s .l (.b (.lp ⟨[0,3,8],[.gh 900000,.loc 3],[],[.ow 9 [.fr] .s,.sl 10 (.i .i64)]⟩ (.s (.s .l (.c .l .l)) (.j ⟨[0,3,8,10],[.gh 900000,.loc 3],[],[.ow 9 [.fr] .s]⟩ (.b .l) .l))))) .l))) .l))))) (.s (.s .l (.b (.lp ⟨[3],[.loc 3],[],[.ow 0 [.fr] .b8,.sl 11 (.i .i64)]⟩ (.s (.s .l (.c .l .l)) (.j ⟨[3,11],[.loc 3],[],[.ow 0 [.fr] .b8]⟩ (.b .l) .l))))) (.s .l .l)))))))))
noncomputable abbrev e_rCode:En:=⟨prog,eU,[(39,xd),(41,xb),(42,rN),(85,Yn),(86,Nw)],[],noP⟩
theorem M1(a0_out:List UInt8)(a1_x:Lt.Instr)(KK:(List UInt8)->Prop):CZ a0_out a1_x KK=qR e_rCode f43 F9 .b8 [.st .Instr] a0_out a1_x KK:=kQ0
theorem WH:Cont prog 43 Nx:=k3 e_rCode (En.okc Dt (En.okc Ds (En.okc wC (En.okc aaU (En.okc WG En.ok0))))) (fn:=f43) F9 (fun a0_out a1_x hp KK h=>Eq.mp (M1 a0_out a1_x KK) (QK a0_out a1_x hp KK h))
def Ny:CKt:=Ef .b8 [.st .Term] (fun x y=>s4 x y) (fun x y=>OU x y)
def Ga:An:=.s .l (.s .l (.s (.j ⟨[0,3,5],[.gh 7,.loc 3,.out 0],[],[.sl 15 .bo]⟩ .l (.c (.s .l .l) .l)) (.s .l (.j ⟨[0,3],[.loc 3,.out 0],[],[.ow 6 [.fr] .s]⟩ (.j ⟨[0,3,6],[.gh 22,.loc 3,.out 0],[],[.sl 30 .bo]⟩ .l (.c .l .l)) (.s .l (.j ⟨[0],[.out 0],[],[.ow 6 [.fr] .s]⟩ (.s .l (.c .l .l)) (.s .l .l)))))))
noncomputable abbrev e_rEnds:En:=⟨prog,eU,[(39,xd),(41,xb),(42,rN)],[],noP⟩
theorem M2(a0_out:List UInt8)(a1_t:Lt.Term)(KK:(List UInt8)->Prop):C0 a0_out a1_t KK=qR e_rEnds f44 Ga .b8 [.st .Term] a0_out a1_t KK:=kQ0
theorem WI:Cont prog 44 Ny:=k3 e_rEnds (En.okc Dt (En.okc Ds (En.okc wC En.ok0))) (fn:=f44) Ga (fun a0_out a1_t hp KK h=>Eq.mp (M2 a0_out a1_t KK) (QL a0_out a1_t hp KK h))
def Fh:CKt:=bd [.st .Program] [.s] (fun x=>mm x) (fun x=>nl x)
def BJ:An:=.s .l (.s .l (.j ⟨[1],[.loc 1],[],[.ow 3 [.fr] .b8]⟩ (.s .l (.c .l .l)) (.s (.s .l (.b (.lp ⟨[1],[.loc 1],[],[.ow 3 [.fr] .b8,.sl 4 (.i .i64)]⟩ (.s (.s .l (.c .l .l)) (.j ⟨[1,4],[.loc 1],[],[.ow 3 [.fr] .b8]⟩ (.b .l) .l))))) (.s .l (.s (.s .l (.b (.lp ⟨[1],[.loc 1],[],[.ow 3 [.fr] .b8,.sl 5 (.i .i64)]⟩ (.s (.s .l (.c .l .l)) (.j ⟨[1,5],[.loc 1],[],[.ow 3 [.fr] .b8]⟩ (.b .l) .l))))) (.s (.s .l (.b (.lp ⟨[1],[.loc 1],[],[.ow 3 [.fr] .b8,.sl 6 (.i .i64)]⟩ (.s (.s .l (.c .l .l)) (.s (.b (.s .l (.j ⟨[1,6,7],[.loc 1,.loc 7],[],[.ow 3 [.fr] .b8]⟩ .l (.s .l (.b (.lp ⟨[1,6,7],[.loc 1,.loc 7],[],[.ow 3 [.fr] .b8,.sl 8 (.i .i64)]⟩ (.s (.s .l (.c .l .l)) (.s (.b (.s .l (.s .l (.s (.s .l (.b (.lp ⟨[1,6,7,8,9],[.loc 1,.loc 7,.loc 9],[],[.ow 3 [.fr] .b8,.sl 10 (.i .i64)]⟩ (.s (.s .l (.c .l .l)) (.s (.b (.s .l (.s (.s .l (.b (.lp ⟨[1,3,6,7,8,9,10],[.gh 900003,.loc 1,.loc 7,.loc 9],[],[.ow 11 [.fr] .s,.sl 12 (.i .i64)]⟩ (.s (.s .l (.c .l .l)) (.j ⟨[1,3,6,7,8,9,10,12],[.gh 900003,.loc 1,.loc 7,.loc 9],[],[.ow 11 [.fr] .s]⟩ (.b .l) .l))))) .l))) .l))))) (.s (.s .l (.b (.lp ⟨[1,6,7,8,9],[.loc 1,.loc 7,.loc 9],[],[.ow 3 [.fr] .b8,.sl 13 (.i .i64)]⟩ (.s (.s .l (.c .l .l)) (.s (.b .l) .l))))) .l))))) .l)))))))) .l))))) (.s .l .l)))))))
noncomputable abbrev e_rLines:En:=⟨prog,eU,[(39,xd),(40,NB),(41,xb),(42,rN),(43,Nx),(44,Ny)],[],noP⟩
theorem JT(a0_p:Lt.Program)(KK:(List UInt8)->Prop):xw a0_p KK=ao e_rLines f14 BJ [.st .Program] [.s] a0_p KK:=kQ0
theorem TH:Cont prog 14 Fh:=k1 e_rLines (En.okc Dt (En.okc WL (En.okc Ds (En.okc wC (En.okc WH (En.okc WI En.ok0)))))) (fn:=f14) BJ (fun a0_p hp KK h=>Eq.mp (JT a0_p KK) (LN a0_p hp KK h))
def p9:An:=.s .l (.s (.j ⟨[1],[.loc 1],[],[.sl 10 .bo]⟩ .l (.c (.s .l .l) .l)) (.s .l (.s .l (.s .l .l))))
noncomputable abbrev e_CheckKeeps:En:=⟨prog,eU,[(7,A9),(8,Yk),(9,wZ),(14,Fh)],[],noP⟩
theorem wu(a0_p:Lt.Program)(KK:Bool->Prop):mM a0_p KK=ao e_CheckKeeps f6 p9 [.st .Program] [.bo] a0_p KK:=kQ0
theorem Ap:En.ok e_CheckKeeps:=(En.okc P1 (En.okc aaQ (En.okc ym (En.okc TH En.ok0))))
end Go.Am
end

section
namespace Go.Am
open Go
def Bd(d:Nat):Int:=562949953421312+6001*((min d 10:Nat):Int)
theorem Oh(d:Nat):562949953421312<=Bd d/\Bd d<=562949953621322:=by unfold Bd;omega
def Pc(d:Nat)(b:Int)(w:Nat)(r:Int):Prop:=(6000<r/\r<=Bd d)\/(r=b+(w:Int)/\r<=6000)
def short(s:List UInt8):Prop:=s.length<=140737488355328
theorem kS{α:Type}{d:Nat}(go:List α->Int->Int)(s:Int->α->Int)(w:α->Nat)(h0:∀b,go [] b=b)(h1:∀x r b,go (x::r) b=if b<=6000 then go r (s b x)else b)(ok:α->Prop)
  (hs:∀b x,ok x->0<=b->b<=6000->Pc d b (w x) (s b x)):∀(l:List α)(b:Int),(∀x∈l,ok x)->0<=b->b<=Bd d->Pc d b (l.map w).sum (go l b)
 |[],b,_,h2,h3=>by
  rw[h0];unfold Pc;simp only[List.map_nil,List.sum_nil];omega
 |x::r,b,hok,h2,h3=>by
  rw[h1];by_cases hb:b<=6000
  ·rw[if_pos hb];have hx:=hs b x (hok x (by simp)) h2 hb
   have hB:=Oh d
   have h4:0<=s b x/\s b x<=Bd d:=by unfold Pc at hx;omega
   have ih:=kS go s w h0 h1 ok hs r (s b x) (fun y hy=>hok y (by simp[hy])) h4.1 h4.2
   unfold Pc at hx ih⊢;simp only[List.map_cons,aeS];omega
  ·rw[if_neg hb];unfold Pc;omega
theorem gU{n:Int}{k:Nat}(h1:0<=n)(h2:n<=1152921504606846976)(h3:k<=1152921504606846976):Lt.plus n k=n+(k:Int):=by
 unfold Lt.plus;exact dl kQ1 kQ1
theorem ln{n:Int}(h1:0<=n)(h2:n<=4611686018427387904):i64.wrap n=n:=dl kQ1 kQ1
def VG(v:Lt.Var):Nat:=v.Name.length+v.Type_.length
def tE(l:List Lt.Var):Nat:=l.length+(l.map VG).sum
def VF(a:Lt.Arg):Nat:=a.S.length
def tD(l:List Lt.Arg):Nat:=l.length+(l.map VF).sum
def CB(b:Lt.Bind):Nat:=1+b.Name.length+b.A.S.length
def o9(f:Lt.Frame):Nat:=f.Func.length+f.Block.length+(f.Vars.map CB).sum
def JE(o:Lt.Virt):Nat:=o.Class.length+tD o.Vals
def gN(x:Lt.Instr):Nat:=1+x.Dst.length+x.Frames.length+x.Objs.length+x.Name.length+tD x.Args+(x.Frames.map o9).sum+(x.Objs.map JE).sum
def wIn(b:Lt.In):Nat:=1+b.Block.length+b.A.S.length
def JF(x:Lt.Phi):Nat:=1+x.Dst.length+(x.Ins.map wIn).sum
def wTo(t:List UInt8):Nat:=1+t.length
def gi(b:Lt.Block):Nat:=1+b.Name.length+b.End.A.S.length+(b.End.To.map wTo).sum+(b.Phis.map JF).sum+(b.Code.map gN).sum
def mD(f:Lt.Func):Nat:=1+f.Name.length+f.Result.length+tE f.Params+tE f.Vars+(f.Blocks.map gi).sum
def vh(c:Lt.Class):Nat:=c.Name.length+tE c.Fields
def pV(x:Lt.Extern):Nat:=1+x.Name.length
def JG(p:Lt.Program):Nat:=tE p.Globals+(p.Classes.map vh).sum+(p.Externs.map pV).sum+(p.Funcs.map mD).sum
def Jn(v:Lt.Var):Prop:=short v.Name/\short v.Type_
def zN(a:Lt.Arg):Prop:=short a.S
def Vo(b:Lt.Bind):Prop:=short b.Name/\zN b.A
def MG(f:Lt.Frame):Prop:=short f.Func/\short f.Block/\∀b∈f.Vars,Vo b
def ZV(o:Lt.Virt):Prop:=short o.Class/\∀a∈o.Vals,zN a
def zP(x:Lt.Instr):Prop:=short x.Dst/\short x.Name/\(∀a∈x.Args,zN a)/\(∀f∈x.Frames,MG f)/\∀o∈x.Objs,ZV o
def sIn(b:Lt.In):Prop:=short b.Block/\zN b.A
def XS(x:Lt.Phi):Prop:=short x.Dst/\∀i∈x.Ins,sIn i
def zO(b:Lt.Block):Prop:=short b.Name/\zN b.End.A/\(∀t∈b.End.To,short t)/\(∀x∈b.Phis,XS x)/\∀i∈b.Code,zP i
def OY(f:Lt.Func):Prop:=short f.Name/\short f.Result/\(∀v∈f.Params,Jn v)/\(∀v∈f.Vars,Jn v)/\∀b∈f.Blocks,zO b
def MF(c:Lt.Class):Prop:=short c.Name/\∀v∈c.Fields,Jn v
def Vp(p:Lt.Program):Prop:=(∀c∈p.Classes,MF c)/\(∀v∈p.Globals,Jn v)/\(∀e∈p.Externs,short e.Name)/\∀f∈p.Funcs,OY f
theorem o8{d:Nat}{b0:Int}{w0:Nat}{n:Int}{k:Nat}{r:Int}(hd:d < 9)(h0:0<=b0)(h:Pc (d+1) b0 w0 n)(hk:Pc d 0 k r):Pc (d+1) b0 (w0+k) (Lt.upto 6000 n r):=by
 unfold Lt.upto;unfold Pc Bd at h hk⊢;split
 ·rw[ln kQ1 kQ1];omega
 ·omega
theorem D4{d:Nat}{b0:Int}{w0:Nat}{n:Int}{k:Nat}(h0:0<=b0)(h:Pc d b0 w0 n)(hk:k<=140737488355328):Pc d b0 (w0+k) (if n<=6000 then Lt.plus n k else n):=by
 unfold Pc Bd at h⊢;split
 ·rw[gU kQ1 kQ1 kQ1];omega
 ·omega
theorem UA{d:Nat}{k:Nat}(hk:k<=140737488355328):Pc d 0 k (k:Int):=by unfold Pc Bd;omega
theorem Ww{d:Nat}(l:List Lt.Var)(b:Int)(h:∀v∈l,Jn v)(h0:0<=b)(h1:b<=Bd d):Pc d b (l.map VG).sum (yl 6000 l b):=by
 refine kS (yl 6000) (fun n v=>if Lt.plus n v.Name.length<=6000 then Lt.plus (Lt.plus n v.Name.length) v.Type_.length else Lt.plus n v.Name.length) VG (fun _=>rfl) (fun _ _ _=>rfl) Jn (fun b x hx h0 h1=>?_) l b h h0 h1;have hn:Pc d b x.Name.length (Lt.plus b x.Name.length):=by
  have:=hx.1;unfold short at this
  unfold Pc Bd;rw[gU h0 kQ1 kQ1];omega
 exact D4 h0 hn hx.2
theorem kU{d:Nat}(l:List Lt.Var)(h:∀v∈l,Jn v):Pc d 0 (tE l) (bP l 6000):=by
 unfold bP tE;split
 ·rw[ln kQ1 kQ1];unfold Pc Bd;omega
 ·have:=Ww (d:=d) l (l.length:Int) h kQ1 (by have:=Oh d;omega)
  unfold Pc at this⊢;omega
theorem Ws{d:Nat}(l:List Lt.Arg)(b:Int)(h:∀v∈l,zN v)(h0:0<=b)(h1:b<=Bd d):Pc d b (l.map VF).sum (yk 6000 l b):=by
 refine kS (yk 6000) (fun n v=>Lt.plus n v.S.length) VF (fun _=>rfl) (fun _ _ _=>rfl) zN (fun b x hx h0 h1=>?_) l b h h0 h1;unfold zN short at hx;unfold Pc Bd VF;rw[gU h0 kQ1 kQ1];omega
theorem vI{d:Nat}(l:List Lt.Arg)(h:∀v∈l,zN v):Pc d 0 (tD l) (dv l 6000):=by
 unfold dv tD;split
 ·rw[ln kQ1 kQ1];unfold Pc Bd;omega
 ·have:=Ws (d:=d) l (l.length:Int) h kQ1 (by have:=Oh d;omega)
  unfold Pc at this⊢;omega
theorem I6{d:Nat}{b:Int}{k:Nat}(h0:0<=b)(h1:b<=6000)(hk:k<=140737488355328):Pc d b (1+k) (Lt.plus (i64.wrap (b+1)) k):=by
 rw[ln kQ1 kQ1,gU kQ1 kQ1 kQ1];unfold Pc Bd;omega
theorem Tn{d:Nat}(l:List Lt.Bind)(b:Int)(h:∀v∈l,Vo v)(h0:0<=b)(h1:b<=Bd d):Pc d b (l.map CB).sum (ox 6000 l b):=by
 refine kS (ox 6000) (fun n b=>if Lt.plus (i64.wrap (n+1)) b.Name.length<=6000 then Lt.plus (Lt.plus (i64.wrap (n+1)) b.Name.length) b.A.S.length else Lt.plus (i64.wrap (n+1)) b.Name.length) CB (fun _=>rfl) (fun _ _ _=>rfl) Vo (fun b x hx h0 h1=>?_) l b h h0 h1;exact D4 h0 (I6 h0 h1 hx.1) hx.2
theorem Zf{d:Nat}(l:List Lt.In)(b:Int)(h:∀v∈l,sIn v)(h0:0<=b)(h1:b<=Bd d):Pc d b (l.map wIn).sum (Gy 6000 l b):=by
 refine kS (Gy 6000) (fun n b=>if Lt.plus (i64.wrap (n+1)) b.Block.length<=6000 then Lt.plus (Lt.plus (i64.wrap (n+1)) b.Block.length) b.A.S.length else Lt.plus (i64.wrap (n+1)) b.Block.length) wIn (fun _=>rfl) (fun _ _ _=>rfl) sIn (fun b x hx h0 h1=>?_) l b h h0 h1;exact D4 h0 (I6 h0 h1 hx.1) hx.2
theorem fN{d:Nat}{b:Int}{w w':Nat}{n r:Int}(h0:0<=b)(h:Pc d b w n)(h':0<=n->n<=Bd d->Pc d n w' r):Pc d b (w+w') r:=by
 have hB:=Oh d
 have h2:=h' (by unfold Pc at h;omega) (by unfold Pc at h;omega)
 unfold Pc at h h2⊢;omega
theorem Mp{d:Nat}{b:Int}{k:Nat}(h0:0<=b)(h1:b<=6000)(hk:k<=140737488355328):Pc d b k (Lt.plus b k):=by
 rw[gU kQ1 kQ1 kQ1];unfold Pc Bd;omega
theorem PW{d:Nat}(l:List Lt.Frame)(b:Int)(h:∀v∈l,MG v)(h0:0<=b)(h1:b<=Bd d):Pc d b (l.map o9).sum (kM 6000 l b):=by
 refine kS (kM 6000) (fun n f=>ox 6000 f.Vars (if Lt.plus n f.Func.length<=6000 then Lt.plus (Lt.plus n f.Func.length) f.Block.length else Lt.plus n f.Func.length)) o9 (fun _=>rfl) (fun _ _ _=>rfl) MG (fun b x hx h0 h1=>?_) l b h h0 h1;exact fN h0 (D4 h0 (Mp h0 h1 hx.1) hx.2.1) (Tn x.Vars _ hx.2.2)
theorem Wu{d:Nat}(hd:d < 9)(l:List Lt.Virt)(b:Int)(h:∀v∈l,ZV v)(h0:0<=b)(h1:b<=Bd (d+1)):Pc (d+1) b (l.map JE).sum (sC 6000 l b):=by
 refine kS (sC 6000) (fun n o=>if Lt.plus n o.Class.length<=6000 then i64.wrap (Lt.plus n o.Class.length+dv o.Vals 6000)else Lt.plus n o.Class.length) JE (fun _=>rfl) (fun _ _ _=>rfl) ZV (fun b x hx h0 h1=>?_) l b h h0 h1;exact o8 hd h0 (Mp h0 h1 hx.1) (vI _ hx.2)
theorem aaP{d:Nat}(l:List (List UInt8))(b:Int)(h:∀v∈l,short v)(h0:0<=b)(h1:b<=Bd d):Pc d b (l.map wTo).sum (Lt.cTo 6000 l b):=by
 refine kS (Lt.cTo 6000) (fun n t=>Lt.plus (i64.wrap (n+1)) t.length) wTo (fun _=>rfl) (fun _ _ _=>rfl) short (fun b x hx h0 h1=>?_) l b h h0 h1;exact I6 h0 h1 hx
theorem Wv{d:Nat}(l:List Lt.Phi)(b:Int)(h:∀v∈l,XS v)(h0:0<=b)(h1:b<=Bd d):Pc d b (l.map JF).sum (sD 6000 l b):=by
 refine kS (sD 6000) (fun n x=>Gy 6000 x.Ins (Lt.plus (i64.wrap (n+1)) x.Dst.length)) JF (fun _=>rfl) (fun _ _ _=>rfl) XS (fun b x hx h0 h1=>?_) l b h h0 h1;exact fN h0 (I6 h0 h1 hx.1) (Zf x.Ins _ hx.2)
theorem S4{d:Nat}{b:Int}{w k:Nat}{n r:Int}(hd:d < 9)(h0:0<=b)(hn:n=b+(w:Int))(h1:n<=6000)(hk:Pc d 0 k r):Pc (d+1) b (w+k) (i64.wrap (n+r)):=by
 unfold Pc Bd at hk⊢;rw[ln kQ1 kQ1];omega
theorem Dz(x:Lt.Instr)(h:zP x):Pc 1 0 (gN x) (dJ x 6000):=by
 obtain⟨h1,h2,h3,h4,h5⟩:=h;unfold short at h1 h2;unfold dJ;split
 ·rename_i hc;rw[ln kQ1 kQ1];unfold Pc Bd;omega
 ·rename_i hc;simp only[aeZ,decide_eq_true_eq,not_or]at hc;have e:Lt.plus (Lt.plus (Lt.plus 1 x.Dst.length) x.Frames.length) x.Objs.length=1+(x.Dst.length:Int)+x.Frames.length+x.Objs.length:=by
   have e1:=gU (n:=1) (k:=x.Dst.length) kQ1 kQ1 kQ1
   have e2:=gU (n:=1+(x.Dst.length:Int)) (k:=x.Frames.length) kQ1 kQ1 kQ1
   have e3:=gU (n:=1+(x.Dst.length:Int)+x.Frames.length) (k:=x.Objs.length) kQ1 kQ1 kQ1
   rw[e1,e2,e3]
  have p1:Pc 1 0 (1+x.Dst.length+x.Frames.length+x.Objs.length) (Lt.plus (Lt.plus (Lt.plus 1 x.Dst.length) x.Frames.length) x.Objs.length):=by
   rw[e];unfold Pc Bd;omega
  have p2:=o8 kQ1 kQ1 p1 (UA h2)
  have p3:=o8 kQ1 kQ1 p2 (vI x.Args h3)
  have p4:=fN kQ1 p3 (PW x.Frames _ h4)
  exact fN kQ1 p4 (Wu kQ1 x.Objs _ h5)
theorem Wt(l:List Lt.Instr)(b:Int)(h:∀v∈l,zP v)(h0:0<=b)(h1:b<=Bd 2):Pc 2 b (l.map gN).sum (qc 6000 l b):=by
 refine kS (qc 6000) (fun n x=>i64.wrap (n+dJ x 6000)) gN (fun _=>rfl) (fun _ _ _=>rfl) zP (fun b x hx h0 h1=>?_) l b h h0 h1;have:=S4 (b:=b) (w:=0) (n:=b) kQ1 h0 kQ1 h1 (Dz x hx)
 rwa [aeA]at this
theorem Dy(x:Lt.Block)(h:zO x):Pc 2 0 (gi x) (dI x 6000):=by
 obtain⟨h1,h2,h3,h4,h5⟩:=h;unfold zN at h2;unfold short at h1 h2;unfold dI;split
 ·rw[ln kQ1 kQ1];unfold Pc Bd;omega
 ·have p1:Pc 2 0 (1+x.Name.length) (Lt.plus 1 x.Name.length):=by
   rw[gU kQ1 kQ1 kQ1];unfold Pc Bd;omega
  have p2:=o8 kQ1 kQ1 p1 (UA h2)
  have p3:=fN kQ1 p2 (aaP x.End.To _ h3)
  have p4:=fN kQ1 p3 (Wv x.Phis _ h4)
  exact fN kQ1 p4 (Wt x.Code _ h5)
theorem PV(l:List Lt.Block)(b:Int)(h:∀v∈l,zO v)(h0:0<=b)(h1:b<=Bd 3):Pc 3 b (l.map gi).sum (mV 6000 l b):=by
 refine kS (mV 6000) (fun n x=>i64.wrap (n+dI x 6000)) gi (fun _=>rfl) (fun _ _ _=>rfl) zO (fun b x hx h0 h1=>?_) l b h h0 h1;have:=S4 (b:=b) (w:=0) (n:=b) kQ1 h0 kQ1 h1 (Dy x hx)
 rwa [aeA]at this
theorem Pe(f:Lt.Func)(h:OY f):Pc 3 0 (mD f) (kG f 6000):=by
 obtain⟨h1,h2,h3,h4,h5⟩:=h;unfold short at h1 h2;unfold kG;split
 ·rw[ln kQ1 kQ1];unfold Pc Bd;omega
 ·have p1:Pc 3 0 (1+f.Name.length) (Lt.plus 1 f.Name.length):=by
   rw[gU kQ1 kQ1 kQ1];unfold Pc Bd;omega
  have p2:=o8 kQ1 kQ1 p1 (UA h2)
  have p3:=o8 kQ1 kQ1 p2 (kU f.Params h3)
  have p4:=o8 kQ1 kQ1 p3 (kU f.Vars h4)
  exact fN kQ1 p4 (PV f.Blocks _ h5)
theorem Tp(l:List Lt.Func)(b:Int)(h:∀v∈l,OY v)(h0:0<=b)(h1:b<=Bd 4):Pc 4 b (l.map mD).sum (mW 6000 l b):=by
 refine kS (mW 6000) (fun n x=>i64.wrap (n+kG x 6000)) mD (fun _=>rfl) (fun _ _ _=>rfl) OY (fun b x hx h0 h1=>?_) l b h h0 h1;have:=S4 (b:=b) (w:=0) (n:=b) kQ1 h0 kQ1 h1 (Pe x hx)
 rwa [aeA]at this
theorem Le{d:Nat}(hd:d < 9)(l:List Lt.Class)(b:Int)(h:∀v∈l,MF v)(h0:0<=b)(h1:b<=Bd (d+1)):Pc (d+1) b (l.map vh).sum (jU 6000 l b):=by
 refine kS (jU 6000) (fun n c=>if Lt.plus n c.Name.length<=6000 then i64.wrap (Lt.plus n c.Name.length+bP c.Fields 6000)else Lt.plus n c.Name.length) vh (fun _=>rfl) (fun _ _ _=>rfl) MF (fun b x hx h0 h1=>?_) l b h h0 h1;exact o8 hd h0 (Mp h0 h1 hx.1) (kU _ hx.2)
theorem Lf{d:Nat}(l:List Lt.Extern)(b:Int)(h:∀v∈l,short v.Name)(h0:0<=b)(h1:b<=Bd d):Pc d b (l.map pV).sum (ii 6000 l b):=by
 refine kS (ii 6000) (fun n t=>Lt.plus (i64.wrap (n+1)) t.Name.length) pV (fun _=>rfl) (fun _ _ _=>rfl) (fun v=>short v.Name) (fun b x hx h0 h1=>?_) l b h h0 h1;exact I6 h0 h1 hx
theorem Yp{p:Lt.Program}(h:Vp p)(hf:Lt.Few p 6000=true):JG p<=6000/\p.Classes.length<=50:=by
 obtain⟨h1,h2,h3,h4⟩:=h;unfold Lt.Few at hf;split at hf
 ·cases hf
 ·rename_i hc;simp only[aeZ,decide_eq_true_eq,not_or]at hc;have p1:=kU (d:=4) p.Globals h2
  have p2:=fN kQ1 p1 (Le (d:=3) kQ1 p.Classes _ h1)
  have p3:=fN kQ1 p2 (Lf p.Externs _ h3)
  have p4:=fN kQ1 p3 (Tp p.Funcs _ h4)
  simp only[decide_eq_true_eq]at hf;unfold Pc Bd at p4;unfold JG;omega
theorem wL{α:Type}(w:α->Nat):∀(l:List α)(x:α),x∈l->w x<=(l.map w).sum
 |y::l,x,h=>by
  rw[List.map_cons,aeS];rcases ac8.1 h with rfl|h
  ·omega
  ·have:=wL w l x h;omega
theorem nw{α:Type}(w:α->Nat)(h:∀x,1<=w x):∀l:List α,l.length<=(l.map w).sum
 |[]=>ad1 _
 |y::l=>by
  have:=nw w h l
  have:=h y
  rw[List.map_cons,aeS,ac0];omega
theorem MN{α:Type}(g w:α->Nat)(h:∀x,g x<=w x):∀l:List α,(l.map g).sum<=(l.map w).sum
 |[]=>ac1 _
 |y::l=>by
  have:=MN g w h l
  have:=h y
  simp only[List.map_cons,aeS];omega
theorem ZX{p:Lt.Program}(h:JG p<=6000):cw p/\p.Funcs.length<=1000000:=by
 unfold JG at h;have hfl:=nw mD (fun f=>by unfold mD;omega) p.Funcs
 have hf:∀f∈p.Funcs,mD f<=6000:=fun f hf=>by
  have:=wL mD p.Funcs f hf;omega
 refine⟨⟨fun f hm=>?_,fun f hm=>?_⟩,by omega⟩
 ·have:=hf f hm
  unfold mD tE at this;omega
 ·have h1:=hf f hm
  unfold mD tE at h1;have hbl:=nw gi (fun b=>by unfold gi;omega) f.Blocks
  have hb:∀b∈f.Blocks,gi b<=6000:=fun b hb=>by
   have:=wL gi f.Blocks b hb;omega
  have hi:∀b∈f.Blocks,∀x∈b.Code,gN x<=6000:=fun b hbm x hx=>by
   have:=wL gN b.Code x hx
   have h2:=hb b hbm
   unfold gi at h2;omega
  refine⟨fun b hbm x hx=>?_,⟨by omega,fun b hbm=>?_⟩,by omega,fun b hbm=>?_,fun b hbm x hx=>?_⟩
  ·have h2:=hi b hbm x hx
   unfold gN tD at h2;omega
  ·have h2:=hb b hbm
   unfold gi at h2;have:=nw wTo (fun t=>by unfold wTo;omega) b.End.To
   omega
  ·have h2:=hb b hbm
   unfold gi at h2;have:=nw JF (fun t=>by unfold JF;omega) b.Phis
   have:=nw gN (fun t=>by unfold gN;omega) b.Code
   omega
  ·have h2:=hi b hbm x hx
   unfold gN tD at h2;have h3:=MN (fun f:Lt.Frame=>f.Vars.length) o9 (fun f=>by
    have:=nw CB (fun t=>by unfold CB;omega) f.Vars
    unfold o9;omega) x.Frames
   have h4:=MN (fun o:Lt.Virt=>o.Vals.length) JE (fun o=>by unfold JE tD;omega) x.Objs
   unfold eV VD;omega
theorem qg{α β:Type}(g:α->List β)(w:α->Nat)(k:Nat):∀(l:List α),(∀x∈l,(g x).length<=k*w x)->(l.flatMap g).length<=k*(l.map w).sum
 |[],_=>by simp
 |x::r,h=>by
  have h1:=h x (by simp)
  have h2:=qg g w k r (fun y hy=>h y (by simp[hy]))
  simp only[adU,ac3,List.map_cons,aeS,Nat.mul_add];omega
theorem X3{α:Type}(w:α->Nat):∀(l:List α),(l.map fun x=>1+w x).sum=l.length+(l.map w).sum
 |[]=>by simp
 |x::r=>by
  have:=X3 w r
  simp only[List.map_cons,aeS,ac0,this];omega
def lw(ws:List (List UInt8)):Nat:=(ws.map fun w=>w.length+1).sum
theorem dW(a b:List (List UInt8)):lw (a++b)=lw a+lw b:=by simp[lw]
theorem ct(a:List UInt8)(b:List (List UInt8)):lw (a::b)=a.length+1+lw b:=by simp[lw]
theorem cX:lw []=0:=rfl
theorem YL:∀(ws:List (List UInt8))(b:Bool),(Lt.jw b ws).length<=lw ws
 |[],_=>by simp[Lt.jw]
 |w::r,b=>by
  have:=YL r true
  rw[Lt.jw,ct];simp only[ac3];have:(if b=true then [32]else([]:List UInt8)).length<=1:=by split<;>simp
  omega
theorem lD(ws:List (List UInt8)):(Lt.lnT ws).length<=lw ws+1:=by
 have:=YL ws false
 simp only[Lt.lnT,ac3,ac0,ac6];omega
theorem s8{n:Int}(h:Lt.inR n):(iM n).length<=20:=zc h
theorem Ig:∀(k:Nat)(x:Int)(l:List UInt8),(DJ k x l).length=k+l.length
 |0,_,_=>by simp[DJ]
 |k+1,x,l=>by rw[DJ,Ig k];simp;omega
theorem u6{a:Lt.Arg}(h:a.ok):(bB a).length<=a.S.length+25:=by
 have h1:=s8 h
 have h2:(My a.N).length=18:=by simp[My,Ig]
 unfold bB
 repeat' split
 all_goals (try simp only[ac0,ac6])
 all_goals omega
theorem Uf(n:Nat):(gw.getD n default).length<=10:=by
 have h:∀w∈gw,w.length<=10:=by decide
 rw[List.getD];cases hn:gw[n]? with
 |none=>simp;exact ad1 _
 |some w=>
  simp only[adW];exact h w (adK hn)
theorem XP(op:Int):(Lt.rOf op).1.Word.length<=10:=by
 unfold Lt.rOf;split
 ·simp
 ·exact Uf _
theorem np(first:List UInt8)(hf:first.length<=6)(l:List Lt.Var):(iN first l).length<=20*tE l:=by
 have:=qg (fun v:Lt.Var=>Lt.lnT [first,v.Name,v.Type_]) (fun v=>1+VG v) 20 l (fun v _=>by
  have:=lD [first,v.Name,v.Type_]
  simp only[ct,cX]at this;unfold VG;omega)
 rw[X3]at this;exact this
theorem CC{l:List Lt.Arg}(h:Dn l):lw (l.map bB)<=30*tD l:=by
 induction l with
 |nil=>simp[lw]
 |cons a r ih=>
  have h1:=ih (fun x hx=>h x (adB _ hx))
  have h2:=u6 (h a (by simp))
  simp only[tD,List.map_cons,aeS,ac0,ct,VF]at h1⊢;omega
theorem Gu{α:Type}(n:α->List UInt8)(a:α->Lt.Arg)(l:List α)(h:∀b∈l,(a b).ok):lw (l.flatMap fun b=>[n b,bB (a b)])<=30*(l.map fun b=>1+(n b).length+(a b).S.length).sum:=by
 induction l with
 |nil=>simp[lw]
 |cons b r ih=>
  have h1:=ih (fun x hx=>h x (adB _ hx))
  have h2:=u6 (h b (by simp))
  simp only[adU,dW,ct,cX,List.map_cons,aeS];omega
theorem Qu{f:Lt.Frame}(h:f.ok)(hn:Lt.inR f.At):(Lt.lnT (eY f)).length<=40*(1+o9 f):=by
 have h1:=lD (eY f)
 have h2:=Gu (fun b:Lt.Bind=>b.Name) (fun b=>b.A) f.Vars (fun b hb=>h.2 b hb)
 have h3:=s8 hn
 simp only[eY,dW,ct,cX,ac0,ac6]at h1;unfold o9;have:(f.Vars.map CB).sum=(f.Vars.map fun b=>1+b.Name.length+b.A.S.length).sum:=rfl
 rw[this];simp only[eY];omega
theorem VE{o:Lt.Virt}(h:o.ok):(Lt.lnT (iO o)).length<=40*(1+JE o):=by
 have h1:=lD (iO o)
 have h2:=CC (l:=o.Vals) h
 simp only[iO,dW,ct,cX,ac0,ac6]at h1;unfold JE;simp only[iO];omega
theorem Nc{l:List Lt.Arg}:lw ((l.take 1).map bB)+lw ((l.drop 1).map bB)=lw (l.map bB):=by
 rw[<- dW,<- aeN,ae1]
theorem TX{x:Lt.Instr}(h:x.ok)(hn:∀f∈x.Frames,Lt.inR f.At):(lF x).length<=40*gN x:=by
 obtain⟨okA,okF,okO⟩:=h;have h1:=lD (km x)
 have h2:=CC okA
 have h3:=XP x.Op
 have h4:=qg (fun f=>Lt.lnT (eY f)) (fun f=>1+o9 f) 40 x.Frames (fun f hf=>Qu (okF f hf) (hn f hf))
 have h5:=qg (fun o=>Lt.lnT (iO o)) (fun o=>1+JE o) 40 x.Objs (fun o ho=>VE (okO o ho))
 rw[X3]at h4 h5;have hh:lw (s7 x)<=x.Dst.length+20:=by
  simp only[s7,dW,ct,cX];split
  ·simp only[ct,cX,ac0,ac6];omega
  ·simp only[cX];omega
 have hw:lw (km x)<=x.Dst.length+x.Name.length+21+lw (x.Args.map bB):=by
  unfold km;split
  ·have:=Nc (l:=x.Args)
   simp only[dW,ct,cX];omega
  ·simp only[dW];split
   ·simp only[ct,cX];omega
   ·simp only[cX];omega
 simp only[lF,ac3];unfold gN;omega
theorem Z0(l:List (List UInt8)):lw l=(l.map wTo).sum:=by
 unfold lw wTo
 congr 1
 exact adG (fun x _=>by omega)
theorem QB(n:Nat):(([[],[106,117,109,112],[98,114,97,110,99,104],[114,101,116],[116,114,97,112]]:List (List UInt8)).getD n default).length<=10:=by
 match n with
 |0=>decide
 |1=>decide
 |2=>decide
 |3=>decide
 |4=>decide
 |n+5=>simp;exact ad1 _
theorem WX{t:Lt.Term}(h:t.ok):(zC t).length<=70+t.A.S.length+(t.To.map wTo).sum:=by
 unfold zC;split
 ·simp
 ·have h1:=lD (vS t)
  have h2:=u6 h.1
  have h3:=s8 h.2
  have h4:=QB t.Kind.toNat
  have h5:=Z0 t.To
  unfold vS at h1⊢;simp only[dW,ct,cX]at h1;have h6:lw (if t.Kind=2\/t.Kind=3 then [bB t.A]else [])<=t.A.S.length+26:=by
   split
   ·simp only[ct,cX];omega
   ·simp only[cX];omega
  have h7:lw (if t.Kind=4 then [iM t.N]else [])<=21:=by
   split
   ·simp only[ct,cX];omega
   ·simp only[cX];omega
  omega
theorem XG{x:Lt.Phi}(h:x.ok):(Lt.lnT (nE x)).length<=40*JF x:=by
 have h1:=lD (nE x)
 have h2:=Gu (fun b:Lt.In=>b.Block) (fun b=>b.A) x.Ins (fun b hb=>h.2 b hb)
 simp only[nE,dW,ct,cX,ac0,ac6]at h1;unfold JF;have:(x.Ins.map wIn).sum=(x.Ins.map fun b=>1+b.Block.length+b.A.S.length).sum:=rfl
 rw[this];simp only[nE];omega
theorem PN{b:Lt.Block}(h:b.ok)(hn:∀i∈b.Code,∀f∈i.Frames,Lt.inR f.At):(jk b).length<=100*gi b:=by
 have h1:=lD [[98,108,111,99,107],b.Name]
 simp only[ct,cX,ac0,ac6]at h1;have h2:=qg (fun x=>Lt.lnT (nE x)) JF 40 b.Phis (fun x hx=>XG (h.1 x hx))
 have h3:=qg lF gN 40 b.Code (fun x hx=>TX (h.2.1 x hx) (hn x hx))
 have h4:=WX h.2.2
 simp only[jk,ac3];unfold gi;omega
theorem Ub{f:Lt.Func}(h:f.ok)(hn:∀b∈f.Blocks,∀i∈b.Code,∀r∈i.Frames,Lt.inR r.At):(nk f).length<=100*mD f:=by
 have h1:=lD [[102,117,110,99],f.Name,f.Result]
 simp only[ct,cX,ac0,ac6]at h1;have h2:=qg jk gi 100 f.Blocks (fun x hx=>PN (h x hx) (hn x hx))
 have h3:=np [112,97,114,97,109] (by decide) f.Params
 have h4:=np [118,97,114] (by decide) f.Vars
 simp only[nk,ac3];unfold mD;omega
theorem Qh(c:Lt.Class):(jl c).length<=20*(1+vh c):=by
 have h1:=lD [[99,108,97,115,115],c.Name]
 simp only[ct,cX,ac0,ac6]at h1;have h3:=np [102,105,101,108,100] (by decide) c.Fields
 simp only[jl,ac3];unfold vh;omega
theorem Lr{c:Lt.Extern}(h:Lt.inR c.N):(kl c).length<=40*pV c:=by
 have h1:=lD [[101,120,116,101,114,110],c.Name,iM c.N]
 have h2:=s8 h
 simp only[ct,cX,ac0,ac6]at h1;simp only[kl];unfold pV;omega
theorem V2{p:Lt.Program}(hs:Vp p)(h:p.ok)(he:∀e∈p.Externs,Lt.inR e.N)(hn:∀f∈p.Funcs,∀b∈f.Blocks,∀i∈b.Code,∀r∈i.Frames,Lt.inR r.At)(hf:Lt.Few p 6000=true):(nl p).length<=Lt.room:=by
 obtain⟨hw,hc⟩:=Yp hs hf;have h1:=qg jl (fun c=>1+vh c) 20 p.Classes (fun c _=>Qh c)
 rw[X3]at h1;have h2:=qg kl pV 40 p.Externs (fun x hx=>Lr (he x hx))
 have h3:=qg nk mD 100 p.Funcs (fun x hx=>Ub (h x hx) (hn x hx))
 have h4:=np [103,108,111,98,97,108] (by decide) p.Globals
 have h5:(if p.SSA=true then Lt.lnT [[115,115,97]]else []).length<=10:=by split<;>decide
 unfold JG at hw;unfold nl Lt.room;simp only[ac3];omega
end Go.Am
end
