/-
  Part 20: AmRd · AmCl18v · AmKV · AmCl18w · AmG24 · AmPkL · AmKW · AmFew6a · AmFew6 · AmFew7 · AmFew18.
-/
import Derived.Test.YteooihiebpbaiaaGreatDoorVk19
import Derived.MapFrom
set_option linter.unusedSimpArgs false
set_option linter.unusedVariables false
set_option linter.unusedSectionVars false
set_option linter.unnecessarySimpa false
open Lt
open Go.Proofs.Tryz
open Go.IntKind (i64)
section
namespace Go.Am
open Go Go.RowKit Go.Proofs Go.MapKept
def ou(w:List UInt8)(df:Nat):List (List UInt8×Nat)->Nat
 |[]=>df
 |(w0,f)::r=>if decide (w=w0)=true then f else ou w df r
theorem wl(w:List UInt8)(K:Nat->Prop)(df:Nat):∀tab,swP w K df tab=K (ou w df tab)
 |[]=>rfl
 |(w0,f)::r=>by
  rw[swP,ou,wl w K df r];split<;>rfl
section
variable {P:Program}
theorem P0{o:Oper}{a:Act}{next:Act->World->Prop}{Q:Exit->Act->World->Prop}{mt kt et:TypeId}{r:Nat}{es:Array MapEntry}{clock:Nat}{k:ByteArray}{v:Value}{w:World}
  (hm:P.underlying mt=some (.map kt et)) (hd:P.underlying kt=some .string) (hb:w.heap[r]? = some (.map es clock)) (hf:Instr.findNow .string (.string k) es.toList 0=some none)
  (h:∀w2,w2.heap[r]? = some (.map (es.push { key:=.string k,val:=v,born:=clock }) (clock+1))->Below r w w2->next (a.put o.dst undef) w2) :
  o.upon P a next Q (((Instr.mapUpdate mt (.map (some r)) (.string k) v).run P w).andThen fun _ w'=>.ok Next.skip w'):=by
 have hrun:(Instr.mapUpdate mt (.map (some r)) (.string k) v).run P w=.ok () { w with heap:=w.heap.setIfInBounds r (.map (es.push { key:=.string k,val:=v,born:=clock }) (clock+1)) }:=by
  simp[Instr.mapUpdate,run_underlying hm,MapKept.run_getObj_map hb,run_checkKey hd (k:=.string k) trivial,run_findKey hd hf,run_setObj_map _ hb,Result.andThen]
 rw[hrun];exact h _ (heap_set hb).1 ⟨rfl,rfl,rfl,by simp,fun j hj=>(heap_set hb).2 j Z1⟩
theorem B3(s:ByteArray):∀(es:List MapEntry)(tab:List (List UInt8×Nat))(i:Nat),es.map (fun e=>(e.key,e.val))=tab.map (fun x=>(Value.string ⟨x.1.toArray⟩,Value.func (.func x.2) #[] #[])) ->
  (∃x∈tab,(∃j,Instr.findNow .string (.string s) es i=some (some (j,.func (.func x.2) #[] #[])))/\∀df,ou s.data.toList df tab=x.2)\/(Instr.findNow .string (.string s) es i=some none/\∀df,ou s.data.toList df tab=df)
 |[],[],i,_=>.inr ⟨rfl,fun _=>rfl⟩
 |[],_::_,i,h=>by simp at h
 |_::_,[],i,h=>by simp at h
 |e::es,(k,f)::tab,i,h=>by
  obtain⟨ek,ev,eb⟩:=e;simp only[List.map_cons,List.cons.injEq,Prod.mk.injEq]at h;obtain⟨⟨rfl,rfl⟩,h⟩:=h;unfold Instr.findNow;simp only[Instr.sameNow];by_cases hc:s=⟨k.toArray⟩
  ·have e1:(s==⟨k.toArray⟩)=true:=(bytes_beq _ _).2 hc
   rw[e1];refine .inl ⟨(k,f),by simp,⟨i,rfl⟩,fun df=>?_⟩;have:s.data.toList=k:=by rw[hc]
   rw[ou,if_pos (by simp[this])]
  ·have e1:(s==⟨k.toArray⟩)=false:=by
    rw[Bool.eq_false_iff];exact fun e=>hc ((bytes_beq _ _).1 e)
   rw[e1];have n1:¬ s.data.toList=k:=by
    rintro rfl
    exact hc (by obtain⟨x⟩:=s;simp)
   rcases B3 s es tab (i+1) h with⟨x,hx,hj,hp⟩|⟨h1,h2⟩
   ·exact .inl ⟨x,by simp[hx],hj,fun df=>by rw[ou,if_neg (by simpa using n1)];exact hp df⟩
   ·exact .inr ⟨h1,fun df=>by rw[ou,if_neg (by simpa using n1)];exact h2 df⟩
theorem DA{mt kt et:TypeId}{r:Nat}{es:Array MapEntry}{clock:Nat}{s:ByteArray}{w:World}(hm:P.underlying mt=some (.map kt et))(hd:P.underlying kt=some .string)(hz:(zeroValue et).run P w=.ok .nilFunc w)
  (hb:w.heap[r]? = some (.map es clock)) {x:Option (Nat×Value)} (hf:Instr.findNow .string (.string s) es.toList 0=some x) :
  (Instr.lookup mt (.map (some r)) (.string s) false).run P w=.ok (match x with|some (_,v)=>v|none=>.nilFunc) w:=by
 cases x with
 |none=>simp[Instr.lookup,run_underlying hm,MapKept.run_getObj_map hb,run_checkKey hd (k:=.string s) trivial,run_findKey hd hf,hz,Result.andThen]
 |some y=>obtain⟨j,v⟩:=y;simp[Instr.lookup,run_underlying hm,MapKept.run_getObj_map hb,run_checkKey hd (k:=.string s) trivial,run_findKey hd hf,Result.andThen]
end
theorem Rk{P:Program}{t:TypeId}{ps rs:Array TypeId}{va:Bool}{f:Fn}{a b:Array Value}(h:P.underlying t=some (.func ps rs va))(w:World):(Op.equal t (.func f a b) .nilFunc).run P w=.ok false w:=by
 unfold Op.equal Op.maxDepth;rw[show(10000:Nat)=9999+1 from rfl];unfold Op.equalIn;simp only[Sem.run_bind,run_underlying h,Result.andThen];rfl
theorem E0{P:Program}{t:TypeId}{ps rs:Array TypeId}{va:Bool}(h:P.underlying t=some (.func ps rs va))(w:World):(Op.equal t .nilFunc .nilFunc).run P w=.ok true w:=by
 unfold Op.equal Op.maxDepth;rw[show(10000:Nat)=9999+1 from rfl];unfold Op.equalIn;simp only[Sem.run_bind,run_underlying h,Result.andThen];rfl
theorem O5{P:Program}{t:TypeId}{ps rs:Array TypeId}{va:Bool}{f:Fn}{a b:Array Value}(h:P.underlying t=some (.func ps rs va))(w:World):(binOp .neq t (.func f a b) .nilFunc).run P w=.ok (.bool true) w:=by
 show(do pure (.bool (!(<- Op.equal t (.func f a b) .nilFunc))):Sem Value).run P w=_
 simp only[Sem.run_bind,Rk h,Result.andThen];rfl
theorem Db{P:Program}{t:TypeId}{ps rs:Array TypeId}{va:Bool}(h:P.underlying t=some (.func ps rs va))(w:World):(binOp .neq t .nilFunc .nilFunc).run P w=.ok (.bool false) w:=by
 show(do pure (.bool (!(<- Op.equal t .nilFunc .nilFunc))):Sem Value).run P w=_
 simp only[Sem.run_bind,E0 h,Result.andThen];rfl
theorem TY{es0:Array MapEntry}{c0:Nat}{f:Option Obj}(hb:f=some (.map es0 c0)){L:List (Value×Value)}(he:es0.toList.map (fun e=>(e.key,e.val))=L):∃es c,f=some (.map es c)/\es.toList.map (fun e=>(e.key,e.val))=L:=⟨es0,c0,hb,he⟩
def LY:List (List UInt8×Nat):=[([115,115,97],125),([99,108,97,115,115],126),([102,105,101,108,100],127),([103,108,111,98,97,108],128),([101,120,116,101,114,110],129),([102,117,110,99],130),([112,97,114,97,109],131),([118,97,114],132),([98,108,111,99,107],133),([112,104,105],134),([97,116],135),([111,98,106],136),([106,117,109,112],137),([98,114,97,110,99,104],137),([114,101,116],137),([116,114,97,112],137)]
set_option maxRecDepth 100000 in
theorem Ab(s:ByteArray)(w:World) :
  Calls prog 83 #[.string s] w fun e w'=>e=.returned (.func (.func (ou s.data.toList 84 LY)) #[] #[])/\Below w.heap.size w w':=by
 have hmm:=@run_makeMap prog
 have hm:=underlying195
 have hd:=underlying9
 have hz:∀w,(zeroValue 147).run prog w=.ok .nilFunc w:=zeroValue147
 have hb:(w.alloc (.map #[] 0)).heap[w.heap.size]? = some (.map #[] 0):=(heap_alloc w _).1
 have hB:Below w.heap.size w (w.alloc (.map #[] 0)):=(Below.refl _ w).alloc (WN _) _
 go_enter func83,Tryz.ntmps83
 go_wp2
 iterate 16
  refine P0 hm hd hb Z0 (fun w2 hb2 hB2=>?_)
  replace hB:=hB.trans hB2
  replace hb:=hb2
  clear hB2 hb2
  go_wp2
 obtain⟨es,c,hb,he⟩:=TY hb (L:=LY.map (fun x=>(Value.string ⟨x.1.toArray⟩,Value.func (.func x.2) #[] #[]))) Z0;rcases B3 s es.toList LY 0 he with⟨x,hx,⟨j,hj⟩,hp⟩|⟨h1,hp⟩
 ·rw[DA hm hd (hz _) hb hj];simp only[Result.andThen];rw[Oper.upon_value]
  go_wp2
  rw[O5 underlying147];simp only[Result.andThen];rw[Oper.upon_value]
  go_wp2
  go_ret
  exact⟨by rw[hp];rfl,hB⟩
 ·rw[DA hm hd (hz _) hb h1];simp only[Result.andThen];rw[Oper.upon_value]
  go_wp2
  rw[Db underlying147];simp only[Result.andThen];rw[Oper.upon_value]
  go_wp2
  go_ret
  exact⟨by rw[hp];rfl,hB⟩
theorem Up{v:At}{x:List UInt8}(h:bC [.s] [v]=some x):v.noRf=true/\v.toV.isFz=true/\v.toV.map T.canon=.one (.c (.d (.str x))):=by
 obtain⟨h1,h2,h3⟩:=dl h;refine⟨by simpa using h1,by simpa using h2,?_⟩;have:[v.toV.map T.canon]=[AV.one (.c (.d (.str x)))]:=h3
 simpa using this
def oB:CKt:=swT LY 84
theorem EW:Cont prog 83 oB:=by
 refine⟨gp (fn:=f83) Z0 Z0 Z0,fun pk s ops k k' hk hc=>?_,fun g pk s a w H γ F1 ops k hX hops hc=>?_⟩
 ·unfold oB swT at hc⊢;dsimp only at hc⊢;split at hc
  ·rw[wl]at hc⊢;exact hk _ _ (bN _ _) hc
  ·exact hc.elim
 ·unfold oB swT at hc;dsimp only at hc;obtain⟨H1,F2,h1⟩:=cE (ops.map (evA s)) s H F1 hX;generalize bw s (ops.map (evA s))=s1 at hc h1;split at hc
  ·rename_i x hx;rw[wl]at hc
   match ops,hx with
   |[],hx=>simp[bC]at hx
   |[o],hx=>
    obtain⟨_,hz,hcn⟩:=Up hx;have hop:ax o=true:=by simpa using hops
    have hv:=aA h1 hop
    rw[af hop]at hv;have hv2:=dW ct (l7 (w':=w) (γ':=γ) (m':=[]) (fun _ _ _ h=>h) hz hv)
    rw[hcn]at hv2;obtain⟨e1,_⟩:=jh hv2;show Calls _ _ #[a.eval o] w _
    rw[e1];refine(Ab ⟨x.toArray⟩ w).mono ?_;rintro e w' ⟨rfl,hb⟩
    rw[nw];have hsame:∀b,tot F2 s1.toS.m b≠0->w'.heap[b]? = w.heap[b]? := fun b hb'=>hb.block b (h1.mem.lt b hb')
    have hKp:=cD (w':=w') h1.mem hsame
    have hmem:Mem w' H1 γ s1.toS.m F2:=by
     refine⟨fun b o y hy=>?_,fun x hx=>aN hKp (fun _ _ _ h=>h) rfl (fun b hb'=>hsame b (by have:=aW (F:=F2) hx b;omega)) (h1.mem.roots x hx),h1.mem.keys,h1.mem.le1,fun b hb'=>by have:=h1.mem.lt b hb';have:=hb.size;omega,h1.mem.nofz⟩;have hlt:b<w.heap.size:=(h1.mem.agree b o y hy).lt
     exact(h1.mem.agree b o y hy).frame (hb.block b hlt)
    have hFr:Fr w H1 (tot F2 s1.toS.m) w' H1 (tot F2 s1.toS.m):=
     ⟨hb.size,hb.os,hb.tape,hb.output,fun b hb' _=>hb.block b hb',fun _ _ _ h=>h,fun b o h2 h3=>absurd h3 h2,fun b hb=>.inl hb,fun b h0=>h0.of_block (hb.block b h0.lt),jE.2⟩
    exact .inl ⟨_,s1,sct (.v (.func (.func (ou x 84 LY)) #[] #[])),H1,γ,F2,rfl,hc,⟨fun _=>rfl,0,rfl,rfl⟩,fp h1 hmem hFr (fun i=>bV hKp (fun _ _ _ h=>h) (h1.t i)) (fun _=>rfl)⟩
   |_::_::_,hx=>simp[bC]at hx
  ·exact hc.elim
end Go.Am
end

section
namespace Go.Am
open Go Go.Proofs
set_option maxRecDepth 100000
def eU:Ut:=[(39,(.st .Class)),(89,(.st .Var)),(41,(.st .Extern)),(45,(.st .Func)),(61,(.st .Block)),(47,.fn),(5,.b8),(64,(.st .Phi)),(73,(.st .Instr)),(9,.s),(66,(.st .In)),(56,(.st .Arg)),(137,(.st .Frame)),(141,(.st .Virt)),(85,(.st .Line)),(4,.bo),(139,(.st .Bind)),(3,(.i .i64)),(167,(.mp .s .bo)),(177,(.st .RLine)),(149,(.sl (.i .i64))),(278,(.st .step))]
def eS:List (TypeId×List Sh):=[(27,[.fr,.ow [.fr,.ow [.fr,.fr]],.ow [.fr,.fr],.ow [.fr,.fr],.ow [.fr,.fr,.ow [.fr,.fr],.ow [.fr,.fr],.ow [.fr,.ow [.fr,.fr],.ow [.fr,.fr,.fr,.fr,.ow [.fr,.fr,.fr,.fr],.ow [.fr,.fr]],.fr,.fr,.fr,.fr,.fr,.fr]]]),(39,[.fr,.ow [.fr,.fr]]),(45,[.fr,.fr,.ow [.fr,.fr],.ow [.fr,.fr],.ow [.fr,.ow [.fr,.fr],.ow [.fr,.fr,.fr,.fr,.ow [.fr,.fr,.fr,.fr],.ow [.fr,.fr]],.fr,.fr,.fr,.fr,.fr,.fr]]),(61,[.fr,.ow [.fr,.fr],.ow [.fr,.fr,.fr,.fr,.ow [.fr,.fr,.fr,.fr],.ow [.fr,.fr]],.fr,.fr,.fr,.fr,.fr,.fr]),(73,[.fr,.fr,.fr,.fr,.ow [.fr,.fr,.fr,.fr],.ow [.fr,.fr]]),(79,[.fr,.ow [.fr,.ow [.fr,.fr]],.ow [.fr,.fr],.ow [.fr,.fr],.ow [.fr,.fr,.ow [.fr,.fr],.ow [.fr,.fr],.ow [.fr,.ow [.fr,.fr],.ow [.fr,.fr,.fr,.fr,.ow [.fr,.fr,.fr,.fr],.ow [.fr,.fr]],.fr,.fr,.fr,.fr,.fr,.fr]],.fr,.fr,.fr,.fr]),(80,[.fr,.ow [.fr,.ow [.fr,.fr]],.ow [.fr,.fr],.ow [.fr,.fr],.ow [.fr,.fr,.ow [.fr,.fr],.ow [.fr,.fr],.ow [.fr,.ow [.fr,.fr],.ow [.fr,.fr,.fr,.fr,.ow [.fr,.fr,.fr,.fr],.ow [.fr,.fr]],.fr,.fr,.fr,.fr,.fr,.fr]],.fr,.fr,.fr,.fr]),(158,[.fr,.ow [.fr,.ow [.fr,.fr]],.ow [.fr,.fr],.ow [.fr,.fr],.ow [.fr,.fr,.ow [.fr,.fr],.ow [.fr,.fr],.ow [.fr,.ow [.fr,.fr],.ow [.fr,.fr,.fr,.fr,.ow [.fr,.fr,.fr,.fr],.ow [.fr,.fr]],.fr,.fr,.fr,.fr,.fr,.fr]],.fr,.fr,.fr,.fr,.ow [.fr,.fr,.fr,.fr],.ow [.fr,.fr],.fr,.fr]),(159,[.fr,.ow [.fr,.ow [.fr,.fr]],.ow [.fr,.fr],.ow [.fr,.fr],.ow [.fr,.fr,.ow [.fr,.fr],.ow [.fr,.fr],.ow [.fr,.ow [.fr,.fr],.ow [.fr,.fr,.fr,.fr,.ow [.fr,.fr,.fr,.fr],.ow [.fr,.fr]],.fr,.fr,.fr,.fr,.fr,.fr]],.fr,.fr,.fr,.fr,.ow [.fr,.fr,.fr,.fr],.ow [.fr,.fr],.fr,.fr]),(174,[.fr,.ow [.fr,.ow [.fr,.fr]],.ow [.fr,.fr],.ow [.fr,.fr],.ow [.fr,.fr,.ow [.fr,.fr],.ow [.fr,.fr],.ow [.fr,.ow [.fr,.fr],.ow [.fr,.fr,.fr,.fr,.ow [.fr,.fr,.fr,.fr],.ow [.fr,.fr]],.fr,.fr,.fr,.fr,.fr,.fr]],.fr,.fr]),(175,[.fr,.ow [.fr,.ow [.fr,.fr]],.ow [.fr,.fr],.ow [.fr,.fr],.ow [.fr,.fr,.ow [.fr,.fr],.ow [.fr,.fr],.ow [.fr,.ow [.fr,.fr],.ow [.fr,.fr,.fr,.fr,.ow [.fr,.fr,.fr,.fr],.ow [.fr,.fr]],.fr,.fr,.fr,.fr,.fr,.fr]],.fr,.fr])]
abbrev eP:List (TypeId×List Sh):=[(149,[.ow [.fr]])]
abbrev shR:List Sh:=[.fr,.ow [.fr,.ow [.fr,.fr]],.ow [.fr,.fr],.ow [.fr,.fr],.ow [.fr,.fr,.ow [.fr,.fr],.ow [.fr,.fr],.ow [.fr,.ow [.fr,.fr],.ow [.fr,.fr,.fr,.fr,.ow [.fr,.fr,.fr,.fr],.ow [.fr,.fr]],.fr,.fr,.fr,.fr,.fr,.fr]],.fr,.fr,.fr,.fr]
noncomputable def x80:Cl 80:=⟨fnB [.s,.s] [.sl .s] (fun x=>decide (x.1.length < 4294967281)&&decide (1<=x.2.length)) (fun x=>zk x.1 x.2),_,uS (fun x h=>by simp only[WI,decide_eq_true_eq]at h;exact h),NK⟩
noncomputable def x81:Cl 81:=⟨fnB [.s,.s] [.s,.s,.bo] (fun x=>decide (x.1.length < 4294967281)) (fun x=>VF x.1 x.2),_,uS (fun x h=>of_decide_eq_true h),Uj⟩
noncomputable def Wi:Cl 124:=clL eU eP [] 128 f124 [.b8] [.bo]
noncomputable def x82:Cl 82:=clP eU eP [⟨_,Wi⟩] 128 f82 [.s] [.sl .s,.bo]
noncomputable def x32:Cl 32:=clP eU eP [⟨_,x80⟩,⟨_,x81⟩,⟨_,x82⟩] 128 f32 [.s] [(.sl (.st .Line)),.i .i64,.i .i64]
noncomputable def x85:Cl 85:=clN eU eS [] 128 f85
noncomputable def Wj:Cl 125:=clM eU eS [⟨_,x85⟩] 128 f125 [.sl .s] [] shR (.st .Reader)
noncomputable def x86:Cl 86:=clL eU eS [] 128 f86 [(.sl (.i .i64)),.i .i64] [.bo]
noncomputable def x35:Cl 35:=clN eU eS [⟨_,x86⟩,⟨_,x85⟩] 128 f35
noncomputable def x89:Cl 89:=clL eU eP [] 128 f89 [.b8] [.bo]
noncomputable def x90:Cl 90:=clL eU eP [] 128 f90 [.s] [.bo]
noncomputable def x91:Cl 91:=clL eU eP [] 128 f91 [.b8] [.bo]
noncomputable def x38:Cl 38:=clL eU eP [⟨_,x89⟩,⟨_,x90⟩,⟨_,x91⟩] 128 f38 [.s] [.bo]
noncomputable def se:Cl 138:=clL eU eS [⟨_,x38⟩,⟨_,x85⟩] 128 f138 [.s] [.s]
noncomputable def tb:Cl 184:=clN eU eS [] 128 f184
noncomputable def Wk:Cl 126:=clM eU eS [⟨_,x35⟩,⟨_,x85⟩,⟨_,se⟩,⟨_,tb⟩] 128 f126 [.sl .s] [] shR (.st .Reader)
noncomputable def P9:Cl 185:=clL eU eS [⟨_,x38⟩,⟨_,x85⟩] 128 f185 [.s] [.s]
noncomputable def Wl:Cl 127:=clM eU eS [⟨_,x35⟩,⟨_,x85⟩,⟨_,se⟩,⟨_,P9⟩,⟨_,tb⟩] 128 f127 [.sl .s] [] shR (.st .Reader)
noncomputable def Wm:Cl 128:=clM eU eS [⟨_,x35⟩,⟨_,x85⟩,⟨_,se⟩,⟨_,P9⟩,⟨_,tb⟩] 128 f128 [.sl .s] [] shR (.st .Reader)
noncomputable def WA:Cl 229:=clF [.i .i64] [.s] (fun x=>if x=(1:Int)then [49]else [50]) (fun x=>decide (x=(1:Int)\/x=(2:Int))) (fun x h=>of_decide_eq_true h) Ul
noncomputable def S4:Cl 191:=clL eU eP [⟨_,WA⟩] 128 f191 [.s] [.i .i64,.bo]
noncomputable def V1:Cl 186:=clL eU eS [⟨_,S4⟩,⟨_,x85⟩] 128 f186 [.s,.i .i64,.i .i64] [.i .i64]
noncomputable def Wn:Cl 129:=clM eU eS [⟨_,x35⟩,⟨_,x85⟩,⟨_,se⟩,⟨_,V1⟩,⟨_,tb⟩] 128 f129 [.sl .s] [] shR (.st .Reader)
noncomputable def Wo:Cl 130:=clM eU eS [⟨_,x35⟩,⟨_,x85⟩,⟨_,se⟩,⟨_,P9⟩,⟨_,tb⟩] 128 f130 [.sl .s] [] shR (.st .Reader)
noncomputable def S2:Cl 187:=clN eU eS [] 128 f187
noncomputable def Wp:Cl 131:=clM eU eS [⟨_,x35⟩,⟨_,x85⟩,⟨_,se⟩,⟨_,P9⟩,⟨_,S2⟩,⟨_,tb⟩] 128 f131 [.sl .s] [] shR (.st .Reader)
noncomputable def Wq:Cl 132:=clM eU eS [⟨_,x35⟩,⟨_,x85⟩,⟨_,se⟩,⟨_,P9⟩,⟨_,S2⟩,⟨_,tb⟩] 128 f132 [.sl .s] [] shR (.st .Reader)
noncomputable def Wx:Cl 188:=clN eU eS [] 128 f188
noncomputable def Wr:Cl 133:=clM eU eS [⟨_,Wx⟩,⟨_,x85⟩,⟨_,se⟩,⟨_,S2⟩,⟨_,tb⟩] 128 f133 [.sl .s] [] shR (.st .Reader)
noncomputable def WE:Cl 254:=⟨fnB [.s,.s] [.s,.bo] (fun _=>true) (fun x=>Tu x.1 x.2),_,Oi,QU⟩
noncomputable def WF:Cl 255:=⟨fnB [.s,.b8] [.i .i64] (fun _=>true) (fun x=>Ou x.1 x.2),_,Oi,NJ⟩
noncomputable def WC:Cl 245:=clL eU eP [] 128 f245 [.i .i64] [.i .i64]
noncomputable def WD:Cl 250:=clL eU eP [⟨_,WE⟩,⟨_,WF⟩,⟨_,WC⟩] 128 f250 [.s] [.i .i64,.bo]
noncomputable def WB:Cl 243:=clP eU eP [⟨_,WD⟩,⟨_,S4⟩] 128 f243 [.s] [.st .Arg,.bo]
noncomputable def Wz:Cl 228:=clP eU eP [⟨_,x38⟩,⟨_,S4⟩,⟨_,WB⟩] 128 f228 [.s] [.st .Arg,.bo]
noncomputable def S3:Cl 189:=clP eU eS [⟨_,Wz⟩,⟨_,x85⟩] 128 f189 [.s,.bo] [.st .Arg]
noncomputable def V0:Cl 142:=clN eU eS [⟨_,tb⟩] 128 f142
noncomputable def S1:Cl 143:=clN eU eS [⟨_,S2⟩] 128 f143
noncomputable def Ws:Cl 134:=clM eU eS [⟨_,x35⟩,⟨_,x85⟩,⟨_,se⟩,⟨_,S3⟩,⟨_,tb⟩,⟨_,V0⟩,⟨_,S1⟩] 128 f134 [.sl .s] [] shR (.st .Reader)
noncomputable def V2:Cl 190:=clN eU eS [⟨_,S1⟩] 128 f190
noncomputable def Wt:Cl 135:=clM eU eS [⟨_,x35⟩,⟨_,x85⟩,⟨_,se⟩,⟨_,V1⟩,⟨_,S3⟩,⟨_,tb⟩,⟨_,V2⟩] 128 f135 [.sl .s] [] shR (.st .Reader)
noncomputable def VZ:Cl 141:=clP eU eS [⟨_,S3⟩] 128 f141 [.sl .s,.bo] [(.sl (.st .Arg))]
noncomputable def Wu:Cl 136:=clM eU eS [⟨_,x35⟩,⟨_,x85⟩,⟨_,se⟩,⟨_,VZ⟩,⟨_,V2⟩,⟨_,tb⟩] 128 f136 [.sl .s] [] shR (.st .Reader)
noncomputable def Wv:Cl 137:=clM eU eS [⟨_,x35⟩,⟨_,x85⟩,⟨_,se⟩,⟨_,S3⟩,⟨_,S4⟩,⟨_,S1⟩] 128 f137 [.sl .s] [] shR (.st .Reader)
noncomputable def Wy:Cl 192:=clL eU eS [] 128 f192 [.s,.i .i64] [.s]
noncomputable def VY:Cl 140:=clP eU eS [⟨_,Wy⟩] 128 f140 [.i .i64] [.st .Form,.bo]
noncomputable def Ww:Cl 139:=clL eU eS [⟨_,VY⟩] 128 f139 [.s] [.i .i64,.bo]
noncomputable def x84:Cl 84:=clM eU eS [⟨_,x35⟩,⟨_,se⟩,⟨_,Ww⟩,⟨_,x85⟩,⟨_,VY⟩,⟨_,VZ⟩,⟨_,V0⟩,⟨_,S1⟩] 128 f84 [.sl .s] [] shR (.st .Reader)
noncomputable def x83:Cl 83:=⟨swB LY 84,_,UX,EW⟩
noncomputable def x34:Cl 34:=clM eU eS [⟨_,x83⟩,⟨_,Wj⟩,⟨_,Wk⟩,⟨_,Wl⟩,⟨_,Wm⟩,⟨_,Wn⟩,⟨_,Wo⟩,⟨_,Wp⟩,⟨_,Wq⟩,⟨_,Wr⟩,⟨_,Ws⟩,⟨_,Wt⟩,⟨_,Wu⟩,⟨_,Wv⟩,⟨_,x84⟩] 128 f34 [.sl .s] [] shR (.st .Reader)
noncomputable abbrev lParse:ClS:=[⟨_,x32⟩,⟨_,x34⟩,⟨_,x35⟩]
abbrev VU:List UInt8:=[115,115,97,10,102,117,110,99,32,102,32,105,110,116,10,118,97,114,32,120,32,105,110,116,10,98,108,111,99,107,32,97,10,120,32,61,32,109,111,118,32,49,10,114,101,116,32,120,10]
abbrev rA:Lt.Func:=⟨[102],[105,110,116],[],[⟨[120],[105,110,116]⟩],[⟨[97],[],[⟨24,[120],[],[⟨2,[],1⟩],[],[]⟩],⟨3,⟨1,[120],0⟩,[],0⟩⟩]⟩
abbrev l5:Lt.Program:=⟨true,[],[],[],[rA]⟩
theorem ta0:ur 128 (clE eU eS lParse) f10 (kLs 4 (f10.body.getD .skip)) (kRs (4+1) (f10.body.getD .skip)) [.s] [.st .Program,.i .i64,.i .i64] VU (fun y=>decide (y=(l5,0,0)))=true:=Z0
abbrev VV:List UInt8:=[115,115,97,10,102,117,110,99,32,102,32,105,110,116,10,118,97,114,32,120,32,105,110,116,10,98,108,111,99,107,32,97,10,120,32,61,32,109,111,118,32,49,10,120,32,61,32,109,111,118,32,50,10,114,101,116,32,120,10]
abbrev Oj:Lt.Func:=⟨[102],[105,110,116],[],[⟨[120],[105,110,116]⟩],[⟨[97],[],[⟨24,[120],[],[⟨2,[],1⟩],[],[]⟩,⟨24,[120],[],[⟨2,[],2⟩],[],[]⟩],⟨3,⟨1,[120],0⟩,[],0⟩⟩]⟩
abbrev rV:Lt.Program:=⟨true,[],[],[],[Oj]⟩
theorem ta1:ur 128 (clE eU eS lParse) f10 (kLs 4 (f10.body.getD .skip)) (kRs (4+1) (f10.body.getD .skip)) [.s] [.st .Program,.i .i64,.i .i64] VV (fun y=>decide (y=(rV,0,0)))=true:=by kernel_rfl
set_option maxRecDepth 100000
section
structure Ev (sh:List (TypeId×List Sh)) where
 cs:CTt
 ok:En.ok ⟨prog,eU,cs,sh,noP⟩
structure Cb (f:Nat) where
 C:CKt
 ok:Cont prog f C
structure Kb (f:Nat) where
 C:CKt
 ok:ContC prog f C
noncomputable abbrev Ev.en{sh:List (TypeId×List Sh)}(E:Ev sh):En:=⟨prog,eU,E.cs,sh,noP⟩
theorem En.ok0{P:Program}{u:Ut}{sh:List (TypeId×List Sh)}{pk:PKt}:En.ok ⟨P,u,[],sh,pk⟩:=fun _ h=>by cases h
theorem En.okc{P:Program}{u:Ut}{sh:List (TypeId×List Sh)}{pk:PKt}{f:Nat}{C:CKt}{cs:CTt}(h:Cont P f C)(hs:En.ok ⟨P,u,cs,sh,pk⟩)(hf:Nat.blt f 1000000=true):En.ok ⟨P,u,(f,C)::cs,sh,pk⟩:=by
 intro x hx;rcases WR.1 hx with rfl|hx
 ·exact⟨fun _=>h,fun hb=>absurd hb (Nat.not_le.2 (WT hf))⟩
 ·exact hs x hx
theorem mixed:prog.follows .mixedOrders=true:=Z0
def okF(n:Nat)(fn:Func):Bool:=fn.name != "runtime.NumGoroutine" && (fn.body.isSome&&(Nat.ble n fn.ntmps&&fw fn.ntmps (fn.body.getD .skip)))
theorem ew{n:Nat}{fn:Func}(h:okF n fn=true):(fn.name == "runtime.NumGoroutine")=false/\fn.body.isSome=true/\Nat.ble n fn.ntmps=true/\fw fn.ntmps (fn.body.getD .skip)=true:=by
 unfold okF at h;simp only[WI,bne,XE]at h;exact h
def aE:Nat->Nat->List Sg->(An->Nat->List Sg->An)->An
 |0,n,l,κ=>κ .l n l
 |k+1,n,l,κ=>match n % 8 with
  |0=>κ .l (n / 8) l
  |1=>aE k (n / 8) l fun a n l=>aE k n l fun b n l=>κ (.s a b) n l
  |2=>aE k (n / 8) l fun a n l=>aE k n l fun b n l=>κ (.c a b) n l
  |3=>aE k (n / 8) l fun a n l=>κ (.b a) n l
  |4=>match l with
   |g::l=>aE k (n / 8) l fun a n l=>aE k n l fun b n l=>κ (.j g a b) n l
   |[]=>.l
  |5=>match l with
   |g::l=>aE k (n / 8) l fun a n l=>κ (.lp g a) n l
   |[]=>.l
  |_=>aE k (n / 64) l fun a m l=>κ (.un (n / 8 % 8) a) m l
def aD(n:Nat)(l:List Sg):An:=aE 200 n l fun a _ _=>a
def aG(ks kr:List Nat)(sp:List Sp):Sg:=⟨ks,kr.map .loc,[],sp⟩
abbrev uI:U:=.i .i64
variable {sh:List (TypeId×List Sh)}
noncomputable def eZ:Ev sh:=⟨[],En.ok0⟩
noncomputable def ad{f:Nat}(c:Cb f)(E:Ev sh)(hf:Nat.blt f 1000000=true:=by rfl):Ev sh:=⟨(f,c.C)::E.cs,En.okc c.ok E.ok hf⟩
noncomputable def bA{f:Nat}(c:Cb f):Cb f:=⟨apT c.C,GY c.ok⟩
noncomputable def bS{f:Nat}(t:Nat)(c d:Cb f):Cb f:=⟨SF t c.C d.C,MD c.ok d.ok⟩
noncomputable def bI(E:Ev sh)(f:Nat)(fn:Func)(an:An)(hf:prog.funcs[f]? = some fn:=by kernel_rfl)(hb:(okF 0 fn&&Nat.ble fn.ntmps 100000)=true:=by kernel_rfl):Cb f:=
 have h:=ew ((WI _ _).mp hb).1
 ⟨E9 E.en fn an,AC E.ok mixed hf h.1 h.2.1 h.2.2.2 ((WI _ _).mp hb).2⟩
noncomputable def b0(E:Ev sh){f:Nat}(fn:Func)(an:An)(ps rs:List U){F:Fl ps->Fl rs}{G:Fl ps->(Fl rs->Prop)->Prop}(law:∀x,∀KK:Fl rs->Prop,KK (F x)->G x KK)(hw:∀x KK,G x KK=ib E.en fn an ps rs x KK:=by intros;kernel_rfl)(hf:prog.funcs[f]? = some fn:=by kernel_rfl)(hb:okF ps.length fn=true:=by kernel_rfl):Cb f:=
 ⟨gY ps rs F,tR E.ok mixed hf (ew hb).1 (ew hb).2.1 (ew hb).2.2.1 (ew hb).2.2.2 fun x KK h=>hw x KK ▸ law x KK h⟩
noncomputable def b1(E:Ev sh){f:Nat}(fn:Func)(an:An)(ps rs:List U){pre:Fl ps->Prop}{F:Fl ps->Fl rs}{G:Fl ps->(Fl rs->Prop)->Prop}(law:∀x,pre x->∀KK:Fl rs->Prop,KK (F x)->G x KK)(hw:∀x KK,G x KK=ib E.en fn an ps rs x KK:=by intros;kernel_rfl)(hf:prog.funcs[f]? = some fn:=by kernel_rfl)(hb:okF ps.length fn=true:=by kernel_rfl):Cb f:=
 ⟨cY ps rs pre F,xf E.ok mixed hf (ew hb).1 (ew hb).2.1 (ew hb).2.2.1 (ew hb).2.2.2 fun x hp KK h=>hw x KK ▸ law x hp KK h⟩
noncomputable def b8(E:Ev sh){f:Nat}(fn:Func)(an:An)(ps rs:List U){pre:Fl ps->Prop}{post:Fl ps->Fl rs->Prop}{G:Fl ps->(Fl rs->Prop)->Prop}(law:∀x,pre x->∀KK:Fl rs->Prop,(∀y,post x y->KK y)->G x KK)(hw:∀x KK,G x KK=ib E.en fn an ps rs x KK:=by intros;kernel_rfl)(hf:prog.funcs[f]? = some fn:=by kernel_rfl)(hb:okF ps.length fn=true:=by kernel_rfl):Cb f:=
 ⟨qi ps rs pre post,MC E.ok mixed hf (ew hb).1 (ew hb).2.1 (ew hb).2.2.1 (ew hb).2.2.2 fun x hp KK h=>hw x KK ▸ law x hp KK h⟩
noncomputable def b6(E:Ev sh){f:Nat}(fn:Func)(an:An)(ps rs:List U){pre:Fl ps->Prop}{F:Fl ps->Fl rs}{G:Fl ps->(Fl rs->Prop)->Prop}(law:∀x,pre x->∀KK:Fl rs->Prop,KK (F x)->G x KK)(hw:∀x KK,G x KK=ib E.en fn an ps rs x KK:=by intros;kernel_rfl)(hf:prog.funcs[f]? = some fn:=by kernel_rfl)(hb:okF ps.length fn=true:=by kernel_rfl):Cb f:=
 ⟨I9 ps rs pre F,JF E.ok mixed hf (ew hb).1 (ew hb).2.1 (ew hb).2.2.1 (ew hb).2.2.2 fun x hp KK h=>hw x KK ▸ law x hp KK h⟩
abbrev eF:List (TypeId×List Sh):=[(4000107,[])]
abbrev eH:List (TypeId×List Sh):=[(5000003,[])]
abbrev eO:List (TypeId×List Sh):=[(7000000,[])]
abbrev eR:List (TypeId×List Sh):=[(3000035,[])]
abbrev eW:List (TypeId×List Sh):=[(3000053,[])]
noncomputable def KE:Cb 206:=⟨_,ET⟩
noncomputable def NO:Cb 89:=b0 (eZ:Ev []) f89 (aD 0x101 [aG [] [] [.sl 2 .bo]]) [.b8] [.bo] Fk
noncomputable def Uk:Cb 90:=b0 (eZ:Ev []) f90 (aD 0x101 [aG [] [] [.sl 2 .bo]]) [.s] [.bo] OI
noncomputable def BK:Cb 91:=b0 (eZ:Ev []) f91 (aD 0x41 []) [.b8] [.bo] wS
noncomputable def jV:Cb 38:=b0 ((ad NO (ad Uk (ad BK eZ))):Ev []) f38 (aD 0x80014202c8088358240050841 [aG [0] [] [.sl 20 .bo],aG [0,22] [] [.sl 23 uI],aG [0,22,23] [] [.sl 37 .bo]]) [.s] [.bo] OG
noncomputable def NN:Cb 88:=b0 ((ad jV eZ):Ev []) f88 (aD 0x101 [aG [] [] [.sl 2 .bo]]) [.s] [.bo] OJ
noncomputable def IQ:Cb 37:=b0 ((ad jV (ad NN eZ)):Ev []) f37 (aD 0x80014202c8088358240050241 [aG [11,12] [] [.sl 13 uI],aG [11,12,13] [] [.sl 26 .bo]]) [.sl (.st .Var),uI] [.bo] (fun x=>Lz x.1 x.2)
noncomputable def QP:Cb 245:=b0 (eZ:Ev []) f245 (aD 0x40050841 [aG [0] [] [.sl 10 .bo]]) [uI] [uI] Lf
noncomputable def BL:Cb 230:=b0 ((ad jV (ad QP eZ)):Ev []) f230 (aD 0x802204028102204028100a058241 [aG [] [] [.sl 2 .bo],aG [] [] [.sl 2 .bo]]) [.st .Arg] [.bo] wT
noncomputable def ls:Cb 193:=b0 ((ad BL eZ):Ev []) f193 (aD 0x80014202c8088358241 [aG [1,7,8] [] [.sl 9 uI],aG [1,7,8,9] [] [.sl 24 .bo]]) [.sl (.st .Arg),.bo] [.bo] (fun x=>zy x.1 x.2)
noncomputable def KH:Cb 146:=b0 ((ad jV (ad ls eZ)):Ev []) f146 (aD 0x4005020440811020440b0482080014082c8088358241 [aG [1,8,9] [1] [.sl 10 uI],aG [] [] [.sl 2 .bo],aG [] [] [.sl 2 .bo],aG [] [] [.sl 2 .bo]]) [.st .Term] [.bo] CF
noncomputable def Vu:Cb 147:=b0 ((ad jV (ad ls eZ)):Ev []) f147 (aD 0x80014202c8088358240050841 [aG [1] [1] [.sl 20 .bo],aG [22,23] [] [.sl 24 uI],aG [22,23,24] [] [.sl 38 .bo]]) [.st .Phi] [.bo] RL
noncomputable def Vt:Cb 192:=b0 (eZ:Ev []) f192 (aD 0x20000a04120204b80204d609041 [aG [0] [] [.sl 1 uI,.sl 5 uI,.sl 6 uI],aG [0,6] [] [.sl 1 uI,.sl 5 uI]]) [.s,uI] [.s] (fun x=>RK x.1 x.2)
noncomputable def Vr:Cb 140:=b0 ((ad Vt eZ):Ev []) f140 (aD 0x4005020140805020140805020140805020140805020140b04800a100284641 [aG [0,2] [2] [.sl 4 .bo],aG [0,2] [2] [.sl 14 .bo]]) [uI] [.st .Form,.bo] UE
noncomputable def QT:Cb 194:=b0 ((ad jV (ad ls eZ)):Ev []) f194 (aD 0x80014202c8088358240050841 [aG [1] [1] [.sl 30 .bo],aG [32,33] [] [.sl 34 uI],aG [32,33,34] [] [.sl 48 .bo]]) [.st .Frame] [.bo] Li
noncomputable def QV:Cb 148:=b0 ((ad jV (ad Vr (ad ls (ad QT eZ)))):Ev []) f148 (aD 0x4000a101640441ac120005020b20220d609001421001421001421041 [aG [1,3] [1,3] [.sl 52 .bo],aG [1] [1] [.sl 84 .bo],aG [1] [1] [.sl 92 .bo],aG [1,104,105] [1] [.sl 106 uI],aG [115,116] [] [.sl 117 uI],aG [115,116,117] [] [.sl 136 .bo]]) [.st .Instr] [.bo] Lj
noncomputable def QS:Cb 92:=b0 ((ad jV (ad KH (ad Vu (ad QV eZ)))):Ev []) f92 (aD 0x100028105901106b0480014082c8088358240050841 [aG [1] [1] [.sl 16 .bo],aG [1,18,19] [1] [.sl 20 uI],aG [29,30] [] [.sl 31 uI]]) [.st .Block] [.bo] Lh
noncomputable def uC:Cb 39:=b0 ((ad IQ (ad jV (ad NN (ad QS eZ)))):Ev []) f39 (aD 0x800142020028420b20220d609040050841 [aG [1] [1] [.sl 39 .bo],aG [41,42] [] [.sl 3 uI,.sl 43 uI],aG [3,5,41,42,43] [5] [.sl 56 .bo],aG [3,41,42,43] [] [.sl 72 .bo]]) [.st .Func] [.bo] rG
noncomputable def BH:Cb 13:=b0 ((ad IQ (ad jV (ad uC eZ))):Ev []) f13 (aD 0x20005020b20220d60900028405901106b0480014202c8088358240050841 [aG [1] [1] [.sl 30 .bo],aG [1,32,33] [1] [.sl 34 uI],aG [1,32,33,34] [1] [.sl 47 .bo],aG [1,50,51] [1] [.sl 52 uI],aG [1,50,51,52] [1] [.sl 69 .bo],aG [72,73] [] [.sl 74 uI]]) [.st .Program] [.bo] wP
noncomputable def pQ:Cb 95:=b0 ((ad (bA (bI ((ad (bA (bI (eZ:Ev []) 41 f41 (aD 0x41 []))) eZ):Ev []) 149 f149 (aD 0x2080014082c8088358241 [aG [1,2,6,11,12,100000,100001,100002,100004,100005,100006,100007,100008] [1002,1004,6] [.sl 13 uI]]))) eZ):Ev []) f95 (aD 0x41 []) [.st .Program,.s] [.st .Class,.bo] (fun x=>Fy x.1 x.2)
noncomputable def BJ:Cb 47:=b0 ((ad pQ eZ):Ev []) f47 (aD 0x4041 [aG [] [] [.sl 4 .bo]]) [.st .Program,.s] [.bo] (fun x=>FC x.1 x.2)
noncomputable def BI:Cb 46:=b0 ((ad BJ (ad (bA (bI ((ad (bS 17 (bA (bI (eZ:Ev []) 94 f94 (aD 0x41 []))) (bA (bI (eZ:Ev []) 94 f94 (aD 0x41 [])))) eZ):Ev []) 93 f93 (aD 0x800028120b20220d609041 [aG [1,5,9,10,100001,100002,100007,100008,100009,100010,100019] [1002] [.sl 11 uI,.mp (.gh 8) .s .bo]]))) eZ)):Ev []) f46 (aD 0x80014082c8088358241 [aG [1,2,7,8] [2] [.sl 9 uI]]) [.st .Program,.sl (.st .Var)] [.bo] (fun x=>wQ x.1 x.2)
noncomputable def NW:Cb 14:=b1 ((ad (bA (bI ((ad (bS 17 (bA (bI (eZ:Ev []) 41 f41 (aD 0x41 []))) (bA (bI (eZ:Ev []) 41 f41 (aD 0x41 [])))) eZ):Ev []) 40 f40 (aD 0x800028120b20220d609041 [aG [1,5,9,10,100000,100001,100002,100008,100009] [1001] [.sl 11 uI,.mp (.gh 8) .s .bo]]))) (ad (bA (bI ((ad (bS 17 (bA (bI (eZ:Ev []) 43 f43 (aD 0x41 []))) (bA (bI (eZ:Ev []) 43 f43 (aD 0x41 [])))) eZ):Ev []) 42 f42 (aD 0x800028120b20220d609041 [aG [1,5,9,10,100000,100001,100002,100008,100009,100010,100011,100012,100013,100014] [2001] [.sl 11 uI,.mp (.gh 8) .s .bo]]))) (ad (bA (bI ((ad (bS 17 (bA (bI (eZ:Ev []) 45 f45 (aD 0x41 []))) (bA (bI (eZ:Ev []) 45 f45 (aD 0x41 [])))) eZ):Ev []) 44 f44 (aD 0x800028120b20220d609041 [aG [1,5,9,10,100000,100001,100002,100008,100009,100010,100011,100012,100013,100014,100015,100016,100017,100018,100019,100020] [1001] [.sl 11 uI,.mp (.gh 8) .s .bo]]))) (ad BI (ad BJ eZ))))):Ev []) f14 (aD 0x4000a10405901106b0480014082c8088358240050841 [aG [1] [1] [.sl 30 .bo],aG [1,32,33] [1] [.sl 34 uI],aG [1,45,46] [1] [.sl 47 uI],aG [1,6,45,46,47] [1,6] [.ow 7 [.fr,.fr] (.st .Var)],aG [1,45,46,47] [1] [.sl 68 .bo]]) [.st .Program] [.bo] FA
noncomputable def KG:Cb 15:=b1 ((ad (bA (bI (eZ:Ev []) 48 f48 (aD 0x20000a04120b20220d609041 [aG [4,14,15,100000,100001,100002,100007,100008,100009,100010,100012] [1001] [.sl 16 uI,.mp (.gh 12) .s uI]]))) (ad (bA (bI (eZ:Ev []) 49 f49 (aD 0x400002840482c80883582082c8088358241 [⟨[1,13,14,100000,100001,100002,100003,100004,100007,100008,100009,100010,100011,100012,100013,100014,100015,100016,100017,100018,100019,100020],[.gh 1012,.loc 2001],[],[.sl 15 uI]⟩,⟨[1,7,13,14,15,22,23,100000,100001,100002,100003,100004,100007,100008,100009,100010,100011,100012,100013,100014,100015,100016,100017,100018,100019,100020],[.gh 1012,.loc 2001],[],[.sl 24 uI,.mp (.gh 19) .s .bo]⟩,⟨[1,7,9,13,14,15,22,23,24,100000,100001,100002,100003,100004,100007,100008,100009,100010,100011,100012,100013,100014,100015,100016,100017,100018,100019,100020],[.gh 1012,.gh 19,.loc 2001],[],[.sl 44 .bo]⟩]))) (ad (bA (bI (eZ:Ev eR) 50 f50 (aD 0x4000a04105c01106b041118081359041041 [⟨[1,2,100000,100001,100002,100003,100004,100007,100008,100009,100010,100011,100012,100013,100014,100015,100016,100017,100018,100019,100020,100021,100022,100023,100024,100025],[.gh 1012,.loc 2,.loc 2001],[],[.ow 5 [.fr] .bo,.ow 6 [.fr] uI]⟩,⟨[1,2,5,6,100000,100001,100002,100003,100004,100007,100008,100009,100010,100011,100012,100013,100014,100015,100016,100017,100018,100019,100020,100021,100022,100023,100024,100025],[.gh 1012,.gh 900005,.gh 900006,.loc 2,.loc 2001],[(7,.loc 7,0)],[.rt (.loc 7) [.fr,.fr,.fr,.fr,.fr,.fr,.fr,.fr,.fr] (.st .Block)]⟩,⟨[1,2,38,39,100000,100001,100002,100003,100004,100007,100008,100009,100010,100011,100012,100013,100014,100015,100016,100017,100018,100019,100020,100021,100022,100023,100024,100025],[.gh 1012,.loc 2,.loc 2001],[],[.ow 5 [.fr] .bo,.ow 6 [.fr] uI,.sl 40 uI]⟩,⟨[1,2,38,39,40,100000,100001,100002,100003,100004,100007,100008,100009,100010,100011,100012,100013,100014,100015,100016,100017,100018,100019,100020,100021,100022,100023,100024,100025],[.gh 1012,.loc 2,.loc 2001],[],[.ow 5 [.fr] .bo,.ow 6 [.fr] uI]⟩]))) eZ))):Ev []) f15 (aD 0x20005020b20220d609001409040050241 [⟨[26,27],[.gh 900005],[],[.sl 28 uI]⟩]) [.st .Func] [.bo] CE
noncomputable def Q4:Cb 52:=b1 (eZ:Ev []) f52 (aD 0x4000140905901106b04800b20220d609040050241 [aG [2,5,17,18] [2] [.sl 19 uI,.mp (.gh 16) .s .bo],aG [5,27,28] [] [.sl 29 uI,.mp (.gh 16) .s .bo]]) [.st .Phi,.sl .s] [.bo] (fun x=>Lu x.1 x.2)
noncomputable def NT:Cb 16:=b1 ((ad (bA (bI (eZ:Ev eF) 51 f51 (aD 0x10002c808835820b20220d609041 [aG [3,10,11,100000,100001,100002,100008] [1001] [.sl 12 uI,.mo (.gh 8) .s .s],aG [3,5,10,11,12,18,19,100000,100001,100002,100008] [1001,5] [.sl 20 uI,.mo (.gh 8) .s .s]]))) (ad Q4 eZ)):Ev eH) f16 (aD 0x400014082c808835820028420b20220d609041 [⟨[3,11,12],[.gh 1008],[],[.sl 13 uI]⟩,⟨[3,5,11,12,13],[.gh 1008,.loc 5],[],[.sl 25 .bo]⟩,⟨[3,5,11,12,13,27,28],[.gh 1008,.loc 5],[],[.sl 29 uI]⟩]) [.st .Func] [.bo] Fx
noncomputable def sC:Cb 100:=b0 ((ad (bS 10 (bA (bI ((ad (bA (bI (eZ:Ev []) 94 f94 (aD 0x41 []))) eZ):Ev []) 159 f159 (aD 0x2080014082c8088358241 [aG [1,2,6,11,12,100000,100001,100002,100004,100005,100009,100010,100011] [1002,1004,6] [.sl 13 uI]]))) (bA (bI ((ad (bA (bI (eZ:Ev []) 94 f94 (aD 0x41 []))) eZ):Ev []) 159 f159 (aD 0x2080014082c8088358241 [aG [1,2,6,11,12,100001,100002,100004,100006,100007,100015,100017,100018,100019] [1002,1004,1006,6] [.sl 13 uI]])))) eZ):Ev []) f100 (aD 0x1001408841 [⟨[1,2,4],[.loc 2,.loc 4],[(6,.loc 6,0)],[.sl 7 .bo,.rt (.loc 6) [.fr,.fr] (.st .Var)]⟩]) [.st .Func,.s] [.st .Var,.bo] (fun x=>wR x.1 x.2)
noncomputable def IP:Cb 56:=b0 ((ad sC eZ):Ev []) f56 (aD 0x800a04028100a04020a058241 []) [.st .Func,.st .Arg] [.s,.bo] (fun x=>RN x.1 x.2)
noncomputable def Un:Cb 96:=b1 ((ad IP (ad sC (ad Vr eZ))):Ev eO) f96 (aD 0x80002812082c8088358240001409050301001421041 [aG [3,4,5,6,8] [3,4,5,6,8] [.sl 40 .bo],aG [4,5,6,10] [4,5,6] [.rt (.loc 10) [.fr,.fr,.fr,.fr,.fr,.fr,.fr,.fr,.fr,.fr,.fr,.fr,.ow []] (.st .asked)],aG [4,6,10,61,62] [4,6] [.sl 63 uI,.rt (.loc 10) [.fr,.fr,.fr,.fr,.fr,.fr,.fr,.fr,.fr,.fr,.fr,.fr,.ow [.fr]] (.st .asked)]]) [.st .Program,.st .Func,.st .Instr] [.st .asked,.bo] (fun x=>ON x.1 x.2.1 x.2.2)
noncomputable def EU:Cb 101:=b0 (eZ:Ev []) f101 (aD 0x41 []) [.s] [.bo] OQ
noncomputable def ny:Cb 57:=b0 ((ad EU eZ):Ev []) f57 (aD 0x101 [aG [] [] [.sl 4 .bo]]) [.s,.s] [.bo] (fun x=>Lv x.1 x.2)
noncomputable def Q8:Cb 150:=b0 (eZ:Ev []) f150 (aD 0x80014082c8088358241 [aG [1,2,3,10,11] [3] [.sl 12 uI]]) [.st .asked,.s,.s] [.bo] (fun x=>Ly x.1 x.2.1 x.2.2)
noncomputable def NV:Cb 156:=b0 ((ad ny eZ):Ev []) f156 (aD 0x80014082c8088358240050241 [aG [1,12,13] [] [.sl 14 uI]]) [.sl .s,.sl (.st .Var)] [.bo] (fun x=>OP x.1 x.2)
noncomputable def NY:Cb 151:=b0 ((ad pQ (ad NV eZ)):Ev []) f151 (aD 0x4041 [aG [] [] [.sl 2 .bo]]) [.st .asked] [.bo] FE
noncomputable def NU:Cb 195:=b0 ((ad pQ (ad (bA (bI ((ad (bA (bI (eZ:Ev []) 94 f94 (aD 0x41 []))) eZ):Ev []) 159 f159 (aD 0x2080014082c8088358241 [aG [1,2,6,11,12,100000,100001,100002,100003,100006,100007,100008,100009,100010,100011,100012,100013,100014,100015,100016,100017,100019,100020,100021] [1003,1006,1008,6] [.sl 13 uI]]))) eZ)):Ev []) f195 (aD 0x1001409041 []) [.st .Program,.s,.s] [.st .Var,.bo] (fun x=>Fz x.1 x.2.1 x.2.2)
noncomputable def KM:Cb 152:=b1 ((ad NU eZ):Ev []) f152 (aD 0x40050241 []) [.st .asked] [.st .Var,.bo] CM
noncomputable def Q7:Cb 153:=b0 ((ad EU eZ):Ev []) f153 (aD 0x101 [aG [] [] [.sl 4 .bo]]) [.s,.s] [.bo] (fun x=>Lx x.1 x.2)
noncomputable def KL:Cb 196:=b0 ((ad (bA (bI ((ad (bA (bI (eZ:Ev []) 94 f94 (aD 0x41 []))) eZ):Ev []) 159 f159 (aD 0x2080014082c8088358241 [aG [1,2,6,11,12,100000,100001,100002,100004,100005,100006,100007,100008] [1002,1004,6] [.sl 13 uI]]))) eZ):Ev []) f196 (aD 0x41 []) [.st .Program,.s] [.st .Var,.bo] (fun x=>CJ x.1 x.2)
noncomputable def EV:Cb 154:=b1 ((ad ny (ad KL eZ)):Ev []) f154 (aD 0x1001409041 []) [.st .asked] [.bo] zz
noncomputable def Q6:Cb 155:=b0 ((ad (bA (bI ((ad (bA (bI (eZ:Ev []) 45 f45 (aD 0x41 []))) eZ):Ev []) 197 f197 (aD 0x2080014082c8088358241 [aG [1,2,6,11,12,100000,100001,100002,100004,100005,100006,100007,100008] [1002,1004,6] [.sl 13 uI]]))) eZ):Ev []) f155 (aD 0x41 []) [.st .Program,.s] [.st .Func,.bo] (fun x=>Lw x.1 x.2)
noncomputable def KJ:Cb 157:=b0 ((ad (bA (bI ((ad (bA (bI (eZ:Ev []) 43 f43 (aD 0x41 []))) eZ):Ev []) 198 f198 (aD 0x2080014082c8088358241 [aG [1,2,6,11,12,100000,100001,100002,100004,100005,100006,100007,100008] [1002,1004,6] [.sl 13 uI]]))) eZ):Ev []) f157 (aD 0x41 []) [.st .Program,.s] [.st .Extern,.bo] (fun x=>CH x.1 x.2)
noncomputable def KN:Cb 97:=b1 ((ad ny (ad EU (ad Q8 (ad NY (ad KM (ad Q7 (ad EV (ad Q6 (ad NV (ad KJ eZ)))))))))):Ev []) f97 (aD 0x100140810140810140805008180140804140804140805020140805020140b04800a04028100a058241 [aG [1,32] [1] [.sl 102 .bo],aG [] [] [.sl 2 .bo],aG [] [] [.sl 2 .bo]]) [.st .asked] [.bo] CN
noncomputable def NX:Cb 53:=b1 ((ad Un (ad KN eZ)):Ev []) f53 (aD 0x1041 []) [.st .Program,.st .Func,.st .Instr] [.bo] (fun x=>FB x.1 x.2.1 x.2.2)
noncomputable def KQ:Cb 199:=b0 (eZ:Ev []) f199 (aD 0x40050841 [aG [2,3,4] [2,3,4] [.sl 21 .bo]]) [.st .Instr,.st .Arg] [.st .Virt,.bo] (fun x=>CP x.1 x.2)
noncomputable def Tk:Cb 158:=b0 ((ad IP (ad KQ eZ)):Ev []) f158 (aD 0x1001408241 []) [.st .Func,.st .Instr,.st .Arg] [.s,.bo] (fun x=>RO x.1 x.2.1 x.2.2)
noncomputable def NZ:Cb 98:=b0 ((ad Tk eZ):Ev []) f98 (aD 0x20000a10120b20220d609041 [aG [3,4,7,14,15] [3,4] [.sl 16 uI,.mp (.gh 12) .s .bo],⟨[3,4,7,9,14,15,16],[.gh 12,.loc 3,.loc 4,.loc 9],[],[.sl 35 .bo]⟩]) [.st .Func,.st .Instr,.st .Frame] [.bo] (fun x=>FF x.1 x.2.1 x.2.2)
noncomputable def Rb:Cb 99:=b0 ((ad ny (ad pQ (ad Tk eZ))):Ev []) f99 (aD 0x800142020b20220d609001421041 [aG [5,6,7,9] [5,6,7,9] [.sl 32 .bo],aG [5,6,9,34,35] [5,6,9] [.sl 36 uI],aG [5,6,9,34,35,36] [5,6,9] [.sl 60 .bo]]) [.st .Program,.st .Func,.st .Instr,.st .Virt] [.bo] (fun x=>LC x.1 x.2.1 x.2.2.1 x.2.2.2)
noncomputable def N0:Cb 54:=b0 ((ad NZ (ad Rb eZ)):Ev []) f54 (aD 0x100028105901106b0480014082c8088358241 [aG [3,4,5,12,13] [3,4,5] [.sl 14 uI],aG [3,4,5,25,26] [3,4,5] [.sl 27 uI]]) [.st .Program,.st .Func,.st .Instr] [.bo] (fun x=>FG x.1 x.2.1 x.2.2)
noncomputable def Uo:Cb 55:=b0 ((ad IP (ad ny eZ)):Ev []) f55 (aD 0x800a04028100a040281609041 []) [.st .Func,.st .Term] [.bo] (fun x=>OO x.1 x.2)
noncomputable def KO:Cb 17:=b1 ((ad NX (ad N0 (ad Uo eZ))):Ev []) f17 (aD 0x100028100028405901106b0482c8088358241 [aG [2,3,10,11] [2,3] [.sl 12 uI],aG [2,3,6,10,11,12,17,18] [2,3,6] [.sl 19 uI],aG [2,3,6,10,11,12,17,18,19] [2,3,6] [.sl 44 .bo]]) [.st .Program,.st .Func] [.bo] (fun x=>CO x.1 x.2)
noncomputable def Ra:Cb 18:=b0 ((ad IP (ad ny eZ)):Ev []) f18 (aD 0x20000142020b20220d60800a04820b20220d6082c8088358241 [aG [3,16,17] [3] [.sl 18 uI],aG [3,16,17,18,23,24] [3] [.sl 25 uI],aG [3,9,16,17,18,23,24,25,40,41] [3] [.sl 42 uI],aG [3,9,16,17,18,23,24,25,40,41,42] [3] [.sl 60 .bo]]) [.st .Program,.st .Func] [.bo] (fun x=>LB x.1 x.2)
noncomputable def Q9:Cb 19:=b1 (eZ:Ev []) f19 (aD 0x20005020b20220d60900028105901106b048002041700441ac1001640441ac120b20220d609041 [aG [3,5,18,19] [3] [.sl 20 uI,.mp (.gh 16) .s uI],aG [3,5,7,18,19,20,25,26] [3,7] [.sl 27 uI,.mp (.gh 16) .s uI],aG [3,5,18,19,20,38,39] [3] [.sl 40 uI,.mp (.gh 16) .s uI],aG [3,5,18,19,20,38,39,40] [3] [.mp (.gh 16) .s uI],⟨[3,5,55,56],[.gh 16,.loc 3],[],[.sl 57 uI]⟩,⟨[5,68,69],[.gh 16],[],[.sl 70 uI]⟩]) [.st .Program,.st .Func] [.bo] (fun x=>LA x.1 x.2)
noncomputable def BE:Cb 104:=b1 ((ad ⟨_,uB⟩ eZ):Ev []) f104 (aD 0x801020b80220d609041 [aG [5,11,12] [] [.sl 13 uI,.mp (.gh 800000) .s .bo],aG [5,11,12,13] [] [.mp (.gh 800000) .s .bo]]) [.mp .s .bo,.st .Block] [.mp .s .bo] (fun x=>Fe x.1 x.2)
noncomputable def KI:Cb 200:=b0 (eZ:Ev []) f200 (aD 0x80014082c8088358241 [aG [1,9,10] [] [.sl 11 uI]]) [.st .Func,.s] [uI,.bo] (fun x=>CG x.1 x.2)
noncomputable def Ui:Cb 160:=b1 ((ad KI eZ):Ev eP) f160 (aD 0x400102082e008835820b20220d609041 [aG [1,15,16] [1] [.ow 3 [.ow [.fr]] (.sl uI),.sl 17 uI],aG [1,4,15,16,17,24,25] [1] [.ow 3 [.ow [.fr]] (.sl uI),.sl 26 uI],aG [1,4,15,16,17,24,25,26] [1] [.ow 3 [.ow [.fr]] (.sl uI)]]) [.st .Func] [.sl (.sl uI)] OH
noncomputable def QW:Cb 231:=b0 (eZ:Ev []) f231 (aD 0x80014082c8088358241 [aG [0,1,7] [] [.sl 8 uI]]) [.sl uI,uI] [uI] (fun x=>Lk x.1 x.2)
noncomputable def NL:Cb 201:=b6 ((ad QW eZ):Ev []) f201 (aD 0x41 []) [.sl uI,uI] [.bo] (fun x(_:True)=>Fi x.1 x.2)
noncomputable def KD:Cb 161:=b1 ((ad NL eZ):Ev eP) f161 (aD 0x10004202e008835820b20220d609041 [aG [0,11,12] [] [.ow 3 [.ow [.fr]] (.sl uI),.sl 13 uI],aG [0,4,11,12,13,18,19] [] [.ow 3 [.ow [.fr]] (.sl uI),.sl 20 uI],aG [0,4,11,12,13,18,19,20] [] [.ow 3 [.ow [.fr]] (.sl uI)],⟨[0,3,4,7,11,12,13,18,19,20],[.gh 900003],[],[.sl 40 .bo]⟩]) [.sl (.sl uI)] [.sl (.sl uI)] CD
noncomputable def KC:Cb 162:=b8 ((ad (bA (bI (eZ:Ev eW) 202 f202 (aD 0x20028404100105024160204d641040050241041 [aG [0,100000,100002,100006] [] [.ow 4 [.fr] .bo,.ow 5 [.fr] uI,.ow 6 [.fr,.fr] (.st .step)],⟨[0,4,5,6,8,100000,100002,100006],[.gh 900004,.gh 900005,.gh 900006],[],[.sl 88 .bo]⟩]))) (ad (bA (bI (eZ:Ev eO) 203 f203 (aD 0x640409ac1 [aG [0,100004,100010] [] [.sl 2 uI,.sl 3 uI,.gw (.gh 900004) [.fr] uI]]))) eZ)):Ev eO) f162 (aD 0x41101 [aG [] [] [.ow 4 [.fr] uI]]) [.sl (.sl uI)] [.sl uI] CC
noncomputable def ES:Cb 163:=b0 (eZ:Ev []) f163 (aD 0x800b20220d609041 [aG [3,8,9] [] [.sl 10 uI,.mp (.gh 6) .s .bo]]) [.st .Func] [.mp .s .bo] zx
noncomputable def NH:Cb 164:=b8 (eZ:Ev []) f164 (aD 0x20204160220d609040050241 [aG [1,5,12] [] [.mp (.gh 10) .s .bo,.it (.gh 12) .s .bo]]) [.mp .s .bo,.mp .s .bo] [.mp .s .bo] (fun x=>Fg x.1 x.2)
noncomputable def NG:Cb 165:=b1 ((ad ⟨_,uB⟩ eZ):Ev []) f165 (aD 0x800b20220d609041 [aG [5,11,12] [] [.sl 13 uI,.mp (.gh 800000) .s .bo]]) [.mp .s .bo,.st .Block] [.mp .s .bo] (fun x=>Ff x.1 x.2)
noncomputable def QQ:Cb 102:=b8 ((ad BE (ad Ui (ad KD (ad KC (ad ES (ad NH (ad NG eZ))))))):Ev []) f102 (aD 0x800212020206001020b80220d60901030105901106b04160204d609041041041 [aG [1,4,5] [1] [.ow 6 [.fr] (.mp .s .bo),.ow 7 [.fr] (.mp .s .bo),.sl 8 .bo],aG [1,4,5,29,30] [1] [.ow 6 [.fr] (.mp .s .bo),.ow 7 [.fr] (.mp .s .bo),.sl 8 .bo,.sl 31 uI],⟨[1,4,5,6,7,8,10,29,30,31],[.gh 900006,.gh 900007,.loc 1],[],[.sl 11 (.mp .s .bo)]⟩,⟨[1,4,5,6,7,8,10,29,30,31,42,43],[.gh 900006,.gh 900007,.loc 1],[],[.sl 11 (.mp .s .bo),.sl 44 uI]⟩,⟨[1,4,5,6,7,8,10,29,30,31,42,43,44],[.gh 900006,.gh 900007,.loc 1],[],[.sl 11 (.mp .s .bo)]⟩,⟨[1,4,5,6,7,8,10,29,30,31],[.gh 900006,.gh 900007,.loc 1],[],[.sl 11 (.mp .s .bo)]⟩,⟨[1,4,5,6,7,10,11,29,30,31],[.gh 900006,.gh 900007,.loc 1],[],[.sl 8 .bo]⟩,⟨[1,4,5,6,7,8,10,11,29,30,31],[.gh 900006,.gh 900007,.loc 1],[],[.sl 84 .bo]⟩]) [.st .Func] [.sl (.mp .s .bo)] Lg
noncomputable def NP:Cb 168:=b8 ((ad (bA (bI ((ad (bS 21 (bA (bI (eZ:Ev []) 232 f232 (aD 0x2041 []))) (bS 39 (bA (bI (eZ:Ev []) 232 f232 (aD 0x2041 []))) (bA (bI (eZ:Ev []) 232 f232 (aD 0x2041 []))))) eZ):Ev []) 205 f205 (aD 0xb80220d6082c808835820005c01106b041640441ac12002e0088358241 [aG [0,3,15,16,100000,100001,100002,100003,100004,100005,100006] [1001,3] [.sl 17 uI,.mp (.gh 1004) .s .bo],aG [0,3,15,16,17,100000,100001,100002,100003,100004,100005,100006] [1001,3] [.mp (.gh 1004) .s .bo],aG [0,3,26,27,100000,100001,100002,100003,100004,100005,100006] [1001,3] [.sl 28 uI,.mp (.gh 1004) .s .bo],aG [0,3,26,27,28,33,34,100000,100001,100002,100003,100004,100005,100006] [1001,3] [.sl 35 uI,.mp (.gh 1004) .s .bo],aG [0,3,26,27,28,33,34,35,100000,100001,100002,100003,100004,100005,100006] [1001,3] [.mp (.gh 1004) .s .bo],aG [0,46,47,100000,100001,100002,100003,100004,100005,100006] [1001] [.sl 48 uI,.mp (.gh 1004) .s .bo],aG [0,46,47,48,53,54,100000,100001,100002,100003,100004,100005,100006] [1001] [.sl 55 uI,.mp (.gh 1004) .s .bo],aG [0,46,47,48,53,54,55,100000,100001,100002,100003,100004,100005,100006] [1001] [.mp (.gh 1004) .s .bo]]))) (ad KE eZ)):Ev []) f168 (aD 0x41041 []) [.st .Instr] [.sl .s] Fm
noncomputable def Ky:Cb 103:=b1 ((ad ⟨_,uB⟩ (ad (bA (bI (eZ:Ev []) 167 f167 (aD 0x80014082c8088358241 [⟨[0,7,8,100003,100005,100007,100011,100012,100013,100014,100015,100016,100017,100018,100019],[.gh 800000,.loc 1003,.loc 1007],[],[.sl 9 uI]⟩]))) (ad NP (ad (bA (bI (eZ:Ev []) 169 f169 (aD 0x41 []))) eZ)))):Ev []) f103 (aD 0x2001020028420b80220d609041 [aG [3,5,11,12] [3] [.sl 13 uI,.mp (.gh 800000) .s .bo],aG [3,5,11,12,13] [3] [.mp (.gh 800000) .s .bo],⟨[3,5,7,11,12,13],[.gh 800000,.loc 3,.loc 7],[],[.sl 21 .bo]⟩,aG [] [] [.sl 4 .bo]]) [.mp .s .bo,.st .Block] [.bo] (fun x=>Cz x.1 x.2)
noncomputable def QX:Cb 235:=b0 (eZ:Ev []) f235 (aD 0x80014082c8088358241 [aG [0,1,7] [] [.sl 8 uI]]) [.sl .s,.s] [uI] (fun x=>Ll x.1 x.2)
noncomputable def NM:Cb 207:=b0 ((ad QX eZ):Ev []) f207 (aD 0x41 []) [.sl .s,.s] [.bo] (fun x=>Fj x.1 x.2)
noncomputable def Kz:Cb 170:=b0 ((ad NM eZ):Ev []) f170 (aD 0x80014082c8088358241 [aG [1,2,10,11] [] [.sl 12 uI]]) [.st .Func,.s,.s] [.bo] (fun x=>CA x.1 x.2.1 x.2.2)
noncomputable def NI:Cb 105:=b0 ((ad (bA (bI (eZ:Ev []) 169 f169 (aD 0x41 []))) (ad Kz eZ)):Ev []) f105 (aD 0x80000508082c808835820b20220d6082c8088358241 [aG [1,2,14,15] [2] [.sl 16 uI],aG [1,2,6,14,15,16,21,22] [2,6] [.sl 23 uI],aG [1,2,6,14,15,16,21,22,23,28,29] [2,6] [.sl 30 uI],aG [1,2,6,14,15,16,21,22,23,28,29,30] [2,6] [.sl 56 .bo]]) [.st .Func,.mp .s (.mp .s .bo)] [.bo] (fun x=>Fh x.1 x.2)
noncomputable def KA:Cb 58:=b1 ((ad QQ (ad Ky (ad BE (ad NI eZ)))):Ev []) f58 (aD 0x800028120b80220d609041 [aG [1,3,8,9] [1] [.sl 10 uI,.mp (.gh 6) .s (.mp .s .bo)],aG [1,3,8,9,10] [1] [.mp (.gh 6) .s (.mp .s .bo)]]) [.st .Func] [.bo] CB
noncomputable def uD:Cb 7:=b1 ((ad BH (ad NW (ad KG (ad NT (ad KO (ad Ra (ad Q9 (ad (bA (bI ((ad KA eZ):Ev []) 20 f20 (aD 0x41 []))) eZ)))))))):Ev []) f7 (aD 0x100005020b20220dcc100140905901106b04800a040281641 [aG [1,21,22] [1] [.sl 23 uI]]) [.st .Program] [uI] zA
noncomputable def sB:Cb 11:=b0 (eZ:Ev []) f11 (aD 0x801020b80210d609040050241 [aG [0,1] [] [.sl 5 uI,.sl 6 uI],aG [0,1,5,6] [] [.sl 23 .bo],aG [0,1,6] [] [.sl 5 uI]]) [.sl (.st .Var),uI] [uI] (fun x=>wO x.1 x.2)
noncomputable def BF:Cb 145:=b0 (eZ:Ev []) f145 (aD 0x20320210d609040050241 [aG [0,1] [] [.sl 5 uI,.sl 6 uI],aG [0,1,5,6] [] [.sl 23 .bo]]) [.sl (.st .Arg),uI] [uI] (fun x=>wN x.1 x.2)
noncomputable def yZ:Cb 87:=b1 ((ad BF eZ):Ev []) f87 (aD 0x2004082e008435824001020b80210d60808180b20210d60901030040c040050841 [aG [1,2] [2] [.sl 20 .bo],aG [1,2] [2] [.sl 5 uI],aG [1,2] [2] [.sl 5 uI],aG [1,2] [2] [.sl 5 uI,.sl 6 uI],aG [1,2,5,6] [2] [.sl 61 .bo],aG [1,2,6] [2] [.sl 5 uI],aG [1,2,6] [2] [.sl 5 uI,.sl 7 uI],aG [1,2,5,6,7] [2] [.sl 98 .bo],aG [1,2,6,7] [2] [.sl 5 uI],aG [1,2] [2] [.sl 5 uI,.sl 8 uI],aG [1,2,5,8] [2] [.sl 141 .bo],aG [1,2,8] [2] [.sl 5 uI]]) [.st .Instr,uI] [uI] (fun x=>ve x.1 x.2)
noncomputable def yY:Cb 36:=b1 ((ad yZ eZ):Ev []) f36 (aD 0x101901086b048002041700421ac105901086b0480c808435824040c040050841 [aG [1,2] [2] [.sl 29 .bo],aG [1,2] [2] [.sl 5 uI],aG [1,2] [2] [.sl 5 uI,.sl 6 uI],aG [1,2,5,6] [2] [.sl 56 .bo],aG [1,2] [2] [.sl 5 uI,.sl 7 uI],aG [1,2,5,7] [2] [.sl 78 .bo],aG [1,2,7] [2] [.sl 5 uI,.sl 8 uI],aG [1,2,5,7,8] [2] [.sl 104 .bo],aG [1,2,7,8] [2] [.sl 5 uI],aG [1,2] [2] [.sl 5 uI,.sl 9 uI],aG [1,2,5,9] [2] [.sl 147 .bo]]) [.st .Block,uI] [uI] (fun x=>vd x.1 x.2)
noncomputable def Kx:Cb 12:=b1 ((ad sB (ad yY eZ)):Ev []) f12 (aD 0x80c808435824040c01030040c040050241 [aG [1,2] [2] [.sl 5 uI],aG [1,2] [2] [.sl 5 uI],aG [1,2] [2] [.sl 5 uI],aG [1,2] [2] [.sl 5 uI,.sl 6 uI],aG [1,2,5,6] [2] [.sl 53 .bo]]) [.st .Func,uI] [uI] (fun x=>Cy x.1 x.2)
noncomputable def Vq:Cb 6:=b1 ((ad sB (ad Kx eZ)):Ev []) f6 (aD 0x20320210d60901901086b04801020b80210d609040050841 [aG [1,2] [2] [.sl 24 .bo],aG [1,2] [2] [.sl 5 uI,.sl 6 uI],aG [1,2,5,6] [2] [.sl 38 .bo],aG [1,2,6] [2] [.sl 5 uI],aG [1,2] [2] [.sl 5 uI,.sl 7 uI],aG [1,2,5,7] [2] [.sl 72 .bo],aG [1,2] [2] [.sl 5 uI,.sl 8 uI],aG [1,2,5,8] [2] [.sl 94 .bo]]) [.st .Program,uI] [.bo] (fun x=>RJ x.1 x.2)
end
set_option maxRecDepth 100000
theorem JG{P:Program}{f:Nat}{ps rs:List U}{pre pre':Fl ps->Prop}{F F':Fl ps->Fl rs}(hpre:∀x,pre' x->pre x/\F' x=F x)(h:Cont P f (cY ps rs pre F)):Cont P f (cY ps rs pre' F'):=by
 refine⟨h.run,fun pk s ops k k' hk hc=>?_,fun g pk s a w H γ F1 ops k hX hops hc=>h.call g pk s a w H γ F1 ops k hX hops ?_⟩
 ·unfold cY at hc⊢;dsimp only at hc⊢;split at hc
  ·exact⟨hc.1,hk _ _ (bN _ _) hc.2⟩
  ·exact hc.elim
 ·unfold cY at hc⊢;dsimp only at hc⊢;split at hc
  ·rename_i x hx;obtain⟨h1,h2⟩:=hpre x hc.1;exact⟨h1,by rw[<- h2];exact hc.2⟩
  ·exact hc.elim
theorem Ov(b:Lt.Block)(h:b.End.To=[]):Lt.Gd [b]:=by
 have i0:∀i,i<[b].length->i=0:=fun i hi=>by simpa using hi
 refine⟨Nat.zero_lt_one,fun i j hi hj _=>by rw[i0 i hi,i0 j hj],fun i hi=>?_,fun i hi s hs=>?_,fun k hk=>?_⟩
 ·rw[i0 i hi];show b.End.To.Nodup
  rw[h];exact List.nodup_nil
 ·rw[i0 i hi]at hs;have hs:s∈b.End.To:=hs
  rw[h]at hs;cases hs
 ·rw[i0 k hk];exact .first Nat.zero_lt_one
abbrev Gf:Lt.Program:=⟨false,[],[],[],[]⟩
theorem Pu:cc l5:=by
 unfold cc kQ i7 vP mP qg fD;decide
theorem Pv:cc rV:=by
 unfold cc kQ i7 vP mP qg fD;decide
theorem Pw:cc Gf:=⟨fun _ h=>(by cases h),fun _ h=>(by cases h)⟩
theorem Wc:fJ l5=0:=by
 have h5:iq rA=true:=rF (Ov _ rfl)
 have h6:∀k,k<rA.Blocks.length->lS (fun v=>¬ Lt.Bare rA v k\/v∈Lt.phB rA k) (Lt.bkB rA k):=fun k hk=>by
  obtain rfl:k=0:=by
   have hk:k < 1:=hk
   omega
  refine⟨fun j hj v hu=>?_,fun _ _=>.inr (WU.2 rfl)⟩;obtain rfl:j=0:=by
   have hj:j < 1:=hj
   omega
  rcases hu with⟨a,ha,hk,_⟩|⟨a,ha,_⟩|⟨a,ha,_⟩
  ·obtain rfl:=WU.1 ha;exact absurd hk (by decide)
  ·cases ha
  ·cases ha
 have h8:oF rA:=fun b hb x hx=>by
  obtain rfl:=WU.1 hb;cases hx
 have h7:ln rA=true:=rF ⟨h6,h8⟩
 unfold fJ;rw[show iE l5=true from by kernel_rfl,show il l5=true from by kernel_rfl];simp only[Bool.true_eq_false,or_self,if_false];show Lt.vF l5 [rA]=0
 unfold Lt.vF;rw[h5,h7,show ka rA=true from by kernel_rfl,show qJ l5 rA=true from by kernel_rfl,show DU l5 rA=true from by kernel_rfl,show wu l5 rA=true from by kernel_rfl];rfl
theorem Wd:fJ rV=4:=by
 have h5:iq Oj=true:=rF (Ov _ rfl)
 unfold fJ;rw[show iE rV=true from by kernel_rfl,show il rV=true from by kernel_rfl];simp only[Bool.true_eq_false,or_self,if_false];show Lt.vF rV [Oj]=4
 unfold Lt.vF;rw[h5,show ka Oj=true from by kernel_rfl,show wu rV Oj=false from by kernel_rfl,if_neg (by simp),if_pos (.inr (.inr (.inl rfl)))]
theorem We:fJ Gf=3:=by
 unfold fJ;rw[if_pos (.inr rfl)]
abbrev D1:List (Fl [.s]×Fl [.st .Program,.i .i64,.i .i64]):=[(VU,(l5,0,0)),(VV,(rV,0,0))]
theorem KF:Cont prog 10 (cY [.s] [.st .Program,.i .i64,.i .i64] (fun x=>∃y,(x,y)∈D1) (qd D1 (l5,0,0))):=
 AB (n:=128) eU eS lParse 4 f10 (ps:=[.s]) (rs:=[.st .Program,.i .i64,.i .i64]) D1 func10 Z0 Z0 Z0 Z0 Z0 Z0 Z0 Z0 Z0 Z0 Z0 Z0 (l5,0,0) (fun x hx=>by
  rcases WR.1 hx with rfl|hx
  ·exact ta0
  obtain rfl:=WU.1 hx;exact ta1)
theorem Qa{x:Fl [.s]}(h:decide (x∈D1.map (·.1))=true):∃y,(x,y)∈D1:=by
 obtain⟨z,hz,rfl⟩:=Xa.1 (of_decide_eq_true h);exact⟨z.2,hz⟩
noncomputable def x10:Cl 10:=⟨fnB [.s] [.st .Program,.i .i64,.i .i64] (fun x=>decide (x∈D1.map (·.1))) (qd D1 (l5,0,0)),_,uS (pre:=fun x=>∃y,(x,y)∈D1) (fun x h=>Qa h),KF⟩
abbrev Qb:List (Fl [.st .Program]×Fl [.i .i64]):=[(l5,(0:Int)),(rV,(4:Int)),(Gf,(3:Int))]
theorem Vw:Cont prog 7 (cY [.st .Program] [.i .i64] (fun x=>cc x) (fun x=>fJ x)):=uD.ok
theorem Q5:Cont prog 7 (cY [.st .Program] [.i .i64] (fun x=>x=l5\/x=rV\/x=Gf) (qd Qb (0:Int))):=
 JG (fun x hx=>by
  rcases hx with rfl|rfl|rfl
  ·exact⟨Pu,(show qd Qb (0:Int) l5=0 by kernel_rfl).trans Wc.symm⟩
  ·exact⟨Pv,(show qd Qb (0:Int) rV=4 by kernel_rfl).trans Wd.symm⟩
  ·exact⟨Pw,(show qd Qb (0:Int) Gf=3 by kernel_rfl).trans We.symm⟩) Vw
noncomputable def xV:Cl 7:=⟨fnB [.st .Program] [.i .i64] (fun x=>decide (x=l5\/x=rV\/x=Gf)) (qd Qb (0:Int)),_,uS (pre:=fun x=>x=l5\/x=rV\/x=Gf) (fun x h=>of_decide_eq_true h),Q5⟩
noncomputable abbrev lAw:ClS:=[⟨_,x10⟩,⟨_,xV⟩]
theorem Wf:BA 80 (clE eU eP lAw) f5 [] [.bo] () (fun z=>decide (z=true))=true:=Z0
theorem QR:Cont prog 5 (gY [] [.bo] (fun _=>true)):=Mz eU eP lAw 80 f5 [.bo] true func5 Z0 Wf
end Go.Am
end

section
namespace Go.Am
open Go
def MV(a0_out:List UInt8)(a1_l:List (List UInt8))(KK:(List UInt8)->Prop):Prop:=
 ac (α:=List UInt8×Int) (fun R1 v2=>(a1_l.length<=4611686018427387904->if(decide (v2.2 < (a1_l.length:Int)))=true then(aa (α:=List UInt8) (fun J3=>if(decide (0<v2.2))=true then((v2.1.length+([(32:UInt8)]:List UInt8).length<=4611686018427387904/\(v2.1.length+([(32:UInt8)]:List UInt8).length)*1<=140737488355328)/\J3 (v2.1++([(32:UInt8)]:List UInt8)))else(J3 v2.1)) (fun v4=>((0:Int)<=v2.2/\v2.2.toNat<a1_l.length)/\(v4.length+(a1_l.getD v2.2.toNat default).length<=4611686018427387904/\(v4.length+(a1_l.getD v2.2.toNat default).length)*1<=140737488355328)/\R1 ((v4++(a1_l.getD v2.2.toNat default)),(i64.wrap (v2.2+1)))))else((v2.1.length+([(10:UInt8)]:List UInt8).length<=4611686018427387904/\(v2.1.length+([(10:UInt8)]:List UInt8).length)*1<=140737488355328)/\KK (v2.1++([(10:UInt8)]:List UInt8))))) (a0_out,0)
def Ig(a0_out:List UInt8)(a1_first:List UInt8)(a2_l:List Lt.Var)(KK:(List UInt8)->Prop):Prop:=
 ac (α:=List UInt8×Int) (fun R1 v2=>(a2_l.length<=4611686018427387904->if(decide (v2.2 < (a2_l.length:Int)))=true then(((0:Int)<=v2.2/\v2.2.toNat<a2_l.length)/\((0:Int)<=v2.2/\v2.2.toNat<a2_l.length)/\(bu v2.1 [a1_first,(a2_l.getD v2.2.toNat default).Name,(a2_l.getD v2.2.toNat default).Type_])/\R1 ((fL v2.1 [a1_first,(a2_l.getD v2.2.toNat default).Name,(a2_l.getD v2.2.toNat default).Type_]),(i64.wrap (v2.2+1))))else(KK v2.1))) (a0_out,0)
def If(a0_n:Int)(KK:Int->Prop):Prop:=
 if(decide (a0_n < 0))=true then(KK (IntKind.u64.wrap (0 - (IntKind.u64.wrap a0_n))))else(KK (IntKind.u64.wrap a0_n))
def MT(a0_n:Int)(KK:(List UInt8)->Prop):Prop:=
 aa (α:=List UInt8) (fun J1=>ac (α:=List UInt8×Int) (fun R3 v4=>(10:Int)≠0/\(([(UInt8.ofNat (IntKind.u8.wrap (IntKind.u64.wrap (48+(Int.tmod v4.2 10)))).toNat)]:List UInt8).length+v4.1.length<=4611686018427387904/\(([(UInt8.ofNat (IntKind.u8.wrap (IntKind.u64.wrap (48+(Int.tmod v4.2 10)))).toNat)]:List UInt8).length+v4.1.length)*1<=140737488355328)/\(10:Int)≠0/\if(decide ((IntKind.u64.wrap (Int.tdiv v4.2 10))=0))=true then(J1 (([(UInt8.ofNat (IntKind.u8.wrap (IntKind.u64.wrap (48+(Int.tmod v4.2 10)))).toNat)]:List UInt8)++v4.1))else(R3 ((([(UInt8.ofNat (IntKind.u8.wrap (IntKind.u64.wrap (48+(Int.tmod v4.2 10)))).toNat)]:List UInt8)++v4.1),(IntKind.u64.wrap (Int.tdiv v4.2 10))))) ([],(Dq a0_n))) (fun v2=>if(decide (a0_n < 0))=true then([45].length+v2.length<=4611686018427387904/\KK ([45]++v2))else(KK v2))
def Ie(a0_s:List UInt8)(KK:Bool->Prop):Prop:=
 ac (α:=Int) (fun R1 v2=>have z1:=(((a0_s.getD v2.toNat 0).toNat:Nat):Int);have z3:=(decide (z1 < (((97:UInt8).toNat:Nat):Int)));have z2:=(decide ((((122:UInt8).toNat:Nat):Int)<z1));(a0_s.length<=4611686018427387904->if(decide (v2 < (a0_s.length:Int)))=true then(((0:Int)<=v2/\v2.toNat<a0_s.length)/\aa (α:=Bool) (fun J3=>if(decide ((((48:UInt8).toNat:Nat):Int)<=z1))=true then(J3 (decide (z1<=(((57:UInt8).toNat:Nat):Int))))else(J3 false)) (fun v4=>aa (α:=Bool) (fun J5=>if v4=true then(if(!(decide (0<v2)))=true then(if(!decide (z1=(((95:UInt8).toNat:Nat):Int)))=true then(if(decide (z1 < (((65:UInt8).toNat:Nat):Int)))=true then(if z3=true then(J5 true)else(J5 z2))else(if(decide ((((90:UInt8).toNat:Nat):Int)<z1))=true then(if z3=true then(J5 true)else(J5 z2))else(J5 false)))else(J5 false))else(J5 false))else(if(!decide (z1=(((95:UInt8).toNat:Nat):Int)))=true then(if(decide (z1 < (((65:UInt8).toNat:Nat):Int)))=true then(if z3=true then(J5 true)else(J5 z2))else(if(decide ((((90:UInt8).toNat:Nat):Int)<z1))=true then(if z3=true then(J5 true)else(J5 z2))else(J5 false)))else(J5 false))) (fun v6=>if v6=true then(KK false)else(R1 (i64.wrap (v2+1))))))else(aa (α:=Bool) (fun J7=>(a0_s.length<=4611686018427387904->if(decide (1<=(a0_s.length:Int)))=true then(if(decide ((a0_s.length:Int)<=16))=true then(if(!decide (a0_s=[110,117,108,108]))=true then(if(!decide (a0_s=[105,110,116]))=true then(J7 (!decide (a0_s=[102,108,111,97,116])))else(J7 false))else(J7 false))else(J7 false))else(J7 false))) (fun v8=>KK v8)))) 0
def AP(a0_n:Int)(KK:Bool->Prop):Prop:=
 (9223372036854775808:Int)≠0/\KK (decide (9218868437227405312 < (Int.tmod (IntKind.u64.wrap a0_n) 9223372036854775808)))
def AS(a0_n:Int)(KK:Int->Prop):Prop:=
 if(Gn a0_n)=true then(KK 9221120237041090560)else(KK a0_n)
def AT(a0_a:Lt.Arg)(KK:Bool->Prop):Prop:=
 have z2:=decide (a0_a.Kind=4);have z1:=decide (a0_a.Kind=5);if(decide (a0_a.Kind=1))=true then(if(yp a0_a.S)=true then(KK (decide (a0_a.N=0)))else(KK false))else(aa (α:=Bool) (fun J1=>if(decide (a0_a.Kind < 1))=true then(J1 true)else(if(decide (5<a0_a.Kind))=true then(J1 true)else(J1 (!decide (a0_a.S=([]:List UInt8)))))) (fun v2=>if v2=true then(KK false)else(aa (α:=Bool) (fun J3=>if(decide (a0_a.Kind=2))=true then((J3 true)/\(J3 true))else(if(decide (a0_a.Kind=3))=true then((if(decide ((o9 a0_a.N)=a0_a.N))=true then(J3 true)else(if z2=true then(if(decide (a0_a.N=0))=true then(J3 true)else(if z1=true then(if(decide (0<=a0_a.N))=true then(J3 (decide (a0_a.N<=999)))else(J3 false))else(J3 false)))else(if z1=true then(if(decide (0<=a0_a.N))=true then(J3 (decide (a0_a.N<=999)))else(J3 false))else(J3 false))))/\(if(decide ((o9 a0_a.N)=a0_a.N))=true then(J3 true)else(if z2=true then(if(decide (a0_a.N=0))=true then(J3 true)else(if z1=true then(if(decide (0<=a0_a.N))=true then(J3 (decide (a0_a.N<=999)))else(J3 false))else(J3 false)))else(if z1=true then(if(decide (0<=a0_a.N))=true then(J3 (decide (a0_a.N<=999)))else(J3 false))else(J3 false)))))else((if z2=true then(if(decide (a0_a.N=0))=true then(J3 true)else(if z1=true then(if(decide (0<=a0_a.N))=true then(J3 (decide (a0_a.N<=999)))else(J3 false))else(J3 false)))else(if z1=true then(if(decide (0<=a0_a.N))=true then(J3 (decide (a0_a.N<=999)))else(J3 false))else(J3 false)))/\(if z2=true then(if(decide (a0_a.N=0))=true then(J3 true)else(if z1=true then(if(decide (0<=a0_a.N))=true then(J3 (decide (a0_a.N<=999)))else(J3 false))else(J3 false)))else(if z1=true then(if(decide (0<=a0_a.N))=true then(J3 (decide (a0_a.N<=999)))else(J3 false))else(J3 false)))))) (fun v4=>KK v4))))
def MS(a0_n:Int)(KK:(List UInt8)->Prop):Prop:=
 ac (α:=Int×List UInt8×Int) (fun R1 v2=>if(decide (v2.2.2 < 16))=true then((16:Int)≠0/\aa (α:=UInt8) (fun J3=>if(decide ((((UInt8.ofNat (IntKind.u8.wrap (Int.tmod v2.1 16)).toNat).toNat:Nat):Int) < (((10:UInt8).toNat:Nat):Int)))=true then(J3 (UInt8.ofNat (IntKind.u8.wrap ((((UInt8.ofNat (IntKind.u8.wrap (Int.tmod v2.1 16)).toNat).toNat:Nat):Int)+(((48:UInt8).toNat:Nat):Int))).toNat))else(J3 (UInt8.ofNat (IntKind.u8.wrap ((((UInt8.ofNat (IntKind.u8.wrap (Int.tmod v2.1 16)).toNat).toNat:Nat):Int)+(((87:UInt8).toNat:Nat):Int))).toNat))) (fun v4=>(([v4]:List UInt8).length+v2.2.1.length<=4611686018427387904/\(([v4]:List UInt8).length+v2.2.1.length)*1<=140737488355328)/\(16:Int)≠0/\R1 ((IntKind.u64.wrap (Int.tdiv v2.1 16)),(([v4]:List UInt8)++v2.2.1),(i64.wrap (v2.2.2+1)))))else([48,102].length+v2.2.1.length<=4611686018427387904/\KK ([48,102]++v2.2.1))) ((IntKind.u64.wrap (o9 a0_n)),[],0)
def Ih(a0_a:Lt.Arg)(KK:(List UInt8)->Prop):Prop:=
 if(!(Aa a0_a))=true then(KK ([]:List UInt8))else(if(decide (a0_a.Kind=1))=true then(KK a0_a.S)else(if(decide (a0_a.Kind=2))=true then((fZ a0_a.N)/\KK (ip a0_a.N))else(if(decide (a0_a.Kind=3))=true then(KK (LX a0_a.N))else(if(decide (a0_a.Kind=4))=true then(KK [110,117,108,108])else((fZ a0_a.N)/\[35].length+(ip a0_a.N).length<=4611686018427387904/\KK ([35]++(ip a0_a.N)))))))
def MU(a0_op:Int)(KK:(Lt.RForm×Bool)->Prop):Prop:=
 have z1:=gw.getD a0_op.toNat default;have z4:=Lt.RForm.mk z1 false (decide (a0_op<=32)) 0 0;have z3:=Lt.RForm.mk z1 (!decide (a0_op=34)) true 0 0;have z2:=Lt.RForm.mk z1 false true 0 0;aa (α:=Bool) (fun J1=>if(decide (a0_op < 1))=true then(J1 true)else(J1 (decide (34<a0_op)))) (fun v2=>if v2=true then(KK ((Lt.RForm.mk ([]:List UInt8) false false 0 0),false))else(aa (α:=Lt.RForm) (fun J3=>((0:Int)<=a0_op/\a0_op < ((35:Nat):Int))/\a0_op.toNat<gw.length/\if(!decide (a0_op=27))=true then(if(!decide (a0_op=30))=true then(if(!decide (a0_op=33))=true then(if(decide (a0_op=25))=true then(J3 z3)else(if(decide (a0_op=26))=true then(J3 z3)else(if(decide (a0_op=27))=true then(J3 z3)else(if(decide (29<=a0_op))=true then(J3 (Lt.RForm.mk z1 (!decide (a0_op=34)) (decide (a0_op<=32)) 0 0))else(J3 (Lt.RForm.mk z1 (!decide (a0_op=34)) false 0 0))))))else(if(decide (a0_op=25))=true then(J3 z2)else(if(decide (a0_op=26))=true then(J3 z2)else(if(decide (a0_op=27))=true then(J3 z2)else(if(decide (29<=a0_op))=true then(J3 z4)else(J3 (Lt.RForm.mk z1 false false 0 0)))))))else(if(decide (a0_op=25))=true then(J3 z2)else(if(decide (a0_op=26))=true then(J3 z2)else(if(decide (a0_op=27))=true then(J3 z2)else(if(decide (29<=a0_op))=true then(J3 z4)else(J3 (Lt.RForm.mk z1 false false 0 0)))))))else(if(decide (a0_op=25))=true then(J3 z2)else(if(decide (a0_op=26))=true then(J3 z2)else(if(decide (a0_op=27))=true then(J3 z2)else(if(decide (29<=a0_op))=true then(J3 z4)else(J3 (Lt.RForm.mk z1 false false 0 0))))))) (fun v4=>aa (α:=Lt.RForm) (fun J5=>aa (α:=Bool) (fun J7=>if(decide (a0_op=22))=true then(J7 (decide (a0_op=22)))else(if(decide (a0_op=23))=true then(J7 (decide (a0_op=23)))else(if(decide (a0_op=24))=true then(J7 (decide (a0_op=24)))else(if(decide (a0_op=26))=true then(J7 (decide (a0_op=26)))else(if(decide (a0_op=30))=true then(J7 (decide (a0_op=30)))else(J7 (decide (a0_op=33)))))))) (fun v8=>if v8=true then(J5 (Lt.RForm.mk v4.Word v4.Dst v4.Named 1 1))else(aa (α:=Bool) (fun J9=>if(decide (a0_op=25))=true then(J9 (decide (a0_op=25)))else(if(decide (a0_op=31))=true then(J9 (decide (a0_op=31)))else(J9 (decide (a0_op=32))))) (fun v10=>if v10=true then(J5 (Lt.RForm.mk v4.Word v4.Dst v4.Named v4.Least 8))else(aa (α:=Bool) (fun J11=>if(decide (a0_op=29))=true then(J11 (decide (a0_op=29)))else(J11 (decide (a0_op=34)))) (fun v12=>if v12=true then(J5 (Lt.RForm.mk v4.Word v4.Dst v4.Named v4.Least 0))else(J5 (Lt.RForm.mk v4.Word v4.Dst v4.Named 2 2)))))))) (fun v6=>KK (v6,true)))))
def Ia(a0_l:List (List UInt8))(a1_a:List Lt.Arg)(KK:(List (List UInt8))->Prop):Prop:=
 ac (α:=List (List UInt8)×Int) (fun R1 v2=>(a1_a.length<=4611686018427387904->if(decide (v2.2 < (a1_a.length:Int)))=true then(((0:Int)<=v2.2/\v2.2.toNat<a1_a.length)/\(j6 (a1_a.getD v2.2.toNat default))/\(v2.1.length+([(bK (a1_a.getD v2.2.toNat default))]:List (List UInt8)).length<=4611686018427387904/\(v2.1.length+([(bK (a1_a.getD v2.2.toNat default))]:List (List UInt8)).length)*16<=140737488355328)/\R1 ((v2.1++([(bK (a1_a.getD v2.2.toNat default))]:List (List UInt8))),(i64.wrap (v2.2+1))))else(KK v2.1))) (a0_l,0)
def Ib(a0_out:List UInt8)(a1_x:Lt.Instr)(KK:(List UInt8)->Prop):Prop:=
 have z6:=([a1_x.Name]:List (List UInt8));have z4:=([((Lt.rOf a1_x.Op).1).Word]:List (List UInt8));aa (α:=List (List UInt8)) (fun J1=>if(((Lt.rOf a1_x.Op).1).Dst)=true then((([]:List (List UInt8)).length+([a1_x.Dst,[61]]:List (List UInt8)).length<=4611686018427387904/\(([]:List (List UInt8)).length+([a1_x.Dst,[61]]:List (List UInt8)).length)*16<=140737488355328)/\J1 [a1_x.Dst,[61]])else(J1 [])) (fun v2=>have z9:=sO (v2++z4) ((a1_x.Args.drop 0).take (1 - 0));(v2.length+z4.length<=4611686018427387904/\(v2.length+z4.length)*16<=140737488355328)/\aa (α:=List (List UInt8)) (fun J3=>aa (α:=Bool) (fun J5=>if(decide (a1_x.Op=26))=true then(J5 (decide (0 < (a1_x.Args.length:Int))))else(if(decide (a1_x.Op=27))=true then(J5 (decide (0 < (a1_x.Args.length:Int))))else(J5 false))) (fun v6=>if v6=true then((0:Int)<=1/\(0<=1/\1<=a1_x.Args.length)/\(mO (v2++z4) ((a1_x.Args.drop 0).take (1 - 0)))/\(z9.length+z6.length<=4611686018427387904/\(z9.length+z6.length)*16<=140737488355328)/\(0:Int)<=1/\(1<=a1_x.Args.length/\a1_x.Args.length<=a1_x.Args.length)/\(mO (z9++z6) ((a1_x.Args.drop 1).take (a1_x.Args.length - 1)))/\J3 (sO (z9++z6) ((a1_x.Args.drop 1).take (a1_x.Args.length - 1))))else(aa (α:=List (List UInt8)) (fun J7=>if(((Lt.rOf a1_x.Op).1).Named)=true then(((v2++z4).length+z6.length<=4611686018427387904/\((v2++z4).length+z6.length)*16<=140737488355328)/\J7 ((v2++z4)++z6))else(J7 (v2++z4))) (fun v8=>(mO v8 a1_x.Args)/\J3 (sO v8 a1_x.Args))))) (fun v4=>(bu a0_out v4)/\ac (α:=List UInt8×Int) (fun R9 v10=>have z2:=((0:Int)<=v10.2/\v10.2.toNat<a1_x.Frames.length);have z1:=a1_x.Frames.getD v10.2.toNat default;(a1_x.Frames.length<=4611686018427387904->if(decide (v10.2 < (a1_x.Frames.length:Int)))=true then(aa (α:=List (List UInt8)) (fun J11=>have z7:=z2/\(z2/\(fZ (z1.At))/\J11 [[97,116],z1.Func,z1.Block,(ip (z1.At))])/\((fZ (z1.At))/\z2/\J11 [[97,116],z1.Func,z1.Block,(ip (z1.At))]);z2/\z7/\z7/\((fZ (z1.At))/\z2/\z2/\J11 [[97,116],z1.Func,z1.Block,(ip (z1.At))])) (fun v12=>ac (α:=List (List UInt8)×Int) (fun R13 v14=>have z11:=((0:Int)<=v14.2/\v14.2.toNat < (z1.Vars).length);have z10:=(z1.Vars).getD v14.2.toNat default;have z3:=([z10.Name,(bK (z10.A))]:List (List UInt8));have z12:=v14.1.length+z3.length<=4611686018427387904/\(v14.1.length+z3.length)*16<=140737488355328;z2/\((z1.Vars).length<=4611686018427387904->if(decide (v14.2 < ((z1.Vars).length:Int)))=true then(aa (α:=List (List UInt8)) (fun J15=>z2/\z11/\(z2/\z11/\(j6 (z10.A))/\z12/\J15 (v14.1++z3))/\((j6 (z10.A))/\z2/\z11/\z12/\J15 (v14.1++z3))) (fun v16=>R13 (v16,(i64.wrap (v14.2+1)))))else((bu v10.1 v14.1)/\R9 ((fL v10.1 v14.1),(i64.wrap (v10.2+1)))))) (v12,0)))else(ac (α:=List UInt8×Int) (fun R17 v18=>have z8:=a1_x.Objs.getD v18.2.toNat default;(a1_x.Objs.length<=4611686018427387904->if(decide (v18.2 < (a1_x.Objs.length:Int)))=true then(aa (α:=List UInt8) (fun J19=>have z5:=(((0:Int)<=v18.2/\v18.2.toNat<a1_x.Objs.length)/\(mO [[111,98,106],z8.Class] (z8.Vals))/\(bu v18.1 (sO [[111,98,106],z8.Class] (z8.Vals)))/\J19 (fL v18.1 (sO [[111,98,106],z8.Class] (z8.Vals))));((0:Int)<=v18.2/\v18.2.toNat<a1_x.Objs.length)/\z5/\z5) (fun v20=>R17 (v20,(i64.wrap (v18.2+1)))))else(KK v18.1))) (v10.1,0)))) ((fL a0_out v4),0)))
def Ic(a0_out:List UInt8)(a1_t:Lt.Term)(KK:(List UInt8)->Prop):Prop:=
 have z2:=([(ip a1_t.N)]:List (List UInt8));have z1:=([([]:List UInt8),[106,117,109,112],[98,114,97,110,99,104],[114,101,116],[116,114,97,112]].getD a1_t.Kind.toNat default);aa (α:=Bool) (fun J1=>if(decide (a1_t.Kind < 1))=true then(J1 true)else(J1 (decide (4<a1_t.Kind)))) (fun v2=>if v2=true then(KK a0_out)else(((0:Int)<=a1_t.Kind/\a1_t.Kind < (([([]:List UInt8),[106,117,109,112],[98,114,97,110,99,104],[114,101,116],[116,114,97,112]].length:Nat):Int))/\aa (α:=List (List UInt8)) (fun J3=>aa (α:=Bool) (fun J5=>if(decide (a1_t.Kind=2))=true then(J5 true)else(J5 (decide (a1_t.Kind=3)))) (fun v6=>if v6=true then((j6 a1_t.A)/\(([z1]:List (List UInt8)).length+([(bK a1_t.A)]:List (List UInt8)).length<=4611686018427387904/\(([z1]:List (List UInt8)).length+([(bK a1_t.A)]:List (List UInt8)).length)*16<=140737488355328)/\J3 [z1,(bK a1_t.A)])else(J3 [z1]))) (fun v4=>(v4.length+a1_t.To.length<=4611686018427387904/\(v4.length+a1_t.To.length)*16<=140737488355328)/\aa (α:=List (List UInt8)) (fun J7=>if(decide (a1_t.Kind=4))=true then((fZ a1_t.N)/\((v4++a1_t.To).length+z2.length<=4611686018427387904/\((v4++a1_t.To).length+z2.length)*16<=140737488355328)/\J7 ((v4++a1_t.To)++z2))else(J7 (v4++a1_t.To))) (fun v8=>(bu a0_out v8)/\KK (fL a0_out v8)))))
def AQ(a0_p:Lt.Program)(KK:(List UInt8)->Prop):Prop:=
 aa (α:=List UInt8) (fun J1=>if a0_p.SSA=true then((bu [] [[115,115,97]])/\J1 (fL [] [[115,115,97]]))else(J1 [])) (fun v2=>ac (α:=List UInt8×Int) (fun R3 v4=>have z15:=((0:Int)<=v4.2/\v4.2.toNat<a0_p.Classes.length);have z7:=a0_p.Classes.getD v4.2.toNat default;have z13:=fL v4.1 [[99,108,97,115,115],z7.Name];(a0_p.Classes.length<=4611686018427387904->if(decide (v4.2 < (a0_p.Classes.length:Int)))=true then(aa (α:=List UInt8) (fun J5=>have z6:=(z15/\(bu v4.1 [[99,108,97,115,115],z7.Name])/\(cw z13 [102,105,101,108,100] (z7.Fields))/\J5 (mU z13 [102,105,101,108,100] (z7.Fields)));z15/\(((bu v4.1 [[99,108,97,115,115],z7.Name])/\z15/\(cw z13 [102,105,101,108,100] (z7.Fields))/\J5 (mU z13 [102,105,101,108,100] (z7.Fields)))/\z6)/\z6) (fun v6=>R3 (v6,(i64.wrap (v4.2+1)))))else((cw v4.1 [103,108,111,98,97,108] a0_p.Globals)/\ac (α:=List UInt8×Int) (fun R7 v8=>have z16:=((0:Int)<=v8.2/\v8.2.toNat<a0_p.Externs.length);have z8:=a0_p.Externs.getD v8.2.toNat default;have z21:=fL v8.1 [[101,120,116,101,114,110],z8.Name,(ip (z8.N))];have z20:=bu v8.1 [[101,120,116,101,114,110],z8.Name,(ip (z8.N))];(a0_p.Externs.length<=4611686018427387904->if(decide (v8.2 < (a0_p.Externs.length:Int)))=true then(aa (α:=List UInt8) (fun J9=>z16/\(z16/\(fZ (z8.N))/\z20/\J9 z21)/\((fZ (z8.N))/\z16/\z20/\J9 z21)) (fun v10=>R7 (v10,(i64.wrap (v8.2+1)))))else(ac (α:=List UInt8×Int) (fun R11 v12=>have z1:=a0_p.Funcs.getD v12.2.toNat default;have z14:=fL v12.1 [[102,117,110,99],z1.Name,z1.Result];have z12:=bu v12.1 [[102,117,110,99],z1.Name,z1.Result];have z10:=mU z14 [112,97,114,97,109] (z1.Params);(a0_p.Funcs.length<=4611686018427387904->if(decide (v12.2 < (a0_p.Funcs.length:Int)))=true then(((0:Int)<=v12.2/\v12.2.toNat<a0_p.Funcs.length)/\aa (α:=List UInt8) (fun J13=>have z3:=(cw z14 [112,97,114,97,109] (z1.Params))/\(cw z10 [118,97,114] (z1.Vars))/\J13 (mU z10 [118,97,114] (z1.Vars));have z2:=z12/\(cw z14 [112,97,114,97,109] (z1.Params))/\(cw z10 [118,97,114] (z1.Vars))/\J13 (mU z10 [118,97,114] (z1.Vars));((z12/\z3/\z3)/\((z12/\z3/\z3)/\z2)/\(z2/\z2))/\(((z12/\z3/\z3)/\z2)/\z2)/\((z2/\z2)/\z2)) (fun v14=>ac (α:=List UInt8×Int) (fun R15 v16=>have z4:=(z1.Blocks).getD v16.2.toNat default;have z22:=Lt.Term.mk ((z4.End).Kind) ((z4.End).A) ((z4.End).To) ((z4.End).N);((z1.Blocks).length<=4611686018427387904->if(decide (v16.2 < ((z1.Blocks).length:Int)))=true then(((0:Int)<=v16.2/\v16.2.toNat < (z1.Blocks).length)/\(bu v16.1 [[98,108,111,99,107],z4.Name])/\ac (α:=List UInt8×Int) (fun R17 v18=>have z11:=((0:Int)<=v18.2/\v18.2.toNat < (z4.Phis).length);have z9:=((z4.Phis).getD v18.2.toNat default).Ins;((z4.Phis).length<=4611686018427387904->if(decide (v18.2 < ((z4.Phis).length:Int)))=true then(z11/\ac (α:=List (List UInt8)×Int) (fun R19 v20=>have z19:=z9.getD v20.2.toNat default;have z18:=((0:Int)<=v20.2/\v20.2.toNat<z9.length);have z5:=([z19.Block,(bK (z19.A))]:List (List UInt8));have z17:=v20.1.length+z5.length<=4611686018427387904/\(v20.1.length+z5.length)*16<=140737488355328;z11/\(z9.length<=4611686018427387904->if(decide (v20.2 < (z9.length:Int)))=true then(aa (α:=List (List UInt8)) (fun J21=>z11/\z18/\(z11/\z18/\(j6 (z19.A))/\z17/\J21 (v20.1++z5))/\((j6 (z19.A))/\z11/\z18/\z17/\J21 (v20.1++z5))) (fun v22=>R19 (v22,(i64.wrap (v20.2+1)))))else((bu v18.1 v20.1)/\R17 ((fL v18.1 v20.1),(i64.wrap (v18.2+1)))))) ([[112,104,105],((z4.Phis).getD v18.2.toNat default).Dst],0))else(ac (α:=List UInt8×Int) (fun R23 v24=>((z4.Code).length<=4611686018427387904->if(decide (v24.2 < ((z4.Code).length:Int)))=true then(((0:Int)<=v24.2/\v24.2.toNat < (z4.Code).length)/\(Dl v24.1 ((z4.Code).getD v24.2.toNat default))/\R23 ((PB v24.1 ((z4.Code).getD v24.2.toNat default)),(i64.wrap (v24.2+1))))else((vO v24.1 z22)/\R15 ((PC v24.1 z22),(i64.wrap (v16.2+1)))))) (v18.1,0)))) ((fL v16.1 [[98,108,111,99,107],z4.Name]),0))else(R11 (v16.1,(i64.wrap (v12.2+1)))))) (v14,0)))else(KK v12.1))) (v8.1,0)))) ((mU v4.1 [103,108,111,98,97,108] a0_p.Globals),0)))) (v2,0))
theorem oP{n:Nat}(h:n < 10):Lt.digs n=[UInt8.ofNat (48+n)]:=by
 rw[Lt.digs,if_pos h]
theorem BR{n:Nat}(h:¬ n < 10):Lt.digs n=Lt.digs (n / 10)++[UInt8.ofNat (48+n % 10)]:=by
 rw[Lt.digs,if_neg h]
theorem uL:∀(k n:Nat),n < 10 ^ (k+1)->(Lt.digs n).length<=k+1
 |0,n,h=>by rw[oP Z1];simp
 |k+1,n,h=>by
  by_cases h10:n < 10
  ·rw[oP h10];simp
  ·rw[BR h10];have:=uL k (n / 10) (by rw[Nat.pow_succ]at h;omega)
   simp only[WM,WL,WQ];omega
theorem vw{n:Int}(h:Lt.inR n):(zP n).length<=20:=by
 unfold Lt.inR at h;have:=uL 18 n.natAbs Z1
 unfold zP;simp only[WM];split<;>simp<;>omega
theorem sV{n:Nat}(h:n < 18446744073709551616):IntKind.u64.wrap (n:Int)=(n:Int):=by
 simp only[IntKind.wrap,IntKind.signed,IntKind.bits];simp;omega
theorem IX{α:Type}(f g:α->List UInt8)(l:List α):(l.flatMap fun b=>[f b,g b]).length=2*l.length:=by
 induction l with
 |nil=>rfl
 |cons a l ih=>rw[Xe,WM,ih];simp;omega
theorem xT{α β:Type}[Inhabited α](f:α->List β)(l:List α){i:Nat}(h:i<l.length):(l.take (i+1)).flatMap f=(l.take i).flatMap f++f (l.getD i default):=by
 rw[bg l h,List.flatMap_append];simp
theorem dk{α β:Type}[Inhabited α](l:List α)(g:α->List β)(out:List β)(body:(List β×Int->Prop)->List β×Int->Prop)
  (hs:∀R i b,l.length<=LEN->i<l.length->b=out++(l.take i).flatMap g->R (b++g (l.getD i default),i64.wrap ((i:Int)+1))->body R (b,(i:Int)))
  (he:∀R,l.length<=LEN->body R (out++l.flatMap g,(l.length:Int))):ac (fun R v=>l.length<=4611686018427387904->body R v) (out,0):=by
 by_cases hl:l.length<=LEN
 ·refine Oz l.length hl (fun i=>out++(l.take i).flatMap g) _ (fun R i hi ih _=>?_) (fun R _=>?_) (by simp)
  ·refine hs R i _ hl hi rfl ?_;rw[xT g l hi,<- Xm]at ih;exact ih
  ·have:=he R hl
   rw[Xz];exact this
 ·exact⟨1,fun h=>absurd h hl⟩
theorem gj{α β:Type}[Inhabited α](g:α->List β)(l:List α){i:Nat}(h:i<l.length):((l.take i).flatMap g).length+(g (l.getD i default)).length<=(l.flatMap g).length:=by
 have e:l.flatMap g=(l.take (i+1)).flatMap g++(l.drop (i+1)).flatMap g:=by rw[<- List.flatMap_append,XX]
 rw[e,xT g l h];simp only[WM];omega
theorem TA:∀(ws:List (List UInt8)),ws.length<=(Lt.jw true ws).length
 |[]=>by simp
 |w::r=>by
  have:=TA r
  rw[Lt.jw];simp only[WM,WL,WQ,if_true];omega
theorem vg(ws:List (List UInt8)):ws.length<=(Lt.lnT ws).length:=by
 unfold Lt.lnT;cases ws with
 |nil=>simp
 |cons w r=>
  have:=TA r
  rw[Lt.jw];simp only[WM,WL,WQ];omega
theorem OM(out:List UInt8)(l:List (List UInt8))(hp:bu out l)(KK:List UInt8->Prop)(h:KK (fL out l)):MV out l KK:=by
 unfold MV;(try simp only[ay,aJ,aK,jval,bor,band,bnand,bimp,and_self]);unfold bu Lt.room at hp;by_cases hl:l.length<=LEN
 rotate_left
 ·exact⟨1,fun h=>absurd h hl⟩
 have hlen:(fL out l).length<=1099511627776:=by simpa[fL]using hp
 refine az _ l.length (fun i x=>∃b,x=(b,(i:Int))/\b++Lt.jw (decide (0<i)) (l.drop i)++[10]=fL out l) (fun R i x hi hP hR=>?_) (fun R x hP=>?_) _ ⟨out,rfl,by simp[fL,Lt.lnT]⟩
 ·obtain⟨b,rfl,e⟩:=hP;have ed:l.getD i default=l[i]:=by rw[List.getD,WH hi];rfl
  rw[XN hi,Lt.jw,<- ed]at e;have el:=congrArg List.length e
  simp only[WM,WL,WQ]at el;simp only[aH hi,if_true,Int.toNat_natCast]
  try dsimp +instances only [Int.toNat_natCast]
  intro _ J hJ;have hj:J (b++(if decide (0<i)=true then [32]else [])):=by
   refine hJ _ ⟨⟨WO i,hi⟩,?_,?_⟩
   ·simp only[WM];omega
   ·refine hR _ ⟨_,by rw[ao (by unfold LEN at hl;omega)],?_⟩;rw[<- e];have:decide (0<i+1)=true:=by simp
    rw[this];simp only[Xm]
  by_cases h0:0<i
  ·have h1:decide ((0:Int) < (i:Int))=true:=by simp;omega
   simp only[h0,decide_true,if_true,WL,WQ]at hj el;rw[if_pos h1];exact⟨by simp only[WL,WQ];omega,hj⟩
  ·have h1:decide ((0:Int) < (i:Int))=false:=by simp;omega
   simp only[h0,decide_false,WP,if_false,X4]at hj;rw[h1];simpa using hj
 ·obtain⟨b,rfl,e⟩:=hP;rw[XM,Lt.jw,X4]at e;have el:=congrArg List.length e
  simp only[WM,WL,WQ]at el;intro _;simp only[fK,WP,if_false];refine⟨by simp only[WL,WQ];omega,?_⟩;rw[e];exact h
theorem Lr(out first:List UInt8)(l:List Lt.Var)(hp:cw out first l)(KK:List UInt8->Prop)(h:KK (mU out first l)):Ig out first l KK:=by
 unfold Ig;(try simp only[ay,aJ,aK,jval,bor,band,bnand,bimp,and_self]);unfold cw gZ at hp;refine dk l (fun v=>Lt.lnT [first,v.Name,v.Type_]) out _ (fun R i b hl hi hb ih=>?_) (fun R hl=>?_)
 ·simp only[aH hi,if_true,Int.toNat_natCast]
  try dsimp +instances only [Int.toNat_natCast]
  have:=gj (fun v:Lt.Var=>Lt.lnT [first,v.Name,v.Type_]) l hi
  refine⟨⟨WO i,hi⟩,⟨WO i,hi⟩,?_,ih⟩;unfold bu;rw[hb,WM];omega
 ·simp only[fK,WP,if_false];exact h
theorem Lq(n:Int)(KK:Int->Prop)(h:KK (Dq n)):If n KK:=by
 unfold If;(try simp only[ay,aJ,aK,jval,bor,band,bnand,bimp,and_self]);refine kk h ?_;unfold Dq;grind
theorem PD{n:Int}(h:Lt.inR n):Dq n=(n.natAbs:Int):=by
 unfold Lt.inR at h;unfold Dq;simp only[IntKind.wrap,IntKind.signed,IntKind.bits];split<;>simp<;>omega
theorem OL(n:Int)(hp:fZ n)(KK:List UInt8->Prop)(h:KK (ip n)):MT n KK:=by
 unfold fZ at hp;unfold MT;(try simp only[ay,aJ,aK,jval,bor,band,bnand,bimp,and_self]);rw[PD hp];have hdl:=uL 18 n.natAbs (by unfold Lt.inR at hp;omega)
 unfold Lt.inR at hp;intro J hJ;have hj:J (Lt.digs n.natAbs):=by
  refine hJ _ ?_;unfold ip zP at h;refine ifk (fun hc=>⟨?_,kk h ?_⟩) (fun hc=>kk h ?_)
  ·simp only[WL,WQ];omega
  ·rw[if_pos (by simpa using hc)]
  ·rw[if_neg (by simpa using hc)];rfl
 have step:∀(m:Nat)(acc:List UInt8)(R:List UInt8×Int->Prop),m<=9223372036854775808->Lt.digs m++acc=Lt.digs n.natAbs->(¬ m < 10->R (UInt8.ofNat (48+m % 10)::acc,((m / 10:Nat):Int))) ->
   (10:Int)≠0/\(([UInt8.ofNat (IntKind.u8.wrap (IntKind.u64.wrap (48+Int.tmod (m:Int) 10))).toNat]:List UInt8).length+acc.length<=4611686018427387904/\(([UInt8.ofNat (IntKind.u8.wrap (IntKind.u64.wrap (48+Int.tmod (m:Int) 10))).toNat]:List UInt8).length+acc.length)*1<=140737488355328)/\(10:Int)≠0 /\
    if decide (IntKind.u64.wrap (Int.tdiv (m:Int) 10)=0)=true then J ([UInt8.ofNat (IntKind.u8.wrap (IntKind.u64.wrap (48+Int.tmod (m:Int) 10))).toNat]++acc)
    else R ([UInt8.ofNat (IntKind.u8.wrap (IntKind.u64.wrap (48+Int.tmod (m:Int) 10))).toNat]++acc,IntKind.u64.wrap (Int.tdiv (m:Int) 10)):=by
  intro m acc R hm e hR;have w:IntKind.u64.wrap (48+Int.tmod (m:Int) 10)=((48+m % 10:Nat):Int):=by
   rw[show(48+Int.tmod (m:Int) 10)=((48+m % 10:Nat):Int)from rfl];exact sV Z1
  have w2:UInt8.ofNat (IntKind.u8.wrap ((48+m % 10:Nat):Int)).toNat=UInt8.ofNat (48+m % 10):=by
   simp only[IntKind.wrap,IntKind.signed,IntKind.bits]
   congr 1
   simp;omega
  have w3:IntKind.u64.wrap (Int.tdiv (m:Int) 10)=((m / 10:Nat):Int):=by
   rw[show Int.tdiv (m:Int) 10=((m / 10:Nat):Int)from rfl];exact sV Z1
  have el:=congrArg List.length e
  rw[WM]at el;rw[w,w2,w3];refine⟨by decide,⟨by simp only[WL,WQ];omega,by simp only[WL,WQ];omega⟩,by decide,?_⟩;refine ifk (fun hc=>?_) (fun hc=>?_)
  ·have h10:m < 10:=by
    simp only[decide_eq_true_eq]at hc;omega
   rw[oP h10]at e;rw[Nat.mod_eq_of_lt h10];rw[e];exact hj
  ·exact hR (by simp only[decide_eq_true_eq]at hc;omega)
 refine az _ 20 (fun i x=>∃(m:Nat)(acc:List UInt8),x=(acc,(m:Int))/\m < 10 ^ (20-i)/\m<=9223372036854775808/\Lt.digs m++acc=Lt.digs n.natAbs) (fun R i x hi hP hR=>?_) (fun R x hP=>?_) _ ⟨n.natAbs,[],rfl,by omega,by omega,by simp⟩
 ·obtain⟨m,acc,rfl,hm,hm2,e⟩:=hP;refine step m acc R hm2 e (fun h10=>hR _ ⟨m / 10,_,rfl,?_,by omega,?_⟩)
  ·rw[show 20-i=(20 - (i+1))+1 by omega,Nat.pow_succ]at hm;omega
  ·rw[BR h10]at e;rw[<- e];simp
 ·obtain⟨m,acc,rfl,hm,hm2,e⟩:=hP;exact step m acc R hm2 e (fun h10=>absurd hm Z1)
theorem u8w(y:Int):(((UInt8.ofNat (IntKind.u8.wrap y).toNat).toNat:Nat):Int)=IntKind.u8.wrap y:=by
 simp only[IntKind.wrap,IntKind.signed,IntKind.bits,UInt8.toNat_ofNat'];simp;omega
theorem OK(n:Int)(KK:List UInt8->Prop)(h:KK (LX n)):MS n KK:=by
 unfold MS;(try simp only[ay,aJ,aK,jval,bor,band,bnand,bimp,and_self]);unfold LX at h;have hb:∀x:Int,(if decide ((((UInt8.ofNat (IntKind.u8.wrap (Int.tmod x 16)).toNat).toNat:Nat):Int) < (((10:UInt8).toNat:Nat):Int))=true then UInt8.ofNat (IntKind.u8.wrap ((((UInt8.ofNat (IntKind.u8.wrap (Int.tmod x 16)).toNat).toNat:Nat):Int)+(((48:UInt8).toNat:Nat):Int))).toNat
   else UInt8.ofNat (IntKind.u8.wrap ((((UInt8.ofNat (IntKind.u8.wrap (Int.tmod x 16)).toNat).toNat:Nat):Int)+(((87:UInt8).toNat:Nat):Int))).toNat)=Uy x:=by
  intro x;rw[u8w];have e10:(((10:UInt8).toNat:Nat):Int)=10:=rfl
  have e48:(((48:UInt8).toNat:Nat):Int)=48:=rfl
  have e87:(((87:UInt8).toNat:Nat):Int)=87:=rfl
  rw[e10,e48,e87];unfold Uy;by_cases hc:IntKind.u8.wrap (Int.tmod x 16) < 10
  ·rw[if_pos (by simpa using hc),if_pos hc]
  ·rw[if_neg (by simpa using hc),if_neg hc]
 refine az _ 16 (fun i x=>∃(y:Int)(acc:List UInt8),x=(y,acc,(i:Int))/\acc.length=i/\zo (16-i) y acc=zo 16 (IntKind.u64.wrap (o9 n)) []) (fun R i x hi hP hR=>?_) (fun R x hP=>?_) _ ⟨_,[],rfl,rfl,rfl⟩
 ·obtain⟨y,acc,rfl,hl,e⟩:=hP;have hd:decide ((i:Int) < 16)=true:=by simp;omega
  dsimp only;rw[hb,if_pos hd];refine⟨by decide,⟨by simp only[WL,WQ];omega,by simp only[WL,WQ];omega⟩,by decide,hR _ ⟨_,_,by rw[ao Z1],by simp[hl],?_⟩⟩;rw[show 16-i=(16 - (i+1))+1 by omega,zo]at e;exact e
 ·obtain⟨y,acc,rfl,hl,e⟩:=hP;have hd:decide (((16:Nat):Int) < 16)=false:=by decide
  dsimp only;rw[if_neg (by rw[hd];exact Bool.false_ne_true)];refine⟨by simp only[WL,WQ];omega,?_⟩;rw[show 16 - 16=0 from rfl,zo]at e;rw[e];exact h
theorem Fo(n:Int)(KK:Bool->Prop)(h:KK (Gn n)):AP n KK:=by
 unfold AP;(try simp only[ay,aJ,aK,jval,bor,band,bnand,bimp,and_self]);exact⟨by decide,h⟩
theorem Fv(n:Int)(KK:Int->Prop)(h:KK (o9 n)):AS n KK:=by
 unfold AS;(try simp only[ay,aJ,aK,jval,bor,band,bnand,bimp,and_self]);exact h
theorem Fw(a:Lt.Arg)(KK:Bool->Prop)(h:KK (Aa a)):AT a KK:=by
 unfold AT;dsimp only;(try simp only[ay,aJ,aK,jval,bor,band,bnand,bimp,and_self]);refine kk h ?_;unfold Aa;obtain⟨k,s,n⟩:=a;dsimp only;by_cases k1:k=1
 ·subst k1;simp
 by_cases k2:k=2
 ·subst k2;by_cases hs:s=[]<;>simp[hs]
 by_cases k3:k=3
 ·subst k3;by_cases hs:s=[]<;>simp[hs]
 by_cases k4:k=4
 ·subst k4;by_cases hs:s=[]<;>simp[hs]
 by_cases k5:k=5
 ·subst k5;by_cases hs:s=[]<;>simp[hs,Bool.and_assoc]
 have:k < 1\/5<k:=by omega
 have e:(decide (k < 1)||decide (5<k))=true:=by simpa using this
 grind
theorem Lp(s:List UInt8)(KK:Bool->Prop)(h:KK (yp s)):Ie s KK:=by
 unfold Ie;dsimp only;(try simp only[ay,aJ,aK,jval,bor,band,bnand,bimp,and_self]);by_cases hl:s.length<=LEN
 rotate_left
 ·exact⟨1,fun h=>absurd h hl⟩
 refine az _ s.length (fun i x=>x=(i:Int)/\∀j,j<i->rW j (s.getD j 0)=true) (fun R i x hi hP hR=>?_) (fun R x hP=>?_) _ ⟨rfl,by omega⟩
 ·obtain⟨rfl,hP⟩:=hP;simp only[aH hi,if_true,Int.toNat_natCast]
  try dsimp +instances only [Int.toNat_natCast]
  intro _;refine⟨⟨WO i,hi⟩,?_⟩;have key:rW i (s.getD i 0)=true->R (i64.wrap ((i:Int)+1)):=fun hc=>hR _ ⟨by rw[ao (by unfold LEN at hl;omega)],fun j hj=>by
   by_cases e:j=i
   ·rw[e];exact hc
   ·exact hP j Z1⟩
  have key2:rW i (s.getD i 0)=false->KK false:=fun hc=>by
   have:yp s=false:=by
    unfold yp;rw[Bool.and_eq_false_iff];refine .inl ?_;rw[List.all_eq_false];exact⟨i,by simpa using hi,by rw[hc];exact Bool.false_ne_true⟩
   rw[this]at h;exact h
  unfold rW at key key2;clear hP hR h;generalize s.getD i 0=c at key key2⊢;have e48:(((48:UInt8).toNat:Nat):Int)=48:=rfl
  have e57:(((57:UInt8).toNat:Nat):Int)=57:=rfl
  have e95:(((95:UInt8).toNat:Nat):Int)=95:=rfl
  have e65:(((65:UInt8).toNat:Nat):Int)=65:=rfl
  have e90:(((90:UInt8).toNat:Nat):Int)=90:=rfl
  have e97:(((97:UInt8).toNat:Nat):Int)=97:=rfl
  have e122:(((122:UInt8).toNat:Nat):Int)=122:=rfl
  simp only[e48,e57,e95,e65,e90,e97,e122];generalize((c.toNat:Nat):Int)=z at key key2⊢
  grind
 ·obtain⟨rfl,hP⟩:=hP;intro _;simp only[fK,WP,if_false];intro _;refine kk h ?_;have:(List.range s.length).all (fun i=>rW i (s.getD i 0))=true:=by
   rw[WY];intro j hj;exact hP j (by simpa using hj)
  unfold yp;rw[this,Xn];simp only[Bool.and_assoc]
theorem Ls(a:Lt.Arg)(hp:j6 a)(KK:List UInt8->Prop)(h:KK (bK a)):Ih a KK:=by
 unfold Ih;(try simp only[ay,aJ,aK,jval,bor,band,bnand,bimp,and_self]);unfold bK at h;unfold j6 Lt.Arg.ok at hp;have hq:fZ a.N:=hp
 have:=vw hp
 have e:(35::ip a.N).length<=4611686018427387904:=by simp only[WL,ip];omega
 grind
theorem Lm(l:List (List UInt8))(a:List Lt.Arg)(hp:mO l a)(KK:List (List UInt8)->Prop)(h:KK (sO l a)):Ia l a KK:=by
 unfold Ia;(try simp only[ay,aJ,aK,jval,bor,band,bnand,bimp,and_self]);obtain⟨hok,hp⟩:=hp;unfold Lt.room at hp;have e:∀l:List Lt.Arg,(l.flatMap fun x=>[bK x])=l.map bK:=fun l=>by induction l<;>simp_all
 refine dk a (fun x=>[bK x]) l _ (fun R i b hl hi hb ih=>?_) (fun R hl=>?_)
 ·simp only[aH hi,if_true,Int.toNat_natCast]
  try dsimp +instances only [Int.toNat_natCast]
  have:=gj (fun x=>[bK x]) a hi
  rw[e,e,WJ]at this;refine⟨⟨WO i,hi⟩,hok _ (bt _ hi),?_,ih⟩;rw[hb,e];simp only[WM,WJ,Xk,WL,WQ];omega
 ·simp only[fK,WP,if_false];rw[e];exact h
theorem Lo(out:List UInt8)(t:Lt.Term)(hp:vO out t)(KK:List UInt8->Prop)(h:KK (PC out t)):Ic out t KK:=by
 obtain⟨⟨okA,okN⟩,hp⟩:=hp;unfold Ic;dsimp only;(try simp only[ay,aJ,aK,jval,bor,band,bnand,bimp,and_self]);unfold PC at h;refine ifk (fun hc=>kk h ?_) (fun hc=>?_)
 ·unfold vV;rw[if_pos (by simpa using hc)];simp
 ·have hk:¬ (t.Kind < 1\/4<t.Kind):=by simpa using hc
  unfold vV at h hp;rw[if_neg hk]at h hp;have hlen:t.To.length<=1099511627776:=by
   have:=vg (sP t)
   have h2:t.To.length<=(sP t).length:=by unfold sP;simp only[WM];omega
   unfold Lt.room at hp;omega
  refine⟨⟨by omega,by simp only[WL,WQ];omega⟩,?_⟩;generalize hw:([[],[106,117,109,112],[98,114,97,110,99,104],[114,101,116],[116,114,97,112]]:List (List UInt8)).getD t.Kind.toNat default=w;have he:sP t=([w]++(if t.Kind=2\/t.Kind=3 then [bK t.A]else []))++t.To++(if t.Kind=4 then [ip t.N]else []):=by
   rw[<- hw];rfl
  intro J hJ;have hj:J ([w]++(if t.Kind=2\/t.Kind=3 then [bK t.A]else [])):=by
   refine hJ _ ?_;generalize hv:([w]++(if t.Kind=2\/t.Kind=3 then [bK t.A]else []))=v at he;have hvl:v.length<=2:=by rw[<- hv];split<;>simp
   refine⟨⟨by omega,by omega⟩,?_⟩;intro J2 hJ2;have hj2:J2 (sP t):=hJ2 _ ⟨hp,h⟩
   rw[he]at hj2;refine ifk (fun hc=>⟨okN,?_,?_⟩) (fun hc=>?_)
   ·simp only[WM,WL,WQ];omega
   ·rw[if_pos (by simpa using hc)]at hj2;exact hj2
   ·rw[if_neg (by simpa using hc),X4]at hj2;exact hj2
  refine ifk (fun hc=>⟨okA,?_,?_⟩) (fun hc=>?_)
  ·simp
  ·rw[if_pos (by simpa using hc)]at hj;exact hj
  ·rw[if_neg (by simpa using hc)]at hj;exact hj
theorem RM(n:Int)(KK:Lt.RForm×Bool->Prop)(h:KK (Lt.rOf n)):MU n KK:=by
 by_cases hr:n < 1\/34<n
 ·unfold MU Lt.rOf at *;rw[if_pos hr]at h;simp only[ay,jval,bor];rw[if_pos (by simpa using hr)];exact h
 ·have:n=1\/n=2\/n=3\/n=4\/n=5\/n=6\/n=7\/n=8\/n=9\/n=10\/n=11\/n=12\/n=13\/n=14\/n=15\/n=16\/n=17\/n=18\/n=19\/n=20\/n=21\/n=22\/n=23\/n=24\/n=25\/n=26\/n=27\/n=28\/n=29\/n=30\/n=31\/n=32\/n=33\/n=34:=by omega
  rcases this with rfl|rfl|rfl|rfl|rfl|rfl|rfl|rfl|rfl|rfl|rfl|rfl|rfl|rfl|rfl|rfl|rfl|rfl|rfl|rfl|rfl|rfl|rfl|rfl|rfl|rfl|rfl|rfl|rfl|rfl|rfl|rfl|rfl|rfl
  all_goals
   simp[Lt.rOf]at h;simp[MU,ay,gw];exact h
theorem Ln(out:List UInt8)(x:Lt.Instr)(hp:Dl out x)(KK:List UInt8->Prop)(h:KK (PB out x)):Ib out x KK:=by
 obtain⟨⟨okA,okF,okO⟩,okAt,hp⟩:=hp;unfold j8 Lt.room at hp;simp only[WM]at hp;unfold Ib;dsimp only;(try simp only[ay,aJ,aK,jval,bor,band,bnand,bimp,and_self]);intro J hJ;have hw:=vg (ja x)
 have j1:J (if(Lt.rOf x.Op).1.Dst=true then [x.Dst,[61]]else []):=by
  refine hJ _ ?_;generalize hv:(if(Lt.rOf x.Op).1.Dst=true then [x.Dst,[61]]else [])=v;have hh:ql x=v++[(Lt.rOf x.Op).1.Word]:=by rw[<- hv];rfl
  have hvl:v.length<=2:=by rw[<- hv];split<;>simp
  refine⟨⟨by simp only[WL,WQ];omega,by simp only[WL,WQ];omega⟩,?_⟩;rw[<- hh];have hhl:(ql x).length<=3:=by rw[hh];simp;omega
  intro J2 hJ2;have j2:J2 (ja x):=by
   refine hJ2 _ ⟨by unfold bu Lt.room;omega,?_⟩;refine dk x.Frames (fun f=>Lt.lnT (eI f)) (fL out (ja x)) _ (fun R i b hl hi hb ih=>?_) (fun R hl=>?_)
   ·simp only[aH hi,if_true,Int.toNat_natCast]
    try dsimp +instances only [Int.toNat_natCast]
    have o:(0:Int)<=(i:Int)/\i<x.Frames.length:=⟨WO i,hi⟩
    have pN:fZ (x.Frames.getD i default).At:=bO okAt hi
    simp only[o,pN,and_self,true_and];(try simp only[ay,aJ,aK,jval,bor,band,bnand,bimp,and_self]);have fl:=gj (fun f=>Lt.lnT (eI f)) x.Frames hi
    have okf:=bO okF hi
    generalize x.Frames.getD i default=f at fl okf pN ih⊢;have hbl:b.length+(Lt.lnT (eI f)).length<=1099511627776:=by
     rw[hb];simp only[fL,WM];omega
    have hfw:=vg (eI f)
    have hfl:(eI f).length=4+2*f.Vars.length:=by
     simp only[eI,WM,IX,WL,WQ]
    refine dk f.Vars (fun v=>[v.Name,bK v.A]) _ _ (fun R2 j w hl2 hj hw ih2=>?_) (fun R2 hl2=>?_)
    ·simp only[aH hj,if_true,Int.toNat_natCast]
     try dsimp +instances only [Int.toNat_natCast]
     have o2:(0:Int)<=(j:Int)/\j<f.Vars.length:=⟨WO j,hj⟩
     have pA:j6 (f.Vars.getD j default).A:=okf.2 _ (bt _ hj)
     simp only[o2,pA,and_self,true_and];(try simp only[ay,aJ,aK,jval,bor,band,bnand,bimp,and_self]);refine⟨?_,ih2⟩;rw[hw];simp only[WM,IX,WL,WQ,Xk];omega
    ·simp only[fK,WP,if_false];refine⟨?_,ih⟩;unfold bu Lt.room;exact hbl
   ·simp only[fK,WP,if_false];refine dk x.Objs (fun o=>Lt.lnT (g8 o)) _ _ (fun R i b hl hi hb ih=>?_) (fun R hl=>?_)
    ·simp only[aH hi,if_true,Int.toNat_natCast]
     try dsimp +instances only [Int.toNat_natCast]
     have fl:=gj (fun o=>Lt.lnT (g8 o)) x.Objs hi
     have oko:=bO okO hi
     have o:(0:Int)<=(i:Int)/\i<x.Objs.length:=⟨WO i,hi⟩
     refine⟨o,o,?_⟩;generalize x.Objs.getD i default=v at fl oko ih⊢;have hbl:b.length+(Lt.lnT (g8 v)).length<=1099511627776:=by
      rw[hb];simp only[fL,WM];omega
     have hfw:=vg (g8 v)
     have hfl:(g8 v).length=2+v.Vals.length:=by
      simp only[g8,WM,WJ,WL,WQ]
     refine⟨⟨oko,?_⟩,?_,ih⟩
     ·unfold Lt.room;simp only[WL,WQ];omega
     ·unfold bu Lt.room;exact hbl
    ·simp only[fK,WP,if_false];unfold PB j8 at h;simp only[fL,Xm]at h⊢;exact h
  have hlen:=hw
  refine ifk (fun hc=>?_) (fun hc=>?_)
  ·have hc':(x.Op=26\/x.Op=27)/\x.Args≠[]:=by
    cases hx:x.Args with
    |nil=>rw[hx]at hc;simp at hc
    |cons a r=>
     rw[hx]at hc;refine⟨?_,by simp⟩;by_cases h26:x.Op=26
     ·exact .inl h26
     ·by_cases h27:x.Op=27
      ·exact .inr h27
      ·simp[h26,h27]at hc
   have hne:1<=x.Args.length:=by
    have:=hc'.2
    cases hx:x.Args with
    |nil=>exact absurd hx this
    |cons a r=>simp
   have e:ja x=ql x++(x.Args.take 1).map bK++[x.Name]++(x.Args.drop 1).map bK:=by
    unfold ja;rw[if_pos hc']
   have el:=congrArg List.length e
   simp only[WM,WJ,Xk,Yo,WL,WQ]at el;have t1:List.take (1 - 0) (List.drop 0 x.Args)=x.Args.take 1:=rfl
   have t2:List.take (x.Args.length - 1) (List.drop 1 x.Args)=x.Args.drop 1:=List.take_of_length_le (by simp)
   rw[t1,t2];refine⟨by omega,⟨by omega,hne⟩,⟨fun a ha=>okA a (Yc ha),?_⟩,?_,by omega,⟨hne,WN _⟩,⟨fun a ha=>okA a (List.mem_of_mem_drop ha),?_⟩,?_⟩
   ·unfold Lt.room;rw[Xk];omega
   ·simp only[sO,WM,WJ,Xk,WL,WQ];omega
   ·unfold Lt.room;simp only[sO,WM,WJ,Xk,Yo,WL,WQ];omega
   ·rw[e]at j2;exact j2
  ·have hc':¬ ((x.Op=26\/x.Op=27)/\x.Args≠[]):=by
    rintro⟨h1,h2⟩
    have:0<x.Args.length:=List.length_pos_iff.2 h2
    refine hc ?_;rcases h1 with h1|h1<;>simp[h1]<;>omega
   have e:ja x=ql x++(if(Lt.rOf x.Op).1.Named then [x.Name]else [])++x.Args.map bK:=by
    unfold ja;rw[if_neg hc']
   have el:=congrArg List.length e
   simp only[WM,WJ]at el;intro J3 hJ3;have j3:J3 (ql x++(if(Lt.rOf x.Op).1.Named then [x.Name]else [])):=by
    refine hJ3 _ ⟨⟨okA,?_⟩,?_⟩
    ·unfold Lt.room;simp only[WM];omega
    ·rw[e]at j2;exact j2
   refine ifk (fun hn=>⟨?_,?_⟩) (fun hn=>?_)
   ·simp only[WL,WQ];omega
   ·rw[if_pos hn]at j3;exact j3
   ·rw[if_neg hn,X4]at j3;exact j3
 exact ifk (fun hc=>⟨by simp,by rw[if_pos hc]at j1;exact j1⟩) (fun hc=>by rw[if_neg hc]at j1;exact j1)
theorem Fq(p:Lt.Program)(hp:nQ p)(KK:List UInt8->Prop)(h:KK (mT p)):AQ p KK:=by
 obtain⟨okP,okE,okAt,hp⟩:=hp;unfold AQ;dsimp only;(try simp only[ay,aJ,aK,jval,bor,band,bnand,bimp,and_self]);unfold mT at h hp;unfold Lt.room at hp;simp only[WM]at hp;intro J hJ;have j1:J (if p.SSA=true then Lt.lnT [[115,115,97]]else []):=by
  refine hJ _ ?_;generalize(if p.SSA=true then Lt.lnT [[115,115,97]]else [])=s at h hp;refine dk p.Classes io s _ (fun R i b hl hi hb ih=>?_) (fun R hl=>?_)
  ·simp only[aH hi,if_true,Int.toNat_natCast]
   try dsimp +instances only [Int.toNat_natCast]
   have o:(0:Int)<=(i:Int)/\i<p.Classes.length:=⟨WO i,hi⟩
   have fl:=gj io p.Classes hi
   generalize p.Classes.getD i default=c at fl ih⊢;have hbl:b.length+(io c).length<=1099511627776:=by rw[hb,WM];omega
   simp only[io,WM]at hbl;have p1:bu b [[99,108,97,115,115],c.Name]:=by unfold bu Lt.room;omega
   have p2:cw (fL b [[99,108,97,115,115],c.Name]) [102,105,101,108,100] c.Fields:=by
    unfold cw Lt.room;simp only[fL,WM];omega
   simp only[o,p1,p2,and_self,true_and];(try simp only[ay,aJ,aK,jval,bor,band,bnand,bimp,and_self]);simp only[io,<- Xm]at ih;exact ih
  ·simp only[fK,WP,if_false];refine⟨by unfold cw Lt.room;simp only[WM];omega,?_⟩;refine dk p.Externs i9 _ _ (fun R i b hl hi hb ih=>?_) (fun R hl=>?_)
   ·simp only[aH hi,if_true,Int.toNat_natCast]
    try dsimp +instances only [Int.toNat_natCast]
    have o:(0:Int)<=(i:Int)/\i<p.Externs.length:=⟨WO i,hi⟩
    have fl:=gj i9 p.Externs hi
    have pN:fZ (p.Externs.getD i default).N:=bO okE hi
    generalize p.Externs.getD i default=c at fl ih pN⊢;have p1:bu b [[101,120,116,101,114,110],c.Name,ip c.N]:=by
     unfold bu Lt.room;rw[hb];simp only[mU,WM];unfold gZ at hp;have:(i9 c)=Lt.lnT [[101,120,116,101,114,110],c.Name,ip c.N]:=rfl
     rw[<- this];omega
    simp only[o,p1,pN,and_self,true_and];(try simp only[ay,aJ,aK,jval,bor,band,bnand,bimp,and_self]);exact ih
   ·simp only[fK,WP,if_false];refine dk p.Funcs lL _ _ (fun R i b hl hi hb ih=>?_) (fun R hl=>?_)
    ·simp only[aH hi,if_true,Int.toNat_natCast]
     try dsimp +instances only [Int.toNat_natCast]
     have o:(0:Int)<=(i:Int)/\i<p.Funcs.length:=⟨WO i,hi⟩
     have fl:=gj lL p.Funcs hi
     have okf:=bO okP hi
     have okat:=bO okAt hi
     refine⟨o,?_⟩;generalize p.Funcs.getD i default=f at fl okf okat ih⊢;have hbl:b.length+(lL f).length<=1099511627776:=by
      rw[hb];unfold gZ at hp;simp only[mU,WM];omega
     simp only[lL,WM]at hbl;refine⟨by unfold bu Lt.room;omega,by unfold cw Lt.room;simp only[fL,WM];omega,?_,?_⟩
     ·unfold cw Lt.room;unfold gZ at hbl⊢;simp only[mU,fL,WM];omega
     ·refine dk f.Blocks im _ _ (fun R2 j b2 hl2 hj hb2 ih2=>?_) (fun R2 hl2=>?_)
      ·simp only[aH hj,if_true,Int.toNat_natCast]
       try dsimp +instances only [Int.toNat_natCast]
       have o2:(0:Int)<=(j:Int)/\j<f.Blocks.length:=⟨WO j,hj⟩
       have fl2:=gj im f.Blocks hj
       have okb:=bO okf hj
       have okbt:=bO okat hj
       simp only[o2,and_self,true_and];generalize f.Blocks.getD j default=k at fl2 okb okbt ih2⊢;have hb2l:b2.length+(im k).length<=1099511627776:=by
        rw[hb2];unfold gZ at hbl;simp only[mU,fL,WM];omega
       simp only[im,WM]at hb2l;refine⟨by unfold bu Lt.room;omega,?_⟩;refine dk k.Phis (fun x=>Lt.lnT (lY x)) _ _ (fun R3 q b3 hl3 hq hb3 ih3=>?_) (fun R3 hl3=>?_)
       ·simp only[aH hq,if_true,Int.toNat_natCast]
        try dsimp +instances only [Int.toNat_natCast]
        have o3:(0:Int)<=(q:Int)/\q<k.Phis.length:=⟨WO q,hq⟩
        have fl3:=gj (fun x=>Lt.lnT (lY x)) k.Phis hq
        have okx:=bO okb.1 hq
        simp only[o3,and_self,true_and];generalize k.Phis.getD q default=x at fl3 okx ih3⊢;have hb3l:b3.length+(Lt.lnT (lY x)).length<=1099511627776:=by
         rw[hb3];simp only[fL,WM];omega
        have hfw:=vg (lY x)
        have hfl:(lY x).length=2+2*x.Ins.length:=by
         simp only[lY,WM,IX,WL,WQ]
        refine dk x.Ins (fun i=>[i.Block,bK i.A]) _ _ (fun R4 t w hl4 ht hw ih4=>?_) (fun R4 hl4=>?_)
        ·simp only[aH ht,if_true,Int.toNat_natCast]
         try dsimp +instances only [Int.toNat_natCast]
         have o4:(0:Int)<=(t:Int)/\t<x.Ins.length:=⟨WO t,ht⟩
         have pA:j6 (x.Ins.getD t default).A:=okx.2 _ (bt _ ht)
         simp only[o4,pA,and_self,true_and];(try simp only[ay,aJ,aK,jval,bor,band,bnand,bimp,and_self]);refine⟨?_,ih4⟩;rw[hw];simp only[WM,IX,WL,WQ,Xk];omega
        ·simp only[fK,WP,if_false];refine⟨?_,ih3⟩;unfold bu Lt.room;exact hb3l
       ·simp only[fK,WP,if_false];refine dk k.Code j8 _ _ (fun R4 q b4 hl4 hq hb4 ih4=>?_) (fun R4 hl4=>?_)
        ·simp only[aH hq,if_true,Int.toNat_natCast]
         try dsimp +instances only [Int.toNat_natCast]
         have fl4:=gj j8 k.Code hq
         have okc:=bO okb.2.1 hq
         have okct:=bO okbt hq
         refine⟨⟨WO q,hq⟩,⟨okc,okct,?_⟩,ih4⟩;rw[hb4];unfold Lt.room;simp only[fL,WM];omega
        ·simp only[fK,WP,if_false];refine⟨(⟨okb.2.2,?_⟩:vO _ k.End),?_⟩
         ·unfold Lt.room;simp only[fL,WM];omega
         ·simp only[im,<- Xm]at ih2;exact ih2
      ·simp only[fK,WP,if_false];simp only[lL,<- Xm]at ih;exact ih
    ·simp only[fK,WP,if_false];unfold gZ at h;exact h
 exact ifk (fun hc=>⟨by unfold bu Lt.room;decide,by rw[if_pos hc]at j1;exact j1⟩) (fun hc=>by rw[if_neg hc]at j1;exact j1)
end Go.Am
end

section
namespace Go.Am
open Go Go.Proofs
set_option maxRecDepth 100000
section
variable {sh:List (TypeId×List Sh)}
noncomputable def b3(E:Ev sh){f:Nat}(fn:Func)(an:An)(u:U)(ps:List U){pre:List (El u)->Fl ps->Prop}{F:List (El u)->Fl ps->List (El u)}{G:List (El u)->Fl ps->(List (El u)->Prop)->Prop}(law:∀x y,pre x y->∀KK:List (El u)->Prop,KK (F x y)->G x y KK)(hw:∀x y KK,G x y KK=NB E.en fn an u ps x y KK:=by intros;kernel_rfl)(hf:prog.funcs[f]? = some fn:=by kernel_rfl)(hb:okF (ps.length+1) fn=true:=by kernel_rfl):Cb f:=
 ⟨Sk u ps pre F,MB E.ok mixed hf (ew hb).1 (ew hb).2.1 (ew hb).2.2.1 (ew hb).2.2.2 fun x y hp KK h=>hw x y KK ▸ law x y hp KK h⟩
noncomputable def KB:Cb 5:=⟨_,QR⟩
noncomputable def y8:Cb 26:=b3 (eZ:Ev []) f26 (aD 0x2000818c8081358241 [aG [1] [] [.ow 0 [.fr] .b8,.sl 5 uI],aG [1,5] [] [.ow 0 [.fr] .b8]]) .b8 [.sl .s] (fun x y=>OM x y)
noncomputable def Q3:Cb 27:=b3 ((ad y8 eZ):Ev []) f27 (aD 0x80c8081358241 [aG [1,2] [] [.ow 0 [.fr] .b8,.sl 7 uI]]) .b8 [.s,.sl (.st .Var)] (fun x y=>Lr x y.1 y.2)
noncomputable def Q2:Cb 75:=b0 (eZ:Ev []) f75 (aD 0x40050241 []) [uI] [.i .u64] Lq
noncomputable def y6:Cb 28:=b1 ((ad Q2 eZ):Ev []) f28 (aD 0x20028120204105d701041 [aG [0] [] [.ow 3 [.fr] .b8],aG [0] [] [.ow 3 [.fr] .b8,.sl 4 (.i .u64)]]) [uI] [.s] OL
noncomputable def Q1:Cb 120:=b0 (eZ:Ev []) f120 (aD 0x8000508202c8081358241 [aG [0] [] [.sl 3 uI],aG [0,3,4] [] [.sl 5 .bo],aG [0,3] [] [.sl 46 .bo],aG [] [] [.sl 2 .bo]]) [.s] [.bo] Lp
noncomputable def NQ:Cb 179:=b0 (eZ:Ev []) f179 (aD 0x1041 []) [uI] [.bo] Fo
noncomputable def BG:Cb 121:=b0 ((ad NQ eZ):Ev []) f121 (aD 0x40050241 []) [uI] [uI] Fv
noncomputable def NS:Cb 76:=b0 ((ad Q1 (ad BG eZ)):Ev []) f76 (aD 0x100050840050241 [aG [1] [1] [.sl 26 .bo],aG [] [] [.sl 2 .bo]]) [.st .Arg] [.bo] Fw
noncomputable def Um:Cb 77:=b0 ((ad BG eZ):Ev []) f77 (aD 0x2002020602c8081358241041 [aG [] [] [.sl 3 (.i .u64),.ow 4 [.fr] .b8,.sl 5 uI],⟨[3,4,5],[.gh 900004],[],[.sl 6 .b8]⟩]) [uI] [.s] OK
noncomputable def tu:Cb 29:=b1 ((ad y6 (ad NS (ad Um eZ))):Ev []) f29 (aD 0x40050240050240050240050240050241 []) [.st .Arg] [.s] Ls
noncomputable def Vv:Cb 78:=b0 (eZ:Ev []) f78 (aD 0x804201030201021030028040840840840840c60c100050841 [aG [0,2] [2] [.sl 10 .bo],⟨[0,2],[.loc 2],[(4,.loc 4,0)],[.rt (.loc 4) [.fr,.fr,.fr,.fr,.fr] (.st .RForm)]⟩,aG [2,4] [2] [.rt (.loc 4) [.fr,.fr,.fr,.fr,.fr] (.st .RForm)],aG [2,4,48] [2,4] [.sl 51 .bo],aG [2,4,48] [2,4] [.sl 60 .bo],aG [2,4] [2,4] [.sl 65 .bo]]) [uI] [.st .RForm,.bo] RM
noncomputable def QY:Cb 79:=b3 ((ad tu eZ):Ev []) f79 (aD 0x80c8081358241 [aG [1] [] [.ow 0 [.fr] .s,.sl 5 uI]]) .s [.sl (.st .Arg)] (fun x y=>Lm x y)
noncomputable def QZ:Cb 30:=b3 ((ad y8 (ad y6 (ad tu (ad Vv (ad QY eZ))))):Ev []) f30 (aD 0x20380204d609000700409ac122320204d609040081801050901010301041 [⟨[0,3,5],[.loc 3,.loc 5,.out 0],[],[.ow 7 [.fr] .s]⟩,⟨[0,3],[.loc 3,.out 0],[],[.ow 7 [.fr] .s]⟩,⟨[0,3,5,7],[.gh 29,.loc 3,.loc 5,.out 0],[],[.sl 43 .bo]⟩,⟨[0,3],[.loc 3,.out 0],[],[.ow 7 [.fr] .s]⟩,aG [3] [3] [.ow 0 [.fr] .b8,.sl 8 uI],⟨[0,3,8],[.gh 900000,.loc 3],[],[.ow 9 [.fr] .s]⟩,⟨[0,3,8],[.gh 900000,.loc 3],[],[.ow 9 [.fr] .s,.sl 10 uI]⟩,⟨[0,3,8,10],[.gh 900000,.loc 3],[],[.ow 9 [.fr] .s]⟩,aG [3] [3] [.ow 0 [.fr] .b8,.sl 11 uI],aG [3,11] [3] [.ow 0 [.fr] .b8]]) .b8 [.st .Instr] (fun x y=>Ln x y)
noncomputable def Q0:Cb 31:=b3 ((ad y8 (ad y6 (ad tu eZ))):Ev []) f31 (aD 0x1010301010901001421041 [⟨[0,3,5],[.gh 7,.loc 3,.out 0],[],[.sl 15 .bo]⟩,⟨[0,3],[.loc 3,.out 0],[],[.ow 6 [.fr] .s]⟩,⟨[0,3,6],[.gh 22,.loc 3,.out 0],[],[.sl 30 .bo]⟩,⟨[0],[.out 0],[],[.ow 6 [.fr] .s]⟩]) .b8 [.st .Term] (fun x y=>Lo x y)
noncomputable def NR:Cb 9:=b1 ((ad y8 (ad Q3 (ad y6 (ad tu (ad QZ (ad Q0 eZ)))))):Ev []) f9 (aD 0x8000640409ac12000e0081358241640409ac12082c80813582202c8081358240700409ac12080e008135824040c041 [aG [1] [1] [.ow 3 [.fr] .b8],aG [1] [1] [.ow 3 [.fr] .b8,.sl 4 uI],aG [1,4] [1] [.ow 3 [.fr] .b8],aG [1] [1] [.ow 3 [.fr] .b8,.sl 5 uI],aG [1,5] [1] [.ow 3 [.fr] .b8],aG [1] [1] [.ow 3 [.fr] .b8,.sl 6 uI],aG [1,6,7] [1,7] [.ow 3 [.fr] .b8],aG [1,6,7] [1,7] [.ow 3 [.fr] .b8,.sl 8 uI],aG [1,6,7,8,9] [1,7,9] [.ow 3 [.fr] .b8,.sl 10 uI],⟨[1,3,6,7,8,9,10],[.gh 900003,.loc 1,.loc 7,.loc 9],[],[.ow 11 [.fr] .s,.sl 12 uI]⟩,⟨[1,3,6,7,8,9,10,12],[.gh 900003,.loc 1,.loc 7,.loc 9],[],[.ow 11 [.fr] .s]⟩,aG [1,6,7,8,9] [1,7,9] [.ow 3 [.fr] .b8,.sl 13 uI]]) [.st .Program] [.s] Fq
def n3:An:=.s .l (.s (.j ⟨[1],[.loc 1],[],[.sl 10 .bo]⟩ .l (.c (.s .l .l) .l)) (.s .l (.s .l (.s .l .l))))
noncomputable abbrev e_ValidKeeps:Ev []:=(ad KB (ad Vq (ad uD (ad NR eZ))))
theorem ta(a0_p:Lt.Program)(KK:(Bool)->Prop):lh a0_p KK=ib e_ValidKeeps.en f4 n3 [.st .Program] [.bo] a0_p KK:=Z0
theorem wD:En.ok e_ValidKeeps.en:=e_ValidKeeps.ok
end
end Go.Am
end

section
namespace Go.Am
open Go
def Bd(d:Nat):Int:=562949953421312+6001*((min d 10:Nat):Int)
theorem IM(d:Nat):562949953421312<=Bd d/\Bd d<=562949953621322:=by unfold Bd;omega
def Pc(d:Nat)(b:Int)(w:Nat)(r:Int):Prop:=(6000<r/\r<=Bd d)\/(r=b+(w:Int)/\r<=6000)
def short(s:List UInt8):Prop:=s.length<=140737488355328
theorem jt{α:Type}{d:Nat}(go:List α->Int->Int)(s:Int->α->Int)(w:α->Nat)(h0:∀b,go [] b=b)(h1:∀x r b,go (x::r) b=if b<=6000 then go r (s b x)else b)(ok:α->Prop)
  (hs:∀b x,ok x->0<=b->b<=6000->Pc d b (w x) (s b x)):∀(l:List α)(b:Int),(∀x∈l,ok x)->0<=b->b<=Bd d->Pc d b (l.map w).sum (go l b)
 |[],b,_,h2,h3=>by
  rw[h0];unfold Pc;simp only[List.map_nil,List.sum_nil];omega
 |x::r,b,hok,h2,h3=>by
  rw[h1];by_cases hb:b<=6000
  ·rw[if_pos hb];have hx:=hs b x (hok x (by simp)) h2 hb
   have hB:=IM d
   have h4:0<=s b x/\s b x<=Bd d:=by unfold Pc at hx;omega
   have ih:=jt go s w h0 h1 ok hs r (s b x) (fun y hy=>hok y (by simp[hy])) h4.1 h4.2
   unfold Pc at hx ih⊢;simp only[List.map_cons,XR];omega
  ·rw[if_neg hb];unfold Pc;omega
theorem gn{n:Int}{k:Nat}(h1:0<=n)(h2:n<=1152921504606846976)(h3:k<=1152921504606846976):Lt.plus n k=n+(k:Int):=by
 unfold Lt.plus;exact dj Z1 Z1
theorem jP{n:Int}(h1:0<=n)(h2:n<=4611686018427387904):i64.wrap n=n:=dj Z1 Z1
def P4(v:Lt.Var):Nat:=v.Name.length+v.Type_.length
def qM(l:List Lt.Var):Nat:=l.length+(l.map P4).sum
def P3(a:Lt.Arg):Nat:=a.S.length
def qL(l:List Lt.Arg):Nat:=l.length+(l.map P3).sum
def yz(b:Lt.Bind):Nat:=1+b.Name.length+b.A.S.length
def m8(f:Lt.Frame):Nat:=f.Func.length+f.Block.length+(f.Vars.map yz).sum
def DX(o:Lt.Virt):Nat:=o.Class.length+qL o.Vals
def gf(x:Lt.Instr):Nat:=1+x.Dst.length+x.Frames.length+x.Objs.length+x.Name.length+qL x.Args+(x.Frames.map m8).sum+(x.Objs.map DX).sum
def wIn(b:Lt.In):Nat:=1+b.Block.length+b.A.S.length
def ww(x:Lt.Phi):Nat:=1+x.Dst.length+(x.Ins.map wIn).sum
def wTo(t:List UInt8):Nat:=1+t.length
def di(b:Lt.Block):Nat:=1+b.Name.length+b.End.A.S.length+(b.End.To.map wTo).sum+(b.Phis.map ww).sum+(b.Code.map gf).sum
def gS(f:Lt.Func):Nat:=1+f.Name.length+f.Result.length+qM f.Params+qM f.Vars+(f.Blocks.map di).sum
def sa(c:Lt.Class):Nat:=c.Name.length+qM c.Fields
def nT(x:Lt.Extern):Nat:=1+x.Name.length
def wx(p:Lt.Program):Nat:=qM p.Globals+(p.Classes.map sa).sum+(p.Externs.map nT).sum+(p.Funcs.map gS).sum
def DC(v:Lt.Var):Prop:=short v.Name/\short v.Type_
def wd(a:Lt.Arg):Prop:=short a.S
def PL(b:Lt.Bind):Prop:=short b.Name/\wd b.A
def Gy(f:Lt.Frame):Prop:=short f.Func/\short f.Block/\∀b∈f.Vars,PL b
def UT(o:Lt.Virt):Prop:=short o.Class/\∀a∈o.Vals,wd a
def wg(x:Lt.Instr):Prop:=short x.Dst/\short x.Name/\(∀a∈x.Args,wd a)/\(∀f∈x.Frames,Gy f)/\∀o∈x.Objs,UT o
def sIn(b:Lt.In):Prop:=short b.Block/\wd b.A
def SB(x:Lt.Phi):Prop:=short x.Dst/\∀i∈x.Ins,sIn i
def we(b:Lt.Block):Prop:=short b.Name/\wd b.End.A/\(∀t∈b.End.To,short t)/\(∀x∈b.Phis,SB x)/\∀i∈b.Code,wg i
def Jt(f:Lt.Func):Prop:=short f.Name/\short f.Result/\(∀v∈f.Params,DC v)/\(∀v∈f.Vars,DC v)/\∀b∈f.Blocks,we b
def Gx(c:Lt.Class):Prop:=short c.Name/\∀v∈c.Fields,DC v
def PM(p:Lt.Program):Prop:=(∀c∈p.Classes,Gx c)/\(∀v∈p.Globals,DC v)/\(∀e∈p.Externs,short e.Name)/\∀f∈p.Funcs,Jt f
theorem m7{d:Nat}{b0:Int}{w0:Nat}{n:Int}{k:Nat}{r:Int}(hd:d < 9)(h0:0<=b0)(h:Pc (d+1) b0 w0 n)(hk:Pc d 0 k r):Pc (d+1) b0 (w0+k) (Lt.upto 6000 n r):=by
 unfold Lt.upto;unfold Pc Bd at h hk⊢;split
 ·rw[jP Z1 Z1];omega
 ·omega
theorem zJ{d:Nat}{b0:Int}{w0:Nat}{n:Int}{k:Nat}(h0:0<=b0)(h:Pc d b0 w0 n)(hk:k<=140737488355328):Pc d b0 (w0+k) (if n<=6000 then Lt.plus n k else n):=by
 unfold Pc Bd at h⊢;split
 ·rw[gn Z1 Z1 Z1];omega
 ·omega
theorem OS{d:Nat}{k:Nat}(hk:k<=140737488355328):Pc d 0 k (k:Int):=by unfold Pc Bd;omega
theorem QO{d:Nat}(l:List Lt.Var)(b:Int)(h:∀v∈l,DC v)(h0:0<=b)(h1:b<=Bd d):Pc d b (l.map P4).sum (uA 6000 l b):=by
 refine jt (uA 6000) (fun n v=>if Lt.plus n v.Name.length<=6000 then Lt.plus (Lt.plus n v.Name.length) v.Type_.length else Lt.plus n v.Name.length) P4 (fun _=>rfl) (fun _ _ _=>rfl) DC (fun b x hx h0 h1=>?_) l b h h0 h1;have hn:Pc d b x.Name.length (Lt.plus b x.Name.length):=by
  have:=hx.1;unfold short at this
  unfold Pc Bd;rw[gn h0 Z1 Z1];omega
 exact zJ h0 hn hx.2
theorem ju{d:Nat}(l:List Lt.Var)(h:∀v∈l,DC v):Pc d 0 (qM l) (ce l 6000):=by
 unfold ce qM;split
 ·rw[jP Z1 Z1];unfold Pc Bd;omega
 ·have:=QO (d:=d) l (l.length:Int) h Z1 (by have:=IM d;omega)
  unfold Pc at this⊢;omega
theorem QK{d:Nat}(l:List Lt.Arg)(b:Int)(h:∀v∈l,wd v)(h0:0<=b)(h1:b<=Bd d):Pc d b (l.map P3).sum (uz 6000 l b):=by
 refine jt (uz 6000) (fun n v=>Lt.plus n v.S.length) P3 (fun _=>rfl) (fun _ _ _=>rfl) wd (fun b x hx h0 h1=>?_) l b h h0 h1;unfold wd short at hx;unfold Pc Bd P3;rw[gn h0 Z1 Z1];omega
theorem sE{d:Nat}(l:List Lt.Arg)(h:∀v∈l,wd v):Pc d 0 (qL l) (dN l 6000):=by
 unfold dN qL;split
 ·rw[jP Z1 Z1];unfold Pc Bd;omega
 ·have:=QK (d:=d) l (l.length:Int) h Z1 (by have:=IM d;omega)
  unfold Pc at this⊢;omega
theorem Dg{d:Nat}{b:Int}{k:Nat}(h0:0<=b)(h1:b<=6000)(hk:k<=140737488355328):Pc d b (1+k) (Lt.plus (i64.wrap (b+1)) k):=by
 rw[jP Z1 Z1,gn Z1 Z1 Z1];unfold Pc Bd;omega
theorem NE{d:Nat}(l:List Lt.Bind)(b:Int)(h:∀v∈l,PL v)(h0:0<=b)(h1:b<=Bd d):Pc d b (l.map yz).sum (mu 6000 l b):=by
 refine jt (mu 6000) (fun n b=>if Lt.plus (i64.wrap (n+1)) b.Name.length<=6000 then Lt.plus (Lt.plus (i64.wrap (n+1)) b.Name.length) b.A.S.length else Lt.plus (i64.wrap (n+1)) b.Name.length) yz (fun _=>rfl) (fun _ _ _=>rfl) PL (fun b x hx h0 h1=>?_) l b h h0 h1;exact zJ h0 (Dg h0 h1 hx.1) hx.2
theorem Ud{d:Nat}(l:List Lt.In)(b:Int)(h:∀v∈l,sIn v)(h0:0<=b)(h1:b<=Bd d):Pc d b (l.map wIn).sum (BD 6000 l b):=by
 refine jt (BD 6000) (fun n b=>if Lt.plus (i64.wrap (n+1)) b.Block.length<=6000 then Lt.plus (Lt.plus (i64.wrap (n+1)) b.Block.length) b.A.S.length else Lt.plus (i64.wrap (n+1)) b.Block.length) wIn (fun _=>rfl) (fun _ _ _=>rfl) sIn (fun b x hx h0 h1=>?_) l b h h0 h1;exact zJ h0 (Dg h0 h1 hx.1) hx.2
theorem fo{d:Nat}{b:Int}{w w':Nat}{n r:Int}(h0:0<=b)(h:Pc d b w n)(h':0<=n->n<=Bd d->Pc d n w' r):Pc d b (w+w') r:=by
 have hB:=IM d
 have h2:=h' (by unfold Pc at h;omega) (by unfold Pc at h;omega)
 unfold Pc at h h2⊢;omega
theorem Gc{d:Nat}{b:Int}{k:Nat}(h0:0<=b)(h1:b<=6000)(hk:k<=140737488355328):Pc d b k (Lt.plus b k):=by
 rw[gn Z1 Z1 Z1];unfold Pc Bd;omega
theorem Kw{d:Nat}(l:List Lt.Frame)(b:Int)(h:∀v∈l,Gy v)(h0:0<=b)(h1:b<=Bd d):Pc d b (l.map m8).sum (jp 6000 l b):=by
 refine jt (jp 6000) (fun n f=>mu 6000 f.Vars (if Lt.plus n f.Func.length<=6000 then Lt.plus (Lt.plus n f.Func.length) f.Block.length else Lt.plus n f.Func.length)) m8 (fun _=>rfl) (fun _ _ _=>rfl) Gy (fun b x hx h0 h1=>?_) l b h h0 h1;exact fo h0 (zJ h0 (Gc h0 h1 hx.1) hx.2.1) (NE x.Vars _ hx.2.2)
theorem QM{d:Nat}(hd:d < 9)(l:List Lt.Virt)(b:Int)(h:∀v∈l,UT v)(h0:0<=b)(h1:b<=Bd (d+1)):Pc (d+1) b (l.map DX).sum (pO 6000 l b):=by
 refine jt (pO 6000) (fun n o=>if Lt.plus n o.Class.length<=6000 then i64.wrap (Lt.plus n o.Class.length+dN o.Vals 6000)else Lt.plus n o.Class.length) DX (fun _=>rfl) (fun _ _ _=>rfl) UT (fun b x hx h0 h1=>?_) l b h h0 h1;exact m7 hd h0 (Gc h0 h1 hx.1) (sE _ hx.2)
theorem Vp{d:Nat}(l:List (List UInt8))(b:Int)(h:∀v∈l,short v)(h0:0<=b)(h1:b<=Bd d):Pc d b (l.map wTo).sum (Lt.cTo 6000 l b):=by
 refine jt (Lt.cTo 6000) (fun n t=>Lt.plus (i64.wrap (n+1)) t.length) wTo (fun _=>rfl) (fun _ _ _=>rfl) short (fun b x hx h0 h1=>?_) l b h h0 h1;exact Dg h0 h1 hx
theorem QN{d:Nat}(l:List Lt.Phi)(b:Int)(h:∀v∈l,SB v)(h0:0<=b)(h1:b<=Bd d):Pc d b (l.map ww).sum (pP 6000 l b):=by
 refine jt (pP 6000) (fun n x=>BD 6000 x.Ins (Lt.plus (i64.wrap (n+1)) x.Dst.length)) ww (fun _=>rfl) (fun _ _ _=>rfl) SB (fun b x hx h0 h1=>?_) l b h h0 h1;exact fo h0 (Dg h0 h1 hx.1) (Ud x.Ins _ hx.2)
theorem Nq{d:Nat}{b:Int}{w k:Nat}{n r:Int}(hd:d < 9)(h0:0<=b)(hn:n=b+(w:Int))(h1:n<=6000)(hk:Pc d 0 k r):Pc (d+1) b (w+k) (i64.wrap (n+r)):=by
 unfold Pc Bd at hk⊢;rw[jP Z1 Z1];omega
theorem ze(x:Lt.Instr)(h:wg x):Pc 1 0 (gf x) (eN x 6000):=by
 obtain⟨h1,h2,h3,h4,h5⟩:=h;unfold short at h1 h2;unfold eN;split
 ·rename_i hc;rw[jP Z1 Z1];unfold Pc Bd;omega
 ·rename_i hc;simp only[XB,decide_eq_true_eq,not_or]at hc;have e:Lt.plus (Lt.plus (Lt.plus 1 x.Dst.length) x.Frames.length) x.Objs.length=1+(x.Dst.length:Int)+x.Frames.length+x.Objs.length:=by
   have e1:=gn (n:=1) (k:=x.Dst.length) Z1 Z1 Z1
   have e2:=gn (n:=1+(x.Dst.length:Int)) (k:=x.Frames.length) Z1 Z1 Z1
   have e3:=gn (n:=1+(x.Dst.length:Int)+x.Frames.length) (k:=x.Objs.length) Z1 Z1 Z1
   rw[e1,e2,e3]
  have p1:Pc 1 0 (1+x.Dst.length+x.Frames.length+x.Objs.length) (Lt.plus (Lt.plus (Lt.plus 1 x.Dst.length) x.Frames.length) x.Objs.length):=by
   rw[e];unfold Pc Bd;omega
  have p2:=m7 Z1 Z1 p1 (OS h2)
  have p3:=m7 Z1 Z1 p2 (sE x.Args h3)
  have p4:=fo Z1 p3 (Kw x.Frames _ h4)
  exact fo Z1 p4 (QM Z1 x.Objs _ h5)
theorem QL(l:List Lt.Instr)(b:Int)(h:∀v∈l,wg v)(h0:0<=b)(h1:b<=Bd 2):Pc 2 b (l.map gf).sum (n4 6000 l b):=by
 refine jt (n4 6000) (fun n x=>i64.wrap (n+eN x 6000)) gf (fun _=>rfl) (fun _ _ _=>rfl) wg (fun b x hx h0 h1=>?_) l b h h0 h1;have:=Nq (b:=b) (w:=0) (n:=b) Z1 h0 Z1 h1 (ze x hx)
 rwa [Xy]at this
theorem zd(x:Lt.Block)(h:we x):Pc 2 0 (di x) (eM x 6000):=by
 obtain⟨h1,h2,h3,h4,h5⟩:=h;unfold wd at h2;unfold short at h1 h2;unfold eM;split
 ·rw[jP Z1 Z1];unfold Pc Bd;omega
 ·have p1:Pc 2 0 (1+x.Name.length) (Lt.plus 1 x.Name.length):=by
   rw[gn Z1 Z1 Z1];unfold Pc Bd;omega
  have p2:=m7 Z1 Z1 p1 (OS h2)
  have p3:=fo Z1 p2 (Vp x.End.To _ h3)
  have p4:=fo Z1 p3 (QN x.Phis _ h4)
  exact fo Z1 p4 (QL x.Code _ h5)
theorem Kv(l:List Lt.Block)(b:Int)(h:∀v∈l,we v)(h0:0<=b)(h1:b<=Bd 3):Pc 3 b (l.map di).sum (lq 6000 l b):=by
 refine jt (lq 6000) (fun n x=>i64.wrap (n+eM x 6000)) di (fun _=>rfl) (fun _ _ _=>rfl) we (fun b x hx h0 h1=>?_) l b h h0 h1;have:=Nq (b:=b) (w:=0) (n:=b) Z1 h0 Z1 h1 (zd x hx)
 rwa [Xy]at this
theorem JJ(f:Lt.Func)(h:Jt f):Pc 3 0 (gS f) (lj f 6000):=by
 obtain⟨h1,h2,h3,h4,h5⟩:=h;unfold short at h1 h2;unfold lj;split
 ·rw[jP Z1 Z1];unfold Pc Bd;omega
 ·have p1:Pc 3 0 (1+f.Name.length) (Lt.plus 1 f.Name.length):=by
   rw[gn Z1 Z1 Z1];unfold Pc Bd;omega
  have p2:=m7 Z1 Z1 p1 (OS h2)
  have p3:=m7 Z1 Z1 p2 (ju f.Params h3)
  have p4:=m7 Z1 Z1 p3 (ju f.Vars h4)
  exact fo Z1 p4 (Kv f.Blocks _ h5)
theorem NF(l:List Lt.Func)(b:Int)(h:∀v∈l,Jt v)(h0:0<=b)(h1:b<=Bd 4):Pc 4 b (l.map gS).sum (lr 6000 l b):=by
 refine jt (lr 6000) (fun n x=>i64.wrap (n+lj x 6000)) gS (fun _=>rfl) (fun _ _ _=>rfl) Jt (fun b x hx h0 h1=>?_) l b h h0 h1;have:=Nq (b:=b) (w:=0) (n:=b) Z1 h0 Z1 h1 (JJ x hx)
 rwa [Xy]at this
theorem EQ{d:Nat}(hd:d < 9)(l:List Lt.Class)(b:Int)(h:∀v∈l,Gx v)(h0:0<=b)(h1:b<=Bd (d+1)):Pc (d+1) b (l.map sa).sum (iM 6000 l b):=by
 refine jt (iM 6000) (fun n c=>if Lt.plus n c.Name.length<=6000 then i64.wrap (Lt.plus n c.Name.length+ce c.Fields 6000)else Lt.plus n c.Name.length) sa (fun _=>rfl) (fun _ _ _=>rfl) Gx (fun b x hx h0 h1=>?_) l b h h0 h1;exact m7 hd h0 (Gc h0 h1 hx.1) (ju _ hx.2)
theorem ER{d:Nat}(l:List Lt.Extern)(b:Int)(h:∀v∈l,short v.Name)(h0:0<=b)(h1:b<=Bd d):Pc d b (l.map nT).sum (gE 6000 l b):=by
 refine jt (gE 6000) (fun n t=>Lt.plus (i64.wrap (n+1)) t.Name.length) nT (fun _=>rfl) (fun _ _ _=>rfl) (fun v=>short v.Name) (fun b x hx h0 h1=>?_) l b h h0 h1;exact Dg h0 h1 hx
theorem Td{p:Lt.Program}(h:PM p)(hf:Lt.Few p 6000=true):wx p<=6000/\p.Classes.length<=50:=by
 obtain⟨h1,h2,h3,h4⟩:=h;unfold Lt.Few at hf;split at hf
 ·cases hf
 ·rename_i hc;simp only[XB,decide_eq_true_eq,not_or]at hc;have p1:=ju (d:=4) p.Globals h2
  have p2:=fo Z1 p1 (EQ (d:=3) Z1 p.Classes _ h1)
  have p3:=fo Z1 p2 (ER p.Externs _ h3)
  have p4:=fo Z1 p3 (NF p.Funcs _ h4)
  simp only[decide_eq_true_eq]at hf;unfold Pc Bd at p4;unfold wx;omega
theorem lQ{α:Type}(w:α->Nat):∀(l:List α)(x:α),x∈l->w x<=(l.map w).sum
 |y::l,x,h=>by
  rw[List.map_cons,XR];rcases WR.1 h with rfl|h
  ·omega
  ·have:=lQ w l x h;omega
theorem gq{α:Type}(w:α->Nat)(h:∀x,1<=w x):∀l:List α,l.length<=(l.map w).sum
 |[]=>Xq _
 |y::l=>by
  have:=gq w h l
  have:=h y
  rw[List.map_cons,XR,WL];omega
theorem GG{α:Type}(g w:α->Nat)(h:∀x,g x<=w x):∀l:List α,(l.map g).sum<=(l.map w).sum
 |[]=>WN _
 |y::l=>by
  have:=GG g w h l
  have:=h y
  simp only[List.map_cons,XR];omega
theorem UV{p:Lt.Program}(h:wx p<=6000):LU p/\p.Funcs.length<=1000000:=by
 unfold wx at h;have hfl:=gq gS (fun f=>by unfold gS;omega) p.Funcs
 have hf:∀f∈p.Funcs,gS f<=6000:=fun f hf=>by
  have:=lQ gS p.Funcs f hf;omega
 refine⟨⟨fun f hm=>?_,fun f hm=>?_⟩,by omega⟩
 ·have:=hf f hm
  unfold gS qM at this;omega
 ·have h1:=hf f hm
  unfold gS qM at h1;have hbl:=gq di (fun b=>by unfold di;omega) f.Blocks
  have hb:∀b∈f.Blocks,di b<=6000:=fun b hb=>by
   have:=lQ di f.Blocks b hb;omega
  have hi:∀b∈f.Blocks,∀x∈b.Code,gf x<=6000:=fun b hbm x hx=>by
   have:=lQ gf b.Code x hx
   have h2:=hb b hbm
   unfold di at h2;omega
  refine⟨fun b hbm x hx=>?_,⟨by omega,fun b hbm=>?_⟩,by omega,fun b hbm=>?_,fun b hbm x hx=>?_⟩
  ·have h2:=hi b hbm x hx
   unfold gf qL at h2;omega
  ·have h2:=hb b hbm
   unfold di at h2;have:=gq wTo (fun t=>by unfold wTo;omega) b.End.To
   omega
  ·have h2:=hb b hbm
   unfold di at h2;have:=gq ww (fun t=>by unfold ww;omega) b.Phis
   have:=gq gf (fun t=>by unfold gf;omega) b.Code
   omega
  ·have h2:=hi b hbm x hx
   unfold gf qL at h2;have h3:=GG (fun f:Lt.Frame=>f.Vars.length) m8 (fun f=>by
    have:=gq yz (fun t=>by unfold yz;omega) f.Vars
    unfold m8;omega) x.Frames
   have h4:=GG (fun o:Lt.Virt=>o.Vals.length) DX (fun o=>by unfold DX qL;omega) x.Objs
   unfold fD P1;omega
theorem oc{α β:Type}(g:α->List β)(w:α->Nat)(k:Nat):∀(l:List α),(∀x∈l,(g x).length<=k*w x)->(l.flatMap g).length<=k*(l.map w).sum
 |[],_=>by simp
 |x::r,h=>by
  have h1:=h x (by simp)
  have h2:=oc g w k r (fun y hy=>h y (by simp[hy]))
  simp only[Xe,WM,List.map_cons,XR,Nat.mul_add];omega
theorem SO{α:Type}(w:α->Nat):∀(l:List α),(l.map fun x=>1+w x).sum=l.length+(l.map w).sum
 |[]=>by simp
 |x::r=>by
  have:=SO w r
  simp only[List.map_cons,XR,WL,this];omega
def lw(ws:List (List UInt8)):Nat:=(ws.map fun w=>w.length+1).sum
theorem dQ(a b:List (List UInt8)):lw (a++b)=lw a+lw b:=by simp[lw]
theorem cm(a:List UInt8)(b:List (List UInt8)):lw (a::b)=a.length+1+lw b:=by simp[lw]
theorem cN:lw []=0:=rfl
theorem TE:∀(ws:List (List UInt8))(b:Bool),(Lt.jw b ws).length<=lw ws
 |[],_=>by simp[Lt.jw]
 |w::r,b=>by
  have:=TE r true
  rw[Lt.jw,cm];simp only[WM];have:(if b=true then [32]else([]:List UInt8)).length<=1:=by split<;>simp
  omega
theorem j0(ws:List (List UInt8)):(Lt.lnT ws).length<=lw ws+1:=by
 have:=TE ws false
 simp only[Lt.lnT,WM,WL,WQ];omega
theorem qm{n:Int}(h:Lt.inR n):(ip n).length<=20:=vw h
theorem Cm:∀(k:Nat)(x:Int)(l:List UInt8),(zo k x l).length=k+l.length
 |0,_,_=>by simp[zo]
 |k+1,x,l=>by rw[zo,Cm k];simp;omega
theorem rX{a:Lt.Arg}(h:a.ok):(bK a).length<=a.S.length+25:=by
 have h1:=qm h
 have h2:(LX a.N).length=18:=by simp[LX,Cm]
 unfold bK
 repeat' split
 all_goals (try simp only[WL,WQ])
 all_goals omega
theorem Ox(n:Nat):(gw.getD n default).length<=10:=by
 have h:∀w∈gw,w.length<=10:=by decide
 rw[List.getD];cases hn:gw[n]? with
 |none=>simp;exact Xq _
 |some w=>
  simp only[Xb];exact h w (W9 hn)
theorem Sy(op:Int):(Lt.rOf op).1.Word.length<=10:=by
 unfold Lt.rOf;split
 ·simp
 ·exact Ox _
theorem lM(first:List UInt8)(hf:first.length<=6)(l:List Lt.Var):(gZ first l).length<=20*qM l:=by
 have:=oc (fun v:Lt.Var=>Lt.lnT [first,v.Name,v.Type_]) (fun v=>1+P4 v) 20 l (fun v _=>by
  have:=j0 [first,v.Name,v.Type_]
  simp only[cm,cN]at this;unfold P4;omega)
 rw[SO]at this;exact this
theorem yA{l:List Lt.Arg}(h:yX l):lw (l.map bK)<=30*qL l:=by
 induction l with
 |nil=>simp[lw]
 |cons a r ih=>
  have h1:=ih (fun x hx=>h x (WV _ hx))
  have h2:=rX (h a (by simp))
  simp only[qL,List.map_cons,XR,WL,cm,P3]at h1⊢;omega
theorem Bz{α:Type}(n:α->List UInt8)(a:α->Lt.Arg)(l:List α)(h:∀b∈l,(a b).ok):lw (l.flatMap fun b=>[n b,bK (a b)])<=30*(l.map fun b=>1+(n b).length+(a b).S.length).sum:=by
 induction l with
 |nil=>simp[lw]
 |cons b r ih=>
  have h1:=ih (fun x hx=>h x (WV _ hx))
  have h2:=rX (h b (by simp))
  simp only[Xe,dQ,cm,cN,List.map_cons,XR];omega
theorem K6{f:Lt.Frame}(h:f.ok)(hn:Lt.inR f.At):(Lt.lnT (eI f)).length<=40*(1+m8 f):=by
 have h1:=j0 (eI f)
 have h2:=Bz (fun b:Lt.Bind=>b.Name) (fun b=>b.A) f.Vars (fun b hb=>h.2 b hb)
 have h3:=qm hn
 simp only[eI,dQ,cm,cN,WL,WQ]at h1;unfold m8;have:(f.Vars.map yz).sum=(f.Vars.map fun b=>1+b.Name.length+b.A.S.length).sum:=rfl
 rw[this];simp only[eI];omega
theorem P2{o:Lt.Virt}(h:o.ok):(Lt.lnT (g8 o)).length<=40*(1+DX o):=by
 have h1:=j0 (g8 o)
 have h2:=yA (l:=o.Vals) h
 simp only[g8,dQ,cm,cN,WL,WQ]at h1;unfold DX;simp only[g8];omega
theorem GM{l:List Lt.Arg}:lw ((l.take 1).map bK)+lw ((l.drop 1).map bK)=lw (l.map bK):=by
 rw[<- dQ,<- XC,XX]
theorem N7{x:Lt.Instr}(h:x.ok)(hn:∀f∈x.Frames,Lt.inR f.At):(j8 x).length<=40*gf x:=by
 obtain⟨okA,okF,okO⟩:=h;have h1:=j0 (ja x)
 have h2:=yA okA
 have h3:=Sy x.Op
 have h4:=oc (fun f=>Lt.lnT (eI f)) (fun f=>1+m8 f) 40 x.Frames (fun f hf=>K6 (okF f hf) (hn f hf))
 have h5:=oc (fun o=>Lt.lnT (g8 o)) (fun o=>1+DX o) 40 x.Objs (fun o ho=>P2 (okO o ho))
 rw[SO]at h4 h5;have hh:lw (ql x)<=x.Dst.length+20:=by
  simp only[ql,dQ,cm,cN];split
  ·simp only[cm,cN,WL,WQ];omega
  ·simp only[cN];omega
 have hw:lw (ja x)<=x.Dst.length+x.Name.length+21+lw (x.Args.map bK):=by
  unfold ja;split
  ·have:=GM (l:=x.Args)
   simp only[dQ,cm,cN];omega
  ·simp only[dQ];split
   ·simp only[cm,cN];omega
   ·simp only[cN];omega
 simp only[j8,WM];unfold gf;omega
theorem UY(l:List (List UInt8)):lw l=(l.map wTo).sum:=by
 unfold lw wTo
 congr 1
 exact W1 (fun x _=>by omega)
theorem Le(n:Nat):(([[],[106,117,109,112],[98,114,97,110,99,104],[114,101,116],[116,114,97,112]]:List (List UInt8)).getD n default).length<=10:=by
 match n with
 |0=>decide
 |1=>decide
 |2=>decide
 |3=>decide
 |4=>decide
 |n+5=>simp;exact Xq _
theorem Rj{t:Lt.Term}(h:t.ok):(vV t).length<=70+t.A.S.length+(t.To.map wTo).sum:=by
 unfold vV;split
 ·simp
 ·have h1:=j0 (sP t)
  have h2:=rX h.1
  have h3:=qm h.2
  have h4:=Le t.Kind.toNat
  have h5:=UY t.To
  unfold sP at h1⊢;simp only[dQ,cm,cN]at h1;have h6:lw (if t.Kind=2\/t.Kind=3 then [bK t.A]else [])<=t.A.S.length+26:=by
   split
   ·simp only[cm,cN];omega
   ·simp only[cN];omega
  have h7:lw (if t.Kind=4 then [ip t.N]else [])<=21:=by
   split
   ·simp only[cm,cN];omega
   ·simp only[cN];omega
  omega
theorem Sm{x:Lt.Phi}(h:x.ok):(Lt.lnT (lY x)).length<=40*ww x:=by
 have h1:=j0 (lY x)
 have h2:=Bz (fun b:Lt.In=>b.Block) (fun b=>b.A) x.Ins (fun b hb=>h.2 b hb)
 simp only[lY,dQ,cm,cN,WL,WQ]at h1;unfold ww;have:(x.Ins.map wIn).sum=(x.Ins.map fun b=>1+b.Block.length+b.A.S.length).sum:=rfl
 rw[this];simp only[lY];omega
theorem Ko{b:Lt.Block}(h:b.ok)(hn:∀i∈b.Code,∀f∈i.Frames,Lt.inR f.At):(im b).length<=100*di b:=by
 have h1:=j0 [[98,108,111,99,107],b.Name]
 simp only[cm,cN,WL,WQ]at h1;have h2:=oc (fun x=>Lt.lnT (lY x)) ww 40 b.Phis (fun x hx=>Sm (h.1 x hx))
 have h3:=oc j8 gf 40 b.Code (fun x hx=>N7 (h.2.1 x hx) (hn x hx))
 have h4:=Rj h.2.2
 simp only[im,WM];unfold di;omega
theorem Ot{f:Lt.Func}(h:f.ok)(hn:∀b∈f.Blocks,∀i∈b.Code,∀r∈i.Frames,Lt.inR r.At):(lL f).length<=100*gS f:=by
 have h1:=j0 [[102,117,110,99],f.Name,f.Result]
 simp only[cm,cN,WL,WQ]at h1;have h2:=oc im di 100 f.Blocks (fun x hx=>Ko (h x hx) (hn x hx))
 have h3:=lM [112,97,114,97,109] (by decide) f.Params
 have h4:=lM [118,97,114] (by decide) f.Vars
 simp only[lL,WM];unfold gS;omega
theorem KT(c:Lt.Class):(io c).length<=20*(1+sa c):=by
 have h1:=j0 [[99,108,97,115,115],c.Name]
 simp only[cm,cN,WL,WQ]at h1;have h3:=lM [102,105,101,108,100] (by decide) c.Fields
 simp only[io,WM];unfold sa;omega
theorem E1{c:Lt.Extern}(h:Lt.inR c.N):(i9 c).length<=40*nT c:=by
 have h1:=j0 [[101,120,116,101,114,110],c.Name,ip c.N]
 have h2:=qm h
 simp only[cm,cN,WL,WQ]at h1;simp only[i9];unfold nT;omega
theorem Qj{p:Lt.Program}(hs:PM p)(h:p.ok)(he:∀e∈p.Externs,Lt.inR e.N)(hn:∀f∈p.Funcs,∀b∈f.Blocks,∀i∈b.Code,∀r∈i.Frames,Lt.inR r.At)(hf:Lt.Few p 6000=true):(mT p).length<=Lt.room:=by
 obtain⟨hw,hc⟩:=Td hs hf;have h1:=oc io (fun c=>1+sa c) 20 p.Classes (fun c _=>KT c)
 rw[SO]at h1;have h2:=oc i9 nT 40 p.Externs (fun x hx=>E1 (he x hx))
 have h3:=oc lL gS 100 p.Funcs (fun x hx=>Ot (h x hx) (hn x hx))
 have h4:=lM [103,108,111,98,97,108] (by decide) p.Globals
 have h5:(if p.SSA=true then Lt.lnT [[115,115,97]]else []).length<=10:=by split<;>decide
 unfold wx at hw;unfold mT Lt.room;simp only[WM];omega
theorem SW{p:Lt.Program}(h:wx p<=6000):cc p:=by
 obtain⟨⟨h1,h2⟩,_⟩:=UV h;refine⟨h1,fun f hm=>?_⟩;obtain⟨a,b,c,d,e⟩:=h2 f hm;have hf:gS f<=6000:=by unfold wx at h;have:=lQ gS p.Funcs f hm;omega
 have hbl:f.Blocks.length<=6000:=by
  have:=gq di (fun b=>by unfold di;omega) f.Blocks
  unfold gS at hf;omega
 refine⟨a,⟨hbl,fun b' hb=>?_⟩,⟨by omega,d⟩,b,c,d,e⟩;have h3:di b'<=6000:=by have:=lQ di f.Blocks b' hb;unfold gS at hf;omega
 have h4:=gq wTo (fun t=>by unfold wTo;omega) b'.End.To
 unfold di at h3;refine⟨by omega,(d b' hb).1,fun x hx=>?_⟩;have h5:=lQ ww b'.Phis x hx
 have h6:=gq wIn (fun t=>by unfold wIn;omega) x.Ins
 have h7:x.Ins.length<=ww x:=by unfold ww;omega
 omega
end Go.Am
end
