/-
  Part 19: AmRd · AmCl14 · AmKC · AmCl14b · AmNiceS · AmNice40 · AmNiceX · AmNice45 · AmG42 · AmG2 · AmG41 · AmG40 · AmL40 · AmL41 · AmL42.
-/
import Derived.Test.YthhkhcolidkemaaGreatDoorCs18
import Derived.MapFrom
set_option linter.unusedSimpArgs false
set_option linter.unusedVariables false
set_option linter.unusedSectionVars false
set_option linter.unnecessarySimpa false
open Lt
open Go.Proofs.Tryz
open Go.IntKind (i64)
section
namespace Go.Am
open Go Go.RowKit Go.Proofs Go.MapKept
def uJ(w:a8)(df:Nat):List (a8×Nat)->Nat
 |[]=>df
 |(w0,f)::r=>if decide (w=w0)=true then f else uJ w df r
theorem Br(w:a8)(K:Nat->Prop)(df:Nat):∀a,swP w K df a=K (uJ w df a)
 |[]=>rfl
 |(w0,f)::r=>by
  rw[swP,uJ,Br w K df r]
  grind
variable{clock:Nat}{es:Array MapEntry}{et kt mt:TypeId}
section
variable {P:Program}
theorem YJ{o:Oper}{a:Act}{next:Act->World->Prop}{Q:Exit->Act->World->Prop}{r:Nat}{k:ByteArray}{v:Value}{w:World}
  (hm:P.underlying mt=some (.map kt et)) (hd:P.underlying kt=some .string) (hb:w.heap[r]? = some (.map es clock)) (hf:Instr.findNow .string (.string k) es.toList 0=some none)
  (h:∀w2,w2.heap[r]? = some (.map (es.push { key:=.string k,val:=v,born:=clock }) (clock+1))->Below r w w2->next (a.put o.dst undef) w2) :
  o.upon P a next Q (((Instr.mapUpdate mt (.map (some r)) (.string k) v).run P w).andThen fun _ w'=>.ok Next.skip w'):=by
 have b:(Instr.mapUpdate mt (.map (some r)) (.string k) v).run P w=.ok () { w with heap:=w.heap.setIfInBounds r (.map (es.push { key:=.string k,val:=v,born:=clock }) (clock+1)) }:=by
  simp[Instr.mapUpdate,run_underlying hm,MapKept.run_getObj_map hb,run_checkKey hd (k:=.string k) trivial,run_findKey hd hf,run_setObj_map _ hb,Result.andThen]
 rw[b];exact h _ (heap_set hb).1 ⟨rfl,rfl,rfl,by simp,fun j hj=>(heap_set hb).2 j kQ1⟩
theorem IY(s:ByteArray):∀(es:List MapEntry)(a:List (a8×Nat))(i:Nat),es.map (fun e=>(e.key,e.val))=a.map (fun x=>(Value.string ⟨x.1.toArray⟩,Value.func (.func x.2) #[] #[])) ->
  (∃x∈a,(∃j,Instr.findNow .string (.string s) es i=some (some (j,.func (.func x.2) #[] #[])))/\∀df,uJ s.data.toList df a=x.2)\/(Instr.findNow .string (.string s) es i=some none/\∀df,uJ s.data.toList df a=df)
 |[],[],i,_=>.inr ⟨rfl,fun _=>rfl⟩
 |[],_::_,i,h=>by simp at h
 |_::_,[],i,h=>by simp at h
 |e::es,(k,f)::a,i,h=>by
  obtain⟨d,ev,c⟩:=e;simp only[List.map_cons,List.cons.injEq,Prod.mk.injEq]at h;obtain⟨⟨rfl,rfl⟩,h⟩:=h;unfold Instr.findNow;simp only[Instr.sameNow];by_cases hc:s=⟨k.toArray⟩
  ·have b:(s==⟨k.toArray⟩)=true:=(bytes_beq _ _).2 hc
   simp_all[uJ]
  have b:(s==⟨k.toArray⟩)=false:=by
   grind [bytes_beq]
  rw[b];have g:¬ s.data.toList=k:=by
   rintro rfl
   grind
  rcases IY s es a (i+1) h with⟨x,hx,hj,hp⟩|⟨h1,h2⟩
  all_goals grind [uJ]
theorem KR{r:Nat}{s:ByteArray}{w:World}(hm:P.underlying mt=some (.map kt et))(hd:P.underlying kt=some .string)(a:(zeroValue et).run P w=.ok .nilFunc w)
  (hb:w.heap[r]? = some (.map es clock)) {x:Option (Nat×Value)} (hf:Instr.findNow .string (.string s) es.toList 0=some x) :
  (Instr.lookup mt (.map (some r)) (.string s) false).run P w=.ok (match x with|some (_,v)=>v|none=>.nilFunc) w:=by
 cases x with
 |none=>simp[Instr.lookup,run_underlying hm,MapKept.run_getObj_map hb,run_checkKey hd (k:=.string s) trivial,run_findKey hd hf,a,Result.andThen]
 |some y=>obtain⟨j,v⟩:=y;simp[Instr.lookup,run_underlying hm,MapKept.run_getObj_map hb,run_checkKey hd (k:=.string s) trivial,run_findKey hd hf,Result.andThen]
end
variable{a b:Array Value}{ps rs:Array TypeId}{t:TypeId}{va:Bool}
theorem aaG{P:Program}{f:Fn}(h:P.underlying t=some (.func ps rs va))(w:World):(Op.equal t (.func f a b) .nilFunc).run P w=.ok false w:=by
 unfold Op.equal Op.maxDepth;rw[show(10000:Nat)=9999+1 from rfl];unfold Op.equalIn;simp only[Sem.run_bind,run_underlying h,Result.andThen];rfl
theorem Mx{P:Program}(h:P.underlying t=some (.func ps rs va))(w:World):(Op.equal t .nilFunc .nilFunc).run P w=.ok true w:=by
 unfold Op.equal Op.maxDepth;rw[show(10000:Nat)=9999+1 from rfl];unfold Op.equalIn;simp only[Sem.run_bind,run_underlying h,Result.andThen];rfl
theorem XC{P:Program}{f:Fn}(h:P.underlying t=some (.func ps rs va))(w:World):(binOp .neq t (.func f a b) .nilFunc).run P w=.ok (.bool true) w:=by
 show(do pure (.bool (!(<- Op.equal t (.func f a b) .nilFunc))):Sem Value).run P w=_
 simp only[Sem.run_bind,aaG h,Result.andThen];rfl
theorem Kn{P:Program}(h:P.underlying t=some (.func ps rs va))(w:World):(binOp .neq t .nilFunc .nilFunc).run P w=.ok (.bool false) w:=by
 show(do pure (.bool (!(<- Op.equal t .nilFunc .nilFunc))):Sem Value).run P w=_
 simp only[Sem.run_bind,Mx h,Result.andThen];rfl
theorem aeI{a:Array MapEntry}{b:Nat}{f:Option Obj}(hb:f=some (.map a b)){L:List (Value×Value)}(d:a.toList.map (fun e=>(e.key,e.val))=L):∃es c,f=some (.map es c)/\es.toList.map (fun e=>(e.key,e.val))=L:=⟨a,b,hb,d⟩
def TI:List (a8×Nat):=[([115,115,97],132),([99,108,97,115,115],133),([102,105,101,108,100],134),([103,108,111,98,97,108],135),([101,120,116,101,114,110],136),([102,117,110,99],137),([112,97,114,97,109],138),([118,97,114],139),([98,108,111,99,107],140),([112,104,105],141),([97,116],142),([111,98,106],143),([106,117,109,112],144),([98,114,97,110,99,104],144),([114,101,116],144),([116,114,97,112],144)]
set_option maxRecDepth 100000 in
theorem FC(s:ByteArray)(w:World) :
  Calls prog 78 #[.string s] w fun e w'=>e=.returned (.func (.func (uJ s.data.toList 79 TI)) #[] #[])/\Below w.heap.size w w':=by
 have hmm:=@run_makeMap prog
 have hm:=underlying199
 have hd:=underlying9
 have f:∀w,(zeroValue 132).run prog w=.ok .nilFunc w:=zeroValue132
 have hb:(w.alloc (.map #[] 0)).heap[w.heap.size]? = some (.map #[] 0):=(heap_alloc w _).1
 have d:Below w.heap.size w (w.alloc (.map #[] 0)):=(Below.refl _ w).alloc (ajB _) _
 go_enter func78,Tryz.ntmps78
 go_wp2
 iterate 16
  refine YJ hm hd hb (by rfl) (fun w2 b a=>?_)
  replace d:=d.trans a
  replace hb:=b
  clear a b
  go_wp2
 obtain⟨es,c,hb,g⟩:=aeI hb (L:=TI.map (fun x=>(Value.string ⟨x.1.toArray⟩,Value.func (.func x.2) #[] #[]))) (by rfl);rcases IY s es.toList TI 0 g with⟨x,hx,⟨j,hj⟩,hp⟩|⟨h1,hp⟩
 ·rw[KR hm hd (f _) hb hj];simp only[Result.andThen];rw[Oper.upon_value]
  go_wp2
  rw[XC underlying132];simp only[Result.andThen];rw[Oper.upon_value]
  go_wp2
  go_ret
  simp_all
 rw[KR hm hd (f _) hb h1];simp only[Result.andThen];rw[Oper.upon_value]
 go_wp2
 rw[Kn underlying132];simp only[Result.andThen];rw[Oper.upon_value]
 go_wp2
 go_ret
 simp_all
theorem afC{v:At}{x:a8}(h:cC [.s] [v]=some x):v.noRf=true/\v.toV.isFz=true/\v.toV.map T.canon=.one (.c (.d (.str x))):=by
 obtain⟨h1,h2,h3⟩:=kL h;refine⟨by grind,by grind,?_⟩;have:[v.toV.map T.canon]=[AV.one (.c (.d (.str x)))]:=h3
 grind
def sf:CKt:=swT TI 79
theorem Mr:Cont prog 78 sf:=by
 refine⟨mj (fn:=f78) kQ0 (by rfl) (by rfl),fun pk s ops k k' hk hc=>?_,fun g pk s a w H γ F1 ops k z u hc=>?_⟩
 ·unfold sf swT at hc⊢
  grind [Br,d9]
 unfold sf swT at hc;dsimp only at hc;obtain⟨H1,n,h1⟩:=iE (ops.map (evA s)) s H F1 z;generalize cN s (ops.map (evA s))=s1 at hc h1;split at hc
 ·rename_i x hx;rw[Br]at hc
  match ops,hx with
  |[],hx=>grind [cC]
  |[o],hx=>
   obtain⟨_,A,p⟩:=afC hx;have hop:aF o=true:=by grind
   have hv:=aH h1 hop
   rw[aj hop]at hv;have l:=iC fe (wK (w':=w) (γ':=γ) (m':=[]) (fun _ _ _ h=>h) A hv)
   rw[p]at l;obtain⟨B,_⟩:=lH l;show Calls _ _ #[a.eval o] w _
   rw[B];refine(FC ⟨x.toArray⟩ w).mono ?_;rintro e w' ⟨rfl,hb⟩
   rw[qJ];have d:∀b,tot n s1.toS.m b≠0->w'.heap[b]? = w.heap[b]? := fun b c=>hb.block b (h1.mem.lt b c)
   have j:=fa (w':=w') h1.mem d
   have f:Mem w' H1 γ s1.toS.m n:=by
    refine⟨fun b o y hy=>?_,fun x hx=>aZ j (fun _ _ _ h=>h) rfl (fun b c=>d b (by grind [bC])) (h1.mem.roots x hx),h1.mem.keys,h1.mem.le1,fun b c=>by have:=h1.mem.lt b c;grind,h1.mem.nofz⟩;have r:b<w.heap.size:=(h1.mem.agree b o y hy).lt
    exact(h1.mem.agree b o y hy).frame (hb.block b r)
   have q:Fr w H1 (tot n s1.toS.m) w' H1 (tot n s1.toS.m):=
    ⟨hb.size,hb.os,hb.tape,hb.output,fun b c _=>hb.block b c,fun _ _ _ h=>h,fun b o h2 h3=>absurd h3 h2,fun b hb=>.inl hb,fun b h0=>h0.of_block (hb.block b h0.lt),oF.2⟩
   exact .inl ⟨_,s1,sct (.v (.func (.func (uJ x 79 TI)) #[] #[])),H1,γ,n,rfl,hc,⟨fun _=>rfl,0,rfl,rfl⟩,jS h1 f q (fun i=>dp j (fun _ _ _ h=>h) (h1.t i)) (fun _=>rfl)⟩
  |_::_::_,hx=>grind [cC]
 grind
end Go.Am
end

section
namespace Go.Am
open Go Go.Proofs
set_option maxRecDepth 100000
def eU:Ut:=[(58,(.st .Class)),(95,(.st .Var)),(60,(.st .Extern)),(36,(.st .Func)),(49,(.st .Block)),(88,(.st .Phi)),(54,(.st .Instr)),(9,.s),(44,(.st .Arg)),(147,(.st .Frame)),(151,(.st .Virt)),(64,(.st .Asked)),(79,(.st .Line)),(5,.b8),(90,(.st .In)),(4,.bo),(118,(.mp .s .bo)),(3,(.i .i64)),(149,(.st .Bind)),(134,(.sl (.i .i64))),(182,(.st .RLine)),(255,(.st .step))]
def eS:List (TypeId×List Sh):=[(27,[.fr,.ow [.fr,.ow [.fr,.fr]],.ow [.fr,.fr],.ow [.fr,.fr],.ow [.fr,.fr,.ow [.fr,.fr],.ow [.fr,.fr],.ow [.fr,.ow [.fr,.fr],.ow [.fr,.fr,.fr,.fr,.ow [.fr,.fr,.fr,.fr],.ow [.fr,.fr]],.fr,.fr,.fr,.fr,.fr,.fr]]]),(36,[.fr,.fr,.ow [.fr,.fr],.ow [.fr,.fr],.ow [.fr,.ow [.fr,.fr],.ow [.fr,.fr,.fr,.fr,.ow [.fr,.fr,.fr,.fr],.ow [.fr,.fr]],.fr,.fr,.fr,.fr,.fr,.fr]]),(49,[.fr,.ow [.fr,.fr],.ow [.fr,.fr,.fr,.fr,.ow [.fr,.fr,.fr,.fr],.ow [.fr,.fr]],.fr,.fr,.fr,.fr,.fr,.fr]),(54,[.fr,.fr,.fr,.fr,.ow [.fr,.fr,.fr,.fr],.ow [.fr,.fr]]),(58,[.fr,.ow [.fr,.fr]]),(73,[.fr,.ow [.fr,.ow [.fr,.fr]],.ow [.fr,.fr],.ow [.fr,.fr],.ow [.fr,.fr,.ow [.fr,.fr],.ow [.fr,.fr],.ow [.fr,.ow [.fr,.fr],.ow [.fr,.fr,.fr,.fr,.ow [.fr,.fr,.fr,.fr],.ow [.fr,.fr]],.fr,.fr,.fr,.fr,.fr,.fr]],.fr,.fr,.fr,.fr]),(74,[.fr,.ow [.fr,.ow [.fr,.fr]],.ow [.fr,.fr],.ow [.fr,.fr],.ow [.fr,.fr,.ow [.fr,.fr],.ow [.fr,.fr],.ow [.fr,.ow [.fr,.fr],.ow [.fr,.fr,.fr,.fr,.ow [.fr,.fr,.fr,.fr],.ow [.fr,.fr]],.fr,.fr,.fr,.fr,.fr,.fr]],.fr,.fr,.fr,.fr]),(157,[.fr,.ow [.fr,.ow [.fr,.fr]],.ow [.fr,.fr],.ow [.fr,.fr],.ow [.fr,.fr,.ow [.fr,.fr],.ow [.fr,.fr],.ow [.fr,.ow [.fr,.fr],.ow [.fr,.fr,.fr,.fr,.ow [.fr,.fr,.fr,.fr],.ow [.fr,.fr]],.fr,.fr,.fr,.fr,.fr,.fr]],.fr,.fr,.fr,.fr,.ow [.fr,.fr,.fr,.fr],.ow [.fr,.fr],.fr,.fr]),(158,[.fr,.ow [.fr,.ow [.fr,.fr]],.ow [.fr,.fr],.ow [.fr,.fr],.ow [.fr,.fr,.ow [.fr,.fr],.ow [.fr,.fr],.ow [.fr,.ow [.fr,.fr],.ow [.fr,.fr,.fr,.fr,.ow [.fr,.fr,.fr,.fr],.ow [.fr,.fr]],.fr,.fr,.fr,.fr,.fr,.fr]],.fr,.fr,.fr,.fr,.ow [.fr,.fr,.fr,.fr],.ow [.fr,.fr],.fr,.fr]),(179,[.fr,.ow [.fr,.ow [.fr,.fr]],.ow [.fr,.fr],.ow [.fr,.fr],.ow [.fr,.fr,.ow [.fr,.fr],.ow [.fr,.fr],.ow [.fr,.ow [.fr,.fr],.ow [.fr,.fr,.fr,.fr,.ow [.fr,.fr,.fr,.fr],.ow [.fr,.fr]],.fr,.fr,.fr,.fr,.fr,.fr]],.fr,.fr]),(180,[.fr,.ow [.fr,.ow [.fr,.fr]],.ow [.fr,.fr],.ow [.fr,.fr],.ow [.fr,.fr,.ow [.fr,.fr],.ow [.fr,.fr],.ow [.fr,.ow [.fr,.fr],.ow [.fr,.fr,.fr,.fr,.ow [.fr,.fr,.fr,.fr],.ow [.fr,.fr]],.fr,.fr,.fr,.fr,.fr,.fr]],.fr,.fr])]
abbrev eP:List (TypeId×List Sh):=[(134,[.ow [.fr]])]
abbrev shR:List Sh:=[.fr,.ow [.fr,.ow [.fr,.fr]],.ow [.fr,.fr],.ow [.fr,.fr],.ow [.fr,.fr,.ow [.fr,.fr],.ow [.fr,.fr],.ow [.fr,.ow [.fr,.fr],.ow [.fr,.fr,.fr,.fr,.ow [.fr,.fr,.fr,.fr],.ow [.fr,.fr]],.fr,.fr,.fr,.fr,.fr,.fr]],.fr,.fr,.fr,.fr]
noncomputable def x75:Cl 75:=⟨fnB [.s,.s] [.sl .s] (fun x=>decide (x.1.length < 4294967281)&&decide (1<=x.2.length)) (fun x=>EG x.1 x.2),_,zR (fun x h=>by simp only[ai9,decide_eq_true_eq]at h;exact h),VT⟩
noncomputable def x76:Cl 76:=⟨fnB [.s,.s] [.s,.s,.bo] (fun x=>decide (x.1.length < 4294967281)) (fun x=>ahL x.1 x.2),_,zR (fun x h=>of_decide_eq_true h),ae5⟩
noncomputable def aiK:Cl 131:=clL eU eP [] 80 f131 [.b8] [.bo]
noncomputable def x77:Cl 77:=clP eU eP [⟨_,aiK⟩] 80 f77 [.s] [.sl .s,.bo]
noncomputable def x35:Cl 35:=clP eU eP [⟨_,x75⟩,⟨_,x76⟩,⟨_,x77⟩] 80 f35 [.s] [(.sl (.st .Line)),.i .i64,.i .i64]
noncomputable def x80:Cl 80:=clN eU eS [] 80 f80
noncomputable def aiL:Cl 132:=clM eU eS [⟨_,x80⟩] 80 f132 [.sl .s] [] shR (.st .Reader)
noncomputable def x81:Cl 81:=clL eU eS [] 80 f81 [(.sl (.i .i64)),.i .i64] [.bo]
noncomputable def x38:Cl 38:=clN eU eS [⟨_,x81⟩,⟨_,x80⟩] 80 f38
noncomputable def x89:Cl 89:=clL eU eP [] 80 f89 [.b8] [.bo]
noncomputable def x90:Cl 90:=clL eU eP [] 80 f90 [.s] [.bo]
noncomputable def x91:Cl 91:=clL eU eP [] 80 f91 [.b8] [.bo]
noncomputable def x47:Cl 47:=clL eU eP [⟨_,x89⟩,⟨_,x90⟩,⟨_,x91⟩] 80 f47 [.s] [.bo]
noncomputable def wI:Cl 145:=clL eU eS [⟨_,x47⟩,⟨_,x80⟩] 80 f145 [.s] [.s]
noncomputable def xQ:Cl 190:=clN eU eS [] 80 f190
noncomputable def aiM:Cl 133:=clM eU eS [⟨_,x38⟩,⟨_,x80⟩,⟨_,wI⟩,⟨_,xQ⟩] 80 f133 [.sl .s] [] shR (.st .Reader)
noncomputable def YT:Cl 191:=clL eU eS [⟨_,x47⟩,⟨_,x80⟩] 80 f191 [.s] [.s]
noncomputable def aiN:Cl 134:=clM eU eS [⟨_,x38⟩,⟨_,x80⟩,⟨_,wI⟩,⟨_,YT⟩,⟨_,xQ⟩] 80 f134 [.sl .s] [] shR (.st .Reader)
noncomputable def aiO:Cl 135:=clM eU eS [⟨_,x38⟩,⟨_,x80⟩,⟨_,wI⟩,⟨_,YT⟩,⟨_,xQ⟩] 80 f135 [.sl .s] [] shR (.st .Reader)
noncomputable def ai2:Cl 233:=clF [.i .i64] [.s] (fun _=>[49]) (fun x=>decide (x=(1:Int))) (fun x h=>of_decide_eq_true h) ae7
noncomputable def ac0:Cl 197:=clL eU eP [⟨_,ai2⟩] 80 f197 [.s] [.i .i64,.bo]
noncomputable def ah6:Cl 192:=clL eU eS [⟨_,ac0⟩,⟨_,x80⟩] 80 f192 [.s,.i .i64,.i .i64] [.i .i64]
noncomputable def aiP:Cl 136:=clM eU eS [⟨_,x38⟩,⟨_,x80⟩,⟨_,wI⟩,⟨_,ah6⟩,⟨_,xQ⟩] 80 f136 [.sl .s] [] shR (.st .Reader)
noncomputable def aiQ:Cl 137:=clM eU eS [⟨_,x38⟩,⟨_,x80⟩,⟨_,wI⟩,⟨_,YT⟩,⟨_,xQ⟩] 80 f137 [.sl .s] [] shR (.st .Reader)
noncomputable def acY:Cl 193:=clN eU eS [] 80 f193
noncomputable def aiR:Cl 138:=clM eU eS [⟨_,x38⟩,⟨_,x80⟩,⟨_,wI⟩,⟨_,YT⟩,⟨_,acY⟩,⟨_,xQ⟩] 80 f138 [.sl .s] [] shR (.st .Reader)
noncomputable def aiS:Cl 139:=clM eU eS [⟨_,x38⟩,⟨_,x80⟩,⟨_,wI⟩,⟨_,YT⟩,⟨_,acY⟩,⟨_,xQ⟩] 80 f139 [.sl .s] [] shR (.st .Reader)
noncomputable def aiZ:Cl 194:=clN eU eS [] 80 f194
noncomputable def aiT:Cl 140:=clM eU eS [⟨_,aiZ⟩,⟨_,x80⟩,⟨_,wI⟩,⟨_,acY⟩,⟨_,xQ⟩] 80 f140 [.sl .s] [] shR (.st .Reader)
noncomputable def ai6:Cl 264:=⟨fnB [.s,.s] [.s,.bo] (fun _=>true) (fun x=>adM x.1 x.2),_,WG,ZN⟩
noncomputable def ai7:Cl 265:=⟨fnB [.s,.b8] [.i .i64] (fun _=>true) (fun x=>WL x.1 x.2),_,WG,VS⟩
noncomputable def ai4:Cl 247:=clL eU eP [] 80 f247 [.i .i64] [.i .i64]
noncomputable def ai5:Cl 252:=clL eU eP [⟨_,ai6⟩,⟨_,ai7⟩,⟨_,ai4⟩] 80 f252 [.s] [.i .i64,.bo]
noncomputable def ai3:Cl 245:=clP eU eP [⟨_,ai5⟩,⟨_,ac0⟩] 80 f245 [.s] [.st .Arg,.bo]
noncomputable def ai1:Cl 232:=clP eU eP [⟨_,x47⟩,⟨_,ac0⟩,⟨_,ai3⟩] 80 f232 [.s] [.st .Arg,.bo]
noncomputable def acZ:Cl 195:=clP eU eS [⟨_,ai1⟩,⟨_,x80⟩] 80 f195 [.s,.bo] [.st .Arg]
noncomputable def ah5:Cl 149:=clN eU eS [⟨_,xQ⟩] 80 f149
noncomputable def acX:Cl 150:=clN eU eS [⟨_,acY⟩] 80 f150
noncomputable def aiU:Cl 141:=clM eU eS [⟨_,x38⟩,⟨_,x80⟩,⟨_,wI⟩,⟨_,acZ⟩,⟨_,xQ⟩,⟨_,ah5⟩,⟨_,acX⟩] 80 f141 [.sl .s] [] shR (.st .Reader)
noncomputable def ah7:Cl 196:=clN eU eS [⟨_,acX⟩] 80 f196
noncomputable def aiV:Cl 142:=clM eU eS [⟨_,x38⟩,⟨_,x80⟩,⟨_,wI⟩,⟨_,ah6⟩,⟨_,acZ⟩,⟨_,xQ⟩,⟨_,ah7⟩] 80 f142 [.sl .s] [] shR (.st .Reader)
noncomputable def ah4:Cl 148:=clP eU eS [⟨_,acZ⟩] 80 f148 [.sl .s,.bo] [(.sl (.st .Arg))]
noncomputable def aiW:Cl 143:=clM eU eS [⟨_,x38⟩,⟨_,x80⟩,⟨_,wI⟩,⟨_,ah4⟩,⟨_,ah7⟩,⟨_,xQ⟩] 80 f143 [.sl .s] [] shR (.st .Reader)
noncomputable def aiX:Cl 144:=clM eU eS [⟨_,x38⟩,⟨_,x80⟩,⟨_,wI⟩,⟨_,acZ⟩,⟨_,ac0⟩,⟨_,acX⟩] 80 f144 [.sl .s] [] shR (.st .Reader)
noncomputable def ai0:Cl 198:=clL eU eS [] 80 f198 [.s,.i .i64] [.s]
noncomputable def ah3:Cl 147:=clP eU eS [⟨_,ai0⟩] 80 f147 [.i .i64] [.st .Form,.bo]
noncomputable def aiY:Cl 146:=clL eU eS [⟨_,ah3⟩] 80 f146 [.s] [.i .i64,.bo]
noncomputable def x79:Cl 79:=clM eU eS [⟨_,x38⟩,⟨_,wI⟩,⟨_,aiY⟩,⟨_,x80⟩,⟨_,ah3⟩,⟨_,ah4⟩,⟨_,ah5⟩,⟨_,acX⟩] 80 f79 [.sl .s] [] shR (.st .Reader)
noncomputable def x78:Cl 78:=⟨swB TI 79,_,agF,Mr⟩
noncomputable def x37:Cl 37:=clM eU eS [⟨_,x78⟩,⟨_,aiL⟩,⟨_,aiM⟩,⟨_,aiN⟩,⟨_,aiO⟩,⟨_,aiP⟩,⟨_,aiQ⟩,⟨_,aiR⟩,⟨_,aiS⟩,⟨_,aiT⟩,⟨_,aiU⟩,⟨_,aiV⟩,⟨_,aiW⟩,⟨_,aiX⟩,⟨_,x79⟩] 80 f37 [.sl .s] [] shR (.st .Reader)
noncomputable abbrev lParse:ClS:=[⟨_,x35⟩,⟨_,x37⟩,⟨_,x38⟩]
abbrev ahZ:a8:=[102,117,110,99,32,102,32,105,110,116,10,112,97,114,97,109,32,107,32,105,110,116,10,98,108,111,99,107,32,97,10,114,101,116,32,107,10]
abbrev ahJ:Lt.Func:=⟨[102],[105,110,116],[⟨[107],[105,110,116]⟩],[],[⟨[97],[],[],⟨3,⟨1,[107],0⟩,[],0⟩⟩]⟩
abbrev xO:Lt.Program:=⟨false,[],[],[],[ahJ]⟩
theorem ta0:Em 80 (clE eU eS lParse) f13 (kLs 4 (f13.body.getD .skip)) (kRs (4+1) (f13.body.getD .skip)) [.s] [.st .Program,.i .i64,.i .i64] ahZ (fun y=>decide (y=(xO,0,0)))=true:=kQ0
abbrev ah0:a8:=[102,117,110,99,32,102,32,105,110,116,10,118,97,114,32,120,32,105,110,116,10,98,108,111,99,107,32,97,10,114,101,116,32,120,10]
abbrev aaO:Lt.Func:=⟨[102],[105,110,116],[],[⟨[120],[105,110,116]⟩],[⟨[97],[],[],⟨3,⟨1,[120],0⟩,[],0⟩⟩]⟩
abbrev uM:Lt.Program:=⟨false,[],[],[],[aaO]⟩
theorem ta1:Em 80 (clE eU eS lParse) f13 (kLs 4 (f13.body.getD .skip)) (kRs (4+1) (f13.body.getD .skip)) [.s] [.st .Program,.i .i64,.i .i64] ah0 (fun y=>decide (y=(uM,0,0)))=true:=kQ0
abbrev ah1:a8:=[102,117,110,99,32,102,32,105,110,116,10,98,108,111,99,107,32,97,10,114,101,116,32,49,10,98,108,111,99,107,32,98,10,114,101,116,32,49,10]
abbrev ahK:Lt.Func:=⟨[102],[105,110,116],[],[],[⟨[97],[],[],⟨3,⟨2,[],1⟩,[],0⟩⟩,⟨[98],[],[],⟨3,⟨2,[],1⟩,[],0⟩⟩]⟩
abbrev wt:Lt.Program:=⟨false,[],[],[],[ahK]⟩
theorem ta2:Em 80 (clE eU eS lParse) f13 (kLs 4 (f13.body.getD .skip)) (kRs (4+1) (f13.body.getD .skip)) [.s] [.st .Program,.i .i64,.i .i64] ah1 (fun y=>decide (y=(wt,0,0)))=true:=by kernel_rfl
set_option maxRecDepth 100000
variable{P:Program}{f:Nat}{u:Ut}{α:Type}
section
structure Ev (sh:List (TypeId×List Sh)) where
 cs:CTt
 ok:En.ok ⟨prog,eU,cs,sh,noP⟩
structure Cb (f:Nat) where
 C:CKt
 ok:Cont prog f C
structure Kb (f:Nat) where
 C:CKt
 ok:ContC prog f C
noncomputable abbrev Ev.en{sh:List (TypeId×List Sh)}(E:Ev sh):En:=⟨prog,eU,E.cs,sh,noP⟩
theorem En.ok0{sh:List (TypeId×List Sh)}{pk:PKt}:En.ok ⟨P,u,[],sh,pk⟩:=fun _ h=>by cases h
theorem En.okc{sh:List (TypeId×List Sh)}{pk:PKt}{C:CKt}{cs:CTt}(h:Cont P f C)(hs:En.ok ⟨P,u,cs,sh,pk⟩)(hf:Nat.blt f 1000000=true):En.ok ⟨P,u,(f,C)::cs,sh,pk⟩:=by
 intro x hx;rcases ajI.1 hx with rfl|hx
 ·exact⟨fun _=>h,fun hb=>absurd hb (Nat.not_le.2 (ajG hf))⟩
 exact hs x hx
theorem En.okk{sh:List (TypeId×List Sh)}{pk:PKt}{C:CKt}{cs:CTt}(h:ContC P f C)(hs:En.ok ⟨P,u,cs,sh,pk⟩):En.ok ⟨P,u,(f,C)::cs,sh,pk⟩:=by
 intro x hx;rcases ajI.1 hx with rfl|hx
 ·exact⟨fun hb=>absurd h.big (Nat.not_le.2 (ajG hb)),fun _=>h⟩
 exact hs x hx
theorem mixed:prog.follows .mixedOrders=true:=kQ0
def okF(n:Nat)(fn:Func):Bool:=fn.name != "runtime.NumGoroutine" && (fn.body.isSome&&(Nat.ble n fn.ntmps&&gS fn.ntmps (fn.body.getD .skip)))
theorem dY{n:Nat}{fn:Func}(h:okF n fn=true):(fn.name == "runtime.NumGoroutine")=false/\fn.body.isSome=true/\Nat.ble n fn.ntmps=true/\gS fn.ntmps (fn.body.getD .skip)=true:=by
 unfold okF at h;simp only[ai9,bne,ajY]at h;exact h
def aE:Nat->Nat->List Sg->(An->Nat->List Sg->An)->An
 |0,n,l,κ=>κ .l n l
 |k+1,n,l,κ=>match n % 8 with
  |0=>κ .l (n / 8) l
  |1=>aE k (n / 8) l fun a n l=>aE k n l fun b n l=>κ (.s a b) n l
  |2=>aE k (n / 8) l fun a n l=>aE k n l fun b n l=>κ (.c a b) n l
  |3=>aE k (n / 8) l fun a n l=>κ (.b a) n l
  |4=>match l with
   |g::l=>aE k (n / 8) l fun a n l=>aE k n l fun b n l=>κ (.j g a b) n l
   |[]=>.l
  |5=>match l with
   |g::l=>aE k (n / 8) l fun a n l=>κ (.lp g a) n l
   |[]=>.l
  |_=>aE k (n / 64) l fun a m l=>κ (.un (n / 8 % 8) a) m l
def aD(n:Nat)(l:List Sg):An:=aE 200 n l fun a _ _=>a
def dg:Nat->Nat->List Nat
 |0,_=>[]
 |k+1,n=>n % 64::dg k (n / 64)
def pk:List Nat->Nat->(Nat->α)->(Nat->α)->α
 |[],n,_,d=>d n
 |x::_,0,κ,_=>κ x
 |_::l,n+1,κ,d=>pk l n κ d
def d64:List Nat:=[0,1,2,3,4,5,6,7,8,9,10,11,12,13,14,15,16,17,18,19,20,21,22,23,24,25,26,27,28,29,30,31,32,33,34,35,36,37,38,39,40,41,42,43,44,45,46,47,48,49,50,51,52,53,54,55,56,57,58,59,60,61,62,63]
def d55:List Nat:=d64.take 55
def tN(l:List Nat)(κ:Nat->List Nat->α):α:=match l with
 |a::r=>pk d55 a (fun a=>κ a r) fun a=>match r with
  |b::r=>match a,r with
   |1,c::r=>κ (b+64*c) r
   |_,r=>pk [900000,0,56,1000,2000,100000,100136,100200,800000] a (fun e=>pk d64 b (fun b=>κ (e+b) r) fun _=>κ 0 r) fun _=>κ 0 r
  |_=>κ 0 []
 |_=>κ 0 []
def tL:Nat->List Nat->(List Nat->List Nat->α)->α
 |0,l,κ=>κ [] l
 |k+1,l,κ=>tN l fun a r=>tL k r fun x r=>κ (a::x) r
def tC(l:List Nat)(κ:List Nat->List Nat->α):α:=tN l fun k r=>tL k r κ
def g3:List Nat->List (Nat×Nm×Nat)
 |a::b::c::r=>(a,.loc b,c)::g3 r
 |_=>[]
def g2(t:List (Nat->Sp)):List Nat->List Sp
 |a::b::r=>t.getD a (fun k=>.sl k .bo) b::g2 t r
 |_=>[]
def aN(t:List (Nat->Sp))(n:Nat)(l:List Nat):An:=aD n (l.map fun n=>tC (dg 400 n) fun ks r=>tC r fun g r=>tC r fun l r=>tC r fun o r=>tC r fun p r=>tC r fun q _=>⟨ks,g.map .gh++(l.map .loc++o.map .out),g3 p,g2 t q⟩)
abbrev uI:U:=.i .i64
variable {sh:List (TypeId×List Sh)}
noncomputable def eZ:Ev sh:=⟨[],En.ok0⟩
noncomputable def ad(c:Cb f)(E:Ev sh)(hf:Nat.blt f 1000000=true:=by rfl):Ev sh:=⟨(f,c.C)::E.cs,En.okc c.ok E.ok hf⟩
noncomputable def ak(c:Kb f)(E:Ev sh):Ev sh:=⟨(f,c.C)::E.cs,En.okk c.ok E.ok⟩
noncomputable def bA(c:Cb f):Cb f:=⟨apT c.C,OO c.ok⟩
noncomputable def bS(t:Nat)(c d:Cb f):Cb f:=⟨acD t c.C d.C,UA c.ok d.ok⟩
noncomputable def bI(E:Ev sh)(f:Nat)(fn:Func)(an:An)(hf:prog.funcs[f]? = some fn:=by kernel_rfl)(hb:(okF 0 fn&&Nat.ble fn.ntmps 100000)=true:=by kernel_rfl):Cb f:=
 have h:=dY ((ai9 _ _).mp hb).1
 ⟨MJ E.en fn an,F9 E.ok mixed hf h.1 h.2.1 h.2.2.2 ((ai9 _ _).mp hb).2⟩
noncomputable def bK(E:Ev sh)(f:Nat)(fn:Func)(an:An)(hf:prog.funcs[f]? = some fn:=by kernel_rfl)(hb:(okF 0 fn&&Nat.ble fn.ntmps 100000)=true:=by kernel_rfl):Kb (f+1000000):=
 have h:=dY ((ai9 _ _).mp hb).1
 ⟨aaW E.en fn an,Ux E.ok mixed hf h.1 h.2.1 h.2.2.2 ((ai9 _ _).mp hb).2⟩
noncomputable def b0(E:Ev sh)(fn:Func)(an:An)(ps rs:List U){F:Fl ps->Fl rs}{G:Fl ps->(Fl rs->Prop)->Prop}(a:∀x,∀KK:Fl rs->Prop,KK (F x)->G x KK)(hw:∀x KK b,G x KK=zk E.en fn an ps rs x KK b:=by intros;kernel_rfl)(hf:prog.funcs[f]? = some fn:=by kernel_rfl)(hb:okF ps.length fn=true:=by kernel_rfl):Cb f:=
 ⟨sW ps rs F,yw E.ok mixed hf (dY hb).1 (dY hb).2.1 (fun _ _ _ _ h h'=>h _ h') (dY hb).2.2.1 (dY hb).2.2.2 fun x KK b h=>hw x KK b ▸ a x KK h⟩
noncomputable def b8(E:Ev sh)(fn:Func)(an:An)(ps rs:List U){pre:Fl ps->Prop}{post:Fl ps->Fl rs->Prop}{G:Fl ps->(Fl rs->Prop)->Prop}(a:∀x,pre x->∀KK:Fl rs->Prop,(∀y,post x y->KK y)->G x KK)(hw:∀x KK b,G x KK=zk E.en fn an ps rs x KK b:=by intros;kernel_rfl)(hf:prog.funcs[f]? = some fn:=by kernel_rfl)(hb:okF ps.length fn=true:=by kernel_rfl):Cb f:=
 ⟨ad2 ps rs pre post,yw E.ok mixed hf (dY hb).1 (dY hb).2.1 (fun _ _ _ _ h h'=>⟨h'.1,fun y hy=>h y (h'.2 y hy)⟩) (dY hb).2.2.1 (dY hb).2.2.2 fun x KK b h=>hw x KK b ▸ a x h.1 KK h.2⟩
noncomputable def b1(E:Ev sh)(fn:Func)(an:An)(ps rs:List U){pre:Fl ps->Prop}{F:Fl ps->Fl rs}{G:Fl ps->(Fl rs->Prop)->Prop}(a:∀x,pre x->∀KK:Fl rs->Prop,KK (F x)->G x KK)(hw:∀x KK b,G x KK=zk E.en fn an ps rs x KK b:=by intros;kernel_rfl)(hf:prog.funcs[f]? = some fn:=by kernel_rfl)(hb:okF ps.length fn=true:=by kernel_rfl):Cb f:=
 ⟨lg ps rs pre F,yw E.ok mixed hf (dY hb).1 (dY hb).2.1 (fun _ _ _ _ h h'=>⟨h'.1,h _ h'.2⟩) (dY hb).2.2.1 (dY hb).2.2.2 fun x KK b h=>hw x KK b ▸ a x h.1 KK h.2⟩
noncomputable def b6(E:Ev sh)(fn:Func)(an:An)(ps rs:List U){pre:Fl ps->Prop}{F:Fl ps->Fl rs}{G:Fl ps->(Fl rs->Prop)->Prop}(a:∀x,pre x->∀KK:Fl rs->Prop,KK (F x)->G x KK)(hw:∀x KK,G x KK=tY E.en fn an ps rs x KK:=by intros;kernel_rfl)(hf:prog.funcs[f]? = some fn:=by kernel_rfl)(hb:okF ps.length fn=true:=by kernel_rfl):Cb f:=
 ⟨Xp ps rs pre F,QI E.ok mixed hf (dY hb).1 (dY hb).2.1 (dY hb).2.2.1 (dY hb).2.2.2 fun x hp KK h=>hw x KK ▸ a x hp KK h⟩
def tA:List (Nat->Sp):=[(.sl · .bo),(.sl · uI),fun k=>.mp (.gh k) .s .bo,(.ow · [.fr,.fr] (.st .Var)),(.ow · [.fr] .bo),(.ow · [.fr] uI),fun k=>.rt (.loc k) [.fr,.fr,.fr,.fr,.fr,.fr,.fr,.fr,.fr] (.st .Block),fun k=>.mp (.gh k) .s uI,fun k=>.rt (.loc k) [.fr,.fr] (.st .Var),fun k=>.rt (.loc k) [.fr,.fr,.fr,.fr,.fr,.fr,.fr,.fr,.fr,.fr,.fr,.fr,.ow []] (.st .asked),fun k=>.rt (.loc k) [.fr,.fr,.fr,.fr,.fr,.fr,.fr,.fr,.fr,.fr,.fr,.fr,.ow [.fr]] (.st .asked),(.ow · [.ow [.fr]] (.sl uI)),fun k=>.gw (.gh k) [.fr] uI,(.ow · [.fr,.fr] (.st .step)),fun k=>.it (.gh k) .s .bo,(.ow · [.fr] (.mp .s .bo)),(.sl · (.mp .s .bo)),fun k=>.mp (.gh k) .s (.mp .s .bo)]
abbrev eO:List (TypeId×List Sh):=[(7000000,[])]
abbrev eR:List (TypeId×List Sh):=[(3000035,[])]
abbrev eV:List (TypeId×List Sh):=[(8000033,[])]
abbrev eW:List (TypeId×List Sh):=[(3000053,[])]
noncomputable def RG:Cb 175:=⟨_,Me⟩
noncomputable def VX:Cb 89:=b0 (eZ:Ev []) f89 (aN tA 0x101 [0x80080000000]) [.b8] [.bo] MX
noncomputable def ae6:Cb 90:=b0 (eZ:Ev []) f90 (aN tA 0x101 [0x80080000000]) [.s] [.bo] W7
noncomputable def IE:Cb 91:=b0 (eZ:Ev []) f91 (aN tA 0x41 []) [.b8] [.bo] BZ
noncomputable def mz:Cb 47:=b0 ((ad VX (ad ae6 (ad IE eZ))):Ev []) f47 (aN tA 0x80014202c8088358240050841 [0x14002000000001,0x5c1080000016002,0x250020000005d6003]) [.s] [.bo] W4
noncomputable def VW:Cb 88:=b0 ((ad mz eZ):Ev []) f88 (aN tA 0x101 [0x80080000000]) [.s] [.bo] W8
noncomputable def PI:Cb 46:=b0 ((ad mz (ad VW eZ)):Ev []) f46 (aN tA 0x80014202c8088358240050241 [0x34108000000c2c2,0x1a00200000034c2c3]) [.sl (.st .Var),uI] [.bo] (fun x=>Tf x.1 x.2)
noncomputable def ZH:Cb 247:=b0 (eZ:Ev []) f247 (aN tA 0x40050841 [0xa002000000001]) [uI] [uI] SO
noncomputable def IF:Cb 234:=b0 ((ad mz (ad ZH eZ)):Ev []) f234 (aN tA 0x802204028102204028100a058241 [0x80080000000,0x80080000000]) [.st .Arg] [.bo] B0
noncomputable def nW:Cb 200:=b0 ((ad IF eZ):Ev []) f200 (aN tA 0x80014202c8088358241 [0x9042000000207043,0x600080000009207044]) [.sl (.st .Arg),.bo] [.bo] (fun x=>E1 x.1 x.2)
noncomputable def RS:Cb 155:=b0 ((ad mz (ad nW eZ)):Ev []) f155 (aN tA 0x4005020440811020440b0482080014082c8088358241 [0x281080001040248043,0x80080000000,0x80080000000,0x80080000000]) [.st .Term] [.bo] JN
noncomputable def ag9:Cb 156:=b0 ((ad mz (ad nW eZ)):Ev []) f156 (aN tA 0x80014202c8088358240050841 [0x500080001040041,0x601080000017582,0x26002000000617583]) [.st .Phi] [.bo] aa8
noncomputable def ag8:Cb 198:=b0 (eZ:Ev []) f198 (aN tA 0x20000a04120204b80204d609041 [0x6045041046000000001,0x141041100000006002]) [.s,uI] [.s] (fun x=>aa7 x.1 x.2)
noncomputable def ag7:Cb 147:=b0 ((ad ag8 eZ):Ev []) f147 (aN tA 0x4005020140805020140805020140805020140805020140b04800a100284641 [0x4002000081002002,0xe002000081002002]) [uI] [.st .Form,.bo] afT
noncomputable def ZM:Cb 201:=b0 ((ad mz (ad nW eZ)):Ev []) f201 (aN tA 0x80014202c8088358240050841 [0x780080001040041,0x881080000021802,0x300020000008a1803]) [.st .Frame] [.bo] SS
noncomputable def ZO:Cb 157:=b0 ((ad mz (ad ag7 (ad nW (ad ZM eZ)))):Ev []) f157 (aN tA 0x4000a101640441ac120005020b20220d609001421001421001421041 [0xd00080003042003042,0x1ce40080001040041,0x24e40080001040041,0x32e41080001040c79c39043,0x3de4108000003ce7be42,0x88e0008000003de7ce7be43]) [.st .Instr] [.bo] SU
noncomputable def ZK:Cb 92:=b0 ((ad mz (ad RS (ad ag9 (ad ZO eZ)))):Ev []) f92 (aN tA 0x100028105901106b0480014082c8088358240050841 [0x400080001040041,0x5010800010404d2043,0x7c108000001e742]) [.st .Block] [.bo] SQ
noncomputable def zD:Cb 48:=b0 ((ad PI (ad mz (ad VW (ad ZK eZ)))):Ev []) f48 (aN tA 0x800142020028420b20220d609040050841 [0x9c0080001040041,0xac10c110000002aa42,0xe40080005040aeaa450c5,0x10e4008000002baa90c4]) [.st .Func] [.bo] wa
noncomputable def IB:Cb 19:=b0 ((ad PI (ad mz (ad zD eZ))):Ev []) f19 (aN tA 0x20005020b20220d60900028405901106b0480014202c8088358240050841 [0x780080001040041,0x881080001040860043,0x2f002000041022860044,0xd01080001040cf2043,0x379002000041034cf2044,0x12e41080000011e50e42]) [.st .Program] [.bo] BW
noncomputable def RB:Cb 20:=b0 (eZ:Ev []) f20 (aN tA 0x2000014202c808835820028120b20220d6082c8088358241 [0x3010800010402ca043,0x1304200004101244c2ca046,0x78108000104075c4d244c2ca049,0x2b00200004101e75c4d244c2ca04a]) [.st .Program] [.bo] Jy
noncomputable def It:Cb 11:=b1 (eZ:Ev []) f11 (aN tA 0x800b20220d609041 [0x2410c11000000081c2]) [.st .Func] [uI] MT
noncomputable def Md:Cb 22:=b1 ((ad It eZ):Ev []) f22 (aN tA 0x80014202c8088358241 [0x201080000007182,0x1e002000000207183]) [.st .Program] [.bo] ES
noncomputable def zE:Cb 95:=b0 ((ad (bA (bI ((ad (bA (bI (eZ:Ev []) 50 f50 (aN tA 0x41 []))) eZ):Ev []) 158 f158 (aN tA 0x2080014082c8088358241 [0x34108000613a0ba0c023c1fc1bc17c13c0bc07c03c30b18204d]))) eZ):Ev []) f95 (aN tA 0x41 []) [.st .Program,.s] [.st .Class,.bo] (fun x=>No x.1 x.2)
noncomputable def ID:Cb 56:=b0 ((ad zE eZ):Ev []) f56 (aN tA 0x4041 [0x100080000000]) [.st .Program,.s] [.bo] (fun x=>Ns x.1 x.2)
noncomputable def IC:Cb 55:=b0 ((ad ID (ad (bA (bI ((ad (bS 17 (bA (bI (eZ:Ev []) 94 f94 (aN tA 0x41 []))) (bA (bI (eZ:Ev []) 94 f94 (aN tA 0x41 [])))) eZ):Ev []) 93 f93 (aN tA 0x800028120b20220d609041 [0x2022c1100002e81013f0af09f08f07f02f01f0a24504b]))) eZ)):Ev []) f55 (aN tA 0x80014082c8088358241 [0x90420000810081c2044]) [.st .Program,.sl (.st .Var)] [.bo] (fun x=>BX x.1 x.2)
noncomputable def Wj:Cb 24:=b1 ((ad (bA (bI ((ad (bS 17 (bA (bI (eZ:Ev []) 50 f50 (aN tA 0x41 []))) (bA (bI (eZ:Ev []) 50 f50 (aN tA 0x41 [])))) eZ):Ev []) 49 f49 (aN tA 0x800028120b20220d609041 [0x2022c1100001e81009f08f02f01f00f0a245049]))) (ad (bA (bI ((ad (bS 17 (bA (bI (eZ:Ev []) 52 f52 (aN tA 0x41 []))) (bA (bI (eZ:Ev []) 52 f52 (aN tA 0x41 [])))) eZ):Ev []) 51 f51 (aN tA 0x800028120b20220d609041 [0x2022c1100001ec100ef0df0cf0bf0af09f08f02f01f00f0a24504e]))) (ad (bA (bI ((ad (bS 17 (bA (bI (eZ:Ev []) 54 f54 (aN tA 0x41 []))) (bA (bI (eZ:Ev []) 54 f54 (aN tA 0x41 [])))) eZ):Ev []) 53 f53 (aN tA 0x800028120b20220d609041 [0x2022c1100001e81014f13f12f11f10f0ff0ef0df0cf0bf0af09f08f02f01f00f0a245054]))) (ad IC (ad ID eZ))))):Ev []) f24 (aN tA 0x4000a10405901106b0480014082c8088358240050841 [0x780080001040041,0x881080001040860043,0xbc1080001040bad043,0x70c2000181080beeb46045,0x33900200004102fbad044]) [.st .Program] [.bo] Nq
noncomputable def RR:Cb 26:=b1 ((ad (bA (bI (eZ:Ev []) 57 f57 (aN tA 0x20000a04120b20220d609041 [0xc1d004400007a04033c2bc27c23c1fc0bc07c03c3ce10b]))) (ad (bA (bI (eZ:Ev []) 58 f58 (aN tA 0x400002840482c80883582082c8088358241 [0xf04200007b04ce8153c4fc4bc47c43c3fc3bc37c33c2fc2bc27c23c1fc13c0fc0bc07c03c38d056,0x1309804400007b04ce8153c4fc4bc47c43c3fc3bc37c33c2fc2bc27c23c1fc13c0fc0bc07c03c5d63ce34705a,0xb00080001ec14cce8253c4fc4bc47c43c3fc3bc37c33c2fc2bc27c23c1fc13c0fc0bc07c03c61758f38d24705c]))) (ad (bA (bI (eZ:Ev eR) 59 f59 (aN tA 0x4000a04105c01106b041118081359041041 [0x614510400007b08233a059f18f17f16f15f14f13f12f11f10f0ff0ef0df0cf0bf0af09f08f07f04f03f02f01f00f0205a,0x1c60801c70c007b0821b717733a0d9f18f17f16f15f14f13f12f11f10f0ff0ef0df0cf0bf0af09f08f07f04f03f02f01f00f0614205c,0x2804614510600007b08233a059f18f17f16f15f14f13f12f11f10f0ff0ef0df0cf0bf0af09f08f07f04f03f02f01f00f2798205c,0x185144100001ec208ce8167c63c5fc5bc57c53c4fc4bc47c43c3fc3bc37c33c2fc2bc27c23c1fc13c0fc0bc07c03ca2798205d]))) eZ))):Ev []) f26 (aN tA 0x20005020b20220d609001409040050241 [0x70108000017705b682]) [.st .Func] [.bo] JM
noncomputable def wZ:Cb 159:=b0 ((ad (bS 10 (bA (bI ((ad (bA (bI (eZ:Ev []) 94 f94 (aN tA 0x41 []))) eZ):Ev []) 202 f202 (aN tA 0x2080014082c8088358241 [0x34108000613a0ba0c02fc2bc27c17c13c0bc07c03c30b18204d]))) (bA (bI ((ad (bA (bI (eZ:Ev []) 94 f94 (aN tA 0x41 []))) eZ):Ev []) 202 f202 (aN tA 0x2080014082c8088358241 [0x3410800061ba13a0ba1004fc4bc47c3fc1fc1bc13c0bc07c30b18204e])))) eZ):Ev []) f159 (aN tA 0x1001408841 [0x1881c01001860c0102080102043]) [.st .Func,.s] [.st .Var,.bo] (fun x=>BY x.1 x.2)
noncomputable def adF:Cb 98:=b0 ((ad wZ eZ):Ev []) f98 (aN tA 0x800a04028100a04020a058241 []) [.st .Func,.st .Arg] [.s,.bo] (fun x=>abB x.1 x.2)
noncomputable def afA:Cb 96:=b1 ((ad adF (ad ag7 (ad wZ eZ))):Ev eO) f96 (aN tA 0x80002812082c8088358240001409050301001421041 [0xa000800081851031402061440c5,0xa24200018510300a185104,0x28a1f90440001840801b9179286105]) [.st .Program,.st .Func,.st .Instr] [.st .asked,.bo] (fun x=>Xh x.1 x.2.1 x.2.2)
noncomputable def Mp:Cb 168:=b0 (eZ:Ev []) f168 (aN tA 0x41 []) [.s] [.bo] Xk
noncomputable def xZ:Cb 99:=b0 ((ad Mp eZ):Ev []) f99 (aN tA 0x101 [0x100080000000]) [.s,.s] [.bo] (fun x=>Tb x.1 x.2)
noncomputable def Z3:Cb 160:=b0 (eZ:Ev []) f160 (aN tA 0x80014082c8088358241 [0x3010800030402ca0c2045]) [.st .asked,.s,.s] [.bo] (fun x=>Te x.1 x.2.1 x.2.2)
noncomputable def Wi:Cb 166:=b0 ((ad xZ eZ):Ev []) f166 (aN tA 0x80014082c8088358240050241 [0xe04200000034c043]) [.sl .s,.sl (.st .Var)] [.bo] (fun x=>Xj x.1 x.2)
noncomputable def Wl:Cb 161:=b0 ((ad zE (ad Wi eZ)):Ev []) f161 (aN tA 0x4041 [0x80080000000]) [.st .asked] [.bo] Nt
noncomputable def Wh:Cb 203:=b0 ((ad zE (ad (bA (bI ((ad (bA (bI (eZ:Ev []) 94 f94 (aN tA 0x41 []))) eZ):Ev []) 202 f202 (aN tA 0x2080014082c8088358241 [0x34108000623a1ba0fa10057c53c4fc47c43c3fc3bc37c33c2fc2bc27c23c1fc1bc0fc0bc07c03c30b182058]))) eZ)):Ev []) f203 (aN tA 0x1001409041 []) [.st .Program,.s,.s] [.st .Var,.bo] (fun x=>Np x.1 x.2.1 x.2.2)
noncomputable def RW:Cb 162:=b1 ((ad Wh eZ):Ev []) f162 (aN tA 0x40050241 []) [.st .asked] [.st .Var,.bo] JR
noncomputable def Z2:Cb 163:=b0 ((ad Mp eZ):Ev []) f163 (aN tA 0x101 [0x100080000000]) [.s,.s] [.bo] (fun x=>Td x.1 x.2)
noncomputable def RV:Cb 204:=b0 ((ad (bA (bI ((ad (bA (bI (eZ:Ev []) 94 f94 (aN tA 0x41 []))) eZ):Ev []) 202 f202 (aN tA 0x2080014082c8088358241 [0x34108000613a0ba0c023c1fc1bc17c13c0bc07c03c30b18204d]))) eZ):Ev []) f204 (aN tA 0x41 []) [.st .Program,.s] [.st .Var,.bo] (fun x=>JQ x.1 x.2)
noncomputable def Mq:Cb 164:=b1 ((ad xZ (ad RV eZ)):Ev []) f164 (aN tA 0x1001409041 []) [.st .asked] [.bo] E2
noncomputable def Z1:Cb 165:=b0 ((ad (bA (bI ((ad (bA (bI (eZ:Ev []) 54 f54 (aN tA 0x41 []))) eZ):Ev []) 205 f205 (aN tA 0x2080014082c8088358241 [0x34108000613a0ba0c023c1fc1bc17c13c0bc07c03c30b18204d]))) eZ):Ev []) f165 (aN tA 0x41 []) [.st .Program,.s] [.st .Func,.bo] (fun x=>Tc x.1 x.2)
noncomputable def RU:Cb 167:=b0 ((ad (bA (bI ((ad (bA (bI (eZ:Ev []) 52 f52 (aN tA 0x41 []))) eZ):Ev []) 206 f206 (aN tA 0x2080014082c8088358241 [0x34108000613a0ba0c023c1fc1bc17c13c0bc07c03c30b18204d]))) eZ):Ev []) f167 (aN tA 0x41 []) [.st .Program,.s] [.st .Extern,.bo] (fun x=>JP x.1 x.2)
noncomputable def RY:Cb 97:=b1 ((ad xZ (ad Z3 (ad Wl (ad RW (ad Z2 (ad Mq (ad Z1 (ad Wi (ad RU (ad Mp eZ)))))))))):Ev []) f97 (aN tA 0x100140810140810140805008180140804140804140805020140805020140b04800a04028100a058241 [0xbb9002000041020042,0x80080000000,0x80080000000]) [.st .asked] [.bo] JS
noncomputable def Wk:Cb 60:=b1 ((ad afA (ad RY eZ)):Ev []) f60 (aN tA 0x1041 []) [.st .Program,.st .Func,.st .Instr] [.bo] (fun x=>Nr x.1 x.2.1 x.2.2)
noncomputable def afB:Cb 61:=b0 ((ad adF (ad xZ eZ)):Ev []) f61 (aN tA 0x800a04028100a040281609041 []) [.st .Func,.st .Term] [.bo] (fun x=>Xi x.1 x.2)
noncomputable def RD:Cb 28:=b1 ((ad Wk (ad afB eZ)):Ev []) f28 (aN tA 0x100028100028105901106b0482c8088358241 [0x30108000308200b283084,0x1304200018308301244c2ca183088]) [.st .Program,.st .Func] [.bo] (fun x=>Jz x.1 x.2)
noncomputable def Is:Cb 64:=b1 ((ad ⟨_,zx⟩ eZ):Ev []) f64 (aN tA 0x801020b80220d609041 [0x3f08d04400000030b143,0xfc208000000d30b144]) [.mp .s .bo,.st .Block] [.mp .s .bo] (fun x=>MP x.1 x.2)
noncomputable def RT:Cb 169:=b0 (eZ:Ev []) f169 (aN tA 0x80014082c8088358241 [0xb042000000289043]) [.st .Func,.s] [uI,.bo] (fun x=>JO x.1 x.2)
noncomputable def ae4:Cb 100:=b1 ((ad RT eZ):Ev eP) f100 (aN tA 0x400102082e008835820b20220d609041 [0x4410cb10000104040f043,0x6810cb1000010406584503c4047,0x32c200004101a6584503c4048]) [.st .Func] [.sl (.sl uI)] W6
noncomputable def ZP:Cb 207:=b0 (eZ:Ev []) f207 (aN tA 0x80014082c8088358241 [0x80420000001c1003]) [.sl uI,uI] [uI] (fun x=>SV x.1 x.2)
noncomputable def VU:Cb 170:=b6 ((ad ZP eZ):Ev []) f170 (aN tA 0x41 []) [.sl uI,uI] [.bo] (fun x(_:True)=>MU x.1 x.2)
noncomputable def RF:Cb 101:=b1 ((ad VU eZ):Ev eP) f101 (aN tA 0x10004202e008835820b20220d609041 [0xd0432c400000030b003,0x140432c40000004d234c2c4007,0xcb0800000144d234c2c4008,0xa000800000f70544d234c2c710300a]) [.sl (.sl uI)] [.sl (.sl uI)] JB
noncomputable def RE:Cb 102:=b8 ((ad (bA (bI (eZ:Ev eW) 171 f171 (aN tA 0x20028404100105024160204d641040050241041 [0x63451441060000001bc0bc03c004,0x839002000006dc5dc4dc31bc0bc03c206144008]))) (ad (bA (bI (eZ:Ev eO) 172 f172 (aN tA 0x640409ac1 [0x1373030420460000002bc13c003]))) eZ)):Ev eO) f102 (aN tA 0x41101 [0x105080000000]) [.sl (.sl uI)] [.sl uI] JA
noncomputable def Mc:Cb 103:=b0 (eZ:Ev []) f103 (aN tA 0x800b20220d609041 [0x608a0440000002480c3]) [.st .Func] [.mp .s .bo] EQ
noncomputable def VQ:Cb 104:=b8 (eZ:Ev []) f104 (aN tA 0x20204160220d609040050241 [0xc38a084000000305043]) [.mp .s .bo,.mp .s .bo] [.mp .s .bo] (fun x=>MR x.1 x.2)
noncomputable def VP:Cb 105:=b1 ((ad ⟨_,zx⟩ eZ):Ev []) f105 (aN tA 0x800b20220d609041 [0x3f08d04400000030b143]) [.mp .s .bo,.st .Block] [.mp .s .bo] (fun x=>MQ x.1 x.2)
noncomputable def ZI:Cb 62:=b8 ((ad Is (ad ae4 (ad RF (ad RE (ad Mc (ad VQ (ad VP eZ))))))):Ev []) f62 (aN tA 0x800212020206001020b80220d60901030105901106b04160204d609041041041 [0x2001cf18f180001040144043,0x7c12001cf18f20000104079d144045,0xb4020000411f71b709f79d2881c614404a,0x2c04b4040000411f71b70aba9f79d2881c614404c,0x2d0080001047dc6dc2b2ba9f79d2881c614404d,0xb4020000411f71b709f79d2881c614404a,0x80020000411f71b709f79d2ca1c614404a,0x1ce40080001047dc6dc27de74b2881c614404b]) [.st .Func] [.sl (.mp .s .bo)] SP
noncomputable def VY:Cb 108:=b8 ((ad (bA (bI ((ad (bS 21 (bA (bI (eZ:Ev []) 208 f208 (aN tA 0x2041 []))) (bS 39 (bA (bI (eZ:Ev []) 208 f208 (aN tA 0x2041 []))) (bA (bI (eZ:Ev []) 208 f208 (aN tA 0x2041 []))))) eZ):Ev []) 174 f174 (aN tA 0xb80220d6082c808835820005c01106b041640441ac12002e0088358241 [0x13a0910440000c1e82006f05f04f03f02f01f00f103c300b,0x4e8208000307a0801bc17c13c0fc0bc07c03c4503c300c,0x13a09c0440000c1e82006f05f04f03f02f01f00f1b68300b,0x4e828c110000307a0801bc17c13c0fc0bc07c03c8a171b68300e,0x13a0820000c1e82006f05f04f03f02f01f00f238a171b68300f,0x13a0b004400007a0401bc17c13c0fc0bc07c03cbee00a,0x4e82037e01100001e81006f05f04f03f02f01f00f36d70bee00d,0x13a08200007a0401bc17c13c0fc0bc07c03c037e36d70bee00e]))) (ad RG eZ)):Ev []) f108 (aN tA 0x41041 []) [.st .Instr] [.sl .s] MY
noncomputable def Rx:Cb 63:=b1 ((ad ⟨_,zx⟩ (ad (bA (bI (eZ:Ev []) 107 f107 (aN tA 0x80014082c8088358241 [0x90420001fa0fa080fc14fc4bc47c43c3fc3bc37c33c2fc1fc17c0fc20700f]))) (ad VY (ad (bA (bI (eZ:Ev []) 109 f109 (aN tA 0x41 []))) eZ)))):Ev []) f63 (aN tA 0x2001020028420b80220d609041 [0x3f08d0440000c100c2c50c4,0xfc208000304034c2c50c5,0x5400800070c203f04d30b1c50c6,0x100080000000]) [.mp .s .bo,.st .Block] [.bo] (fun x=>Jv x.1 x.2)
noncomputable def ZQ:Cb 211:=b0 (eZ:Ev []) f211 (aN tA 0x80014082c8088358241 [0x80420000001c1003]) [.sl .s,.s] [uI] (fun x=>SW x.1 x.2)
noncomputable def VV:Cb 176:=b0 ((ad ZQ eZ):Ev []) f176 (aN tA 0x41 []) [.sl .s,.s] [.bo] (fun x=>MV x.1 x.2)
noncomputable def Ry:Cb 110:=b0 ((ad VV eZ):Ev []) f110 (aN tA 0x80014082c8088358241 [0x30108000000b282044]) [.st .Func,.s,.s] [.bo] (fun x=>Jw x.1 x.2.1 x.2.2)
noncomputable def VR:Cb 65:=b0 ((ad (bA (bI (eZ:Ev []) 109 f109 (aN tA 0x41 []))) (ad Ry eZ)):Ev []) f65 (aN tA 0x80000508082c808835820b20220d6082c8088358241 [0x1004200008100f382044,0x5c10800060820165503ce182048,0x1e04200018208075c5d65503ce18204b,0xe4008000608201e75c5d65503ce18204c]) [.st .Func,.mp .s (.mp .s .bo)] [.bo] (fun x=>MS x.1 x.2)
noncomputable def Rz:Cb 30:=b1 ((ad ZI (ad Rx (ad Is (ad VR eZ)))):Ev []) f30 (aN tA 0x800028120b80220d609041 [0x644a044000041009203044,0x191080001040289203045]) [.st .Func] [.bo] Jx
noncomputable def zu:Cb 9:=b1 ((ad (bS 13 (bA (bI ((ak (bK ((ad IB (ad RB eZ)):Ev []) 18 f18 (aN tA 0x41 [])) (ak (bK ((ad Md eZ):Ev []) 21 f21 (aN tA 0x41 [])) (ak (bK ((ad Wj eZ):Ev []) 23 f23 (aN tA 0x41 [])) eZ))):Ev []) 17 f17 (aN tA 0x4000a041640441998241 []))) (bA (bI ((ak (bK ((ad RR eZ):Ev []) 25 f25 (aN tA 0x41 [])) (ak (bK ((ad RD eZ):Ev []) 27 f27 (aN tA 0x41 [])) (ak (bK ((ad Rz eZ):Ev []) 29 f29 (aN tA 0x41 [])) eZ))):Ev []) 17 f17 (aN tA 0x4000a041640441998241 [])))) eZ):Ev []) f9 (aN tA 0x800140820b20220d609001409041 [0x15042000000513043]) [.st .Program] [uI] ER
noncomputable def wY:Cb 15:=b0 (eZ:Ev []) f15 (aN tA 0x801020b80210d609040050241 [0x181141100000001002,0x5c0080000006141004,0x5042000000181003]) [.sl (.st .Var),uI] [uI] (fun x=>BT x.1 x.2)
noncomputable def Iu:Cb 154:=b0 (eZ:Ev []) f154 (aN tA 0x20320210d609040050241 [0x181141100000001002,0x5c0080000006141004]) [.sl (.st .Arg),uI] [uI] (fun x=>BS x.1 x.2)
noncomputable def Ep:Cb 87:=b1 ((ad Iu eZ):Ev []) f87 (aN tA 0x2004082e008435824001020b80210d60808180b20210d60901030040c040050841 [0x14002000081002042,0x5042000081002042,0x5042000081002042,0x6045044000081002042,0x179002000081006142044,0x141080002040182043,0x1c1141100002040182043,0x2ae400800020401c6142045,0x5042000081007182044,0x8045044000081002042,0x2378002000081008142044,0x141080002040202043]) [.st .Instr,uI] [uI] (fun x=>Al x.1 x.2)
noncomputable def Eo:Cb 45:=b1 ((ad Ep eZ):Ev []) f45 (aN tA 0x101901086b048002041700421ac105901086b0480c808435824040c040050841 [0x1d002000081002042,0x5042000081002042,0x6045044000081002042,0x39002000081006142044,0x7045044000081002042,0x5b9002000081007142044,0x2011411000020401c2043,0x30e40080002040207142045,0x50420000810081c2044,0x9045044000081002042,0x24f8002000081009142044]) [.st .Block,uI] [uI] (fun x=>Ak x.1 x.2)
noncomputable def Rv:Cb 16:=b1 ((ad wY (ad Eo eZ)):Ev []) f16 (aN tA 0x80c808435824040c01030040c040050241 [0x5042000081002042,0x5042000081002042,0x5042000081002042,0x6045044000081002042,0x35002000081006142044]) [.st .Func,uI] [uI] (fun x=>Ju x.1 x.2)
noncomputable def ag6:Cb 8:=b1 ((ad wY (ad Rv eZ)):Ev []) f8 (aN tA 0x20320210d60901901086b04801020b80210d609040050841 [0x18002000081002042,0x6045044000081002042,0x26002000081006142044,0x141080002040182043,0x7045044000081002042,0x439002000081007142044,0x8045044000081002042,0x9b9002000081008142044]) [.st .Program,uI] [.bo] (fun x=>aa6 x.1 x.2)
end
set_option maxRecDepth 100000
theorem QK{ps rs:List U}{pre b:Fl ps->Prop}{F F':Fl ps->Fl rs}(a:∀x,b x->pre x/\F' x=F x)(h:Cont P f (lg ps rs pre F)):Cont P f (lg ps rs b F'):=
 yx (fun _ _ _ _ h h'=>⟨h'.1,h _ h'.2⟩) (fun x K c h=>⟨(a x h.1).1,(a x h.1).2 ▸ h.2⟩) h
theorem WN(b:Lt.Block)(h:b.End.To=[]):Lt.Gd [b]:=by
 have a:∀i,i<[b].length->i=0:=fun i hi=>by grind
 refine⟨Nat.zero_lt_one,fun i j hi hj _=>by grind,fun i hi=>?_,fun i hi s hs=>?_,fun k hk=>?_⟩
 ·grind
 ·grind
 rw[a k hk];exact .first Nat.zero_lt_one
theorem VG{f:Lt.Func}{b:Lt.Block}{v:a8}(hf:f.Blocks=[b])(h:b.End.To=[]){k:Nat}(hb:Lt.Bare f v k):v ∉ f.Params.map (·.Name):=by
 cases hb<;>grind
theorem X5:cZ xO:=by
 grind [cZ,jp,lf,r6]
theorem X6:cZ uM:=by
 grind [cZ,jp,lf,r6]
theorem X7:cZ wt:=by
 grind [cZ,jp,lf,r6]
theorem aiG:cu xO=0:=by
 rw[afD,Qv];refine⟨by rfl,by rfl,by rfl,by rfl,fun f hf=>?_⟩;obtain rfl:=ajQ.1 hf;refine⟨pQ (WN _ rfl),by rfl,pQ ⟨fun k hk=>?_,fun b hb x hx=>?_⟩⟩
 rotate_left
 ·grind
 obtain rfl:k=0:=by
  grind
 exact⟨fun j hj=>absurd hj (Nat.not_lt_zero j),fun _ _=>.inl (.inl fun hb=>VG (b:=(ahJ.Blocks.getD 0 default)) rfl rfl hb (ajQ.2 rfl))⟩
theorem aiH:cu uM=4:=by
 have h1:aX uM=true:=by rfl
 have h2:iW uM=true:=by rfl
 have h3:ia uM=true:=by rfl
 have h4:fI uM=true:=by rfl
 have h5:di aaO=true:=pQ (WN _ rfl)
 have h6:jW uM aaO=true:=by rfl
 have h7:gk aaO=false:=sH fun h=>by
  rcases(h.1 0 Nat.zero_lt_one).2 (.inr rfl) rfl with(h|h)|h
  ·exact h (.first fun hm=>by cases hm)
  ·cases h
  cases h
 grind [cu,xP]
theorem aiI:cu wt=5:=by
 have h1:aX wt=true:=by rfl
 have h2:iW wt=true:=by rfl
 have h3:ia wt=true:=by rfl
 have h4:fI wt=true:=by rfl
 have h5:di ahK=false:=sH fun g=>by
  have h:=g.re 1 (by decide)
  generalize hk:(1:Nat)=k at h;cases h<;>grind
 grind [cu,xP]
abbrev Lm:List (Fl [.s]×Fl [.st .Program,.i .i64,.i .i64]):=[(ahZ,(xO,0,0)),(ah0,(uM,0,0)),(ah1,(wt,0,0))]
theorem RJ:Cont prog 13 (lg [.s] [.st .Program,.i .i64,.i .i64] (fun x=>∃y,(x,y)∈Lm) (uG Lm (xO,0,0))):=
 F7 (n:=80) eU eS lParse 4 f13 (ps:=[.s]) (rs:=[.st .Program,.i .i64,.i .i64]) Lm func13 (by rfl) (by rfl) (by rfl) (by rfl) (by rfl) (by rfl) (by rfl) (by rfl) (by rfl) (by rfl) kQ0 (by rfl) (xO,0,0) (fun x hx=>by
  rcases ajI.1 hx with rfl|hx
  ·exact ta0
  rcases ajI.1 hx with rfl|hx
  all_goals simp_all[ta1,ta2])
theorem YU{x:Fl [.s]}(h:decide (x∈Lm.map (·.1))=true):∃y,(x,y)∈Lm:=by
 grind
noncomputable def x13:Cl 13:=⟨fnB [.s] [.st .Program,.i .i64,.i .i64] (fun x=>decide (x∈Lm.map (·.1))) (uG Lm (xO,0,0)),_,zR (pre:=fun x=>∃y,(x,y)∈Lm) (fun x h=>YU h),RJ⟩
abbrev YV:List (Fl [.st .Program]×Fl [.i .i64]):=[(xO,(0:Int)),(uM,(4:Int)),(wt,(5:Int))]
theorem ahB:Cont prog 9 (lg [.st .Program] [.i .i64] (fun x=>cZ x) (fun x=>cu x)):=zu.ok
theorem Z0:Cont prog 9 (lg [.st .Program] [.i .i64] (fun x=>x=xO\/x=uM\/x=wt) (uG YV (0:Int))):=
 QK (fun x hx=>by
  rcases hx with rfl|rfl|rfl
  ·exact⟨X5,(show uG YV (0:Int) xO=0 by rfl).trans aiG.symm⟩
  ·exact⟨X6,(show uG YV (0:Int) uM=4 by rfl).trans aiH.symm⟩
  exact⟨X7,(show uG YV (0:Int) wt=5 by rfl).trans aiI.symm⟩) ahB
noncomputable def x9:Cl 9:=⟨fnB [.st .Program] [.i .i64] (fun x=>decide (x=xO\/x=uM\/x=wt)) (uG YV (0:Int)),_,zR (pre:=fun x=>x=xO\/x=uM\/x=wt) (fun x h=>of_decide_eq_true h),Z0⟩
noncomputable abbrev lAw:ClS:=[⟨_,x13⟩,⟨_,x9⟩]
theorem aiJ:Im 80 (clE eU eP lAw) f7 [] [.bo] () (fun z=>decide (z=true))=true:=kQ0
theorem ZJ:Cont prog 7 (sW [] [.bo] (fun _=>true)):=Uw eU eP lAw 80 f7 [.bo] true func7 (by rfl) aiJ
end Go.Am
end

section
namespace Lt
open Go
def xr(n:Int):Int:=i64.wrap n
def js(n:Int)(c:UInt8):Int:=IntKind.u64.wrap ((IntKind.u64.wrap ((IntKind.u64.wrap (n*10))+(IntKind.u64.wrap ((c.toNat:Nat):Int)))) - 48)
def DQ(s:a8):Int:=if s.getD 0 0=45 then((s.take 30).drop 1).foldl js 0 else(s.take 30).foldl js 0
def KV(s:a8):Int:=xr (if s.getD 0 0=45 then IntKind.u64.wrap (0-DQ s)else DQ s)
def eQ(s:a8):Int×Bool:=if jH (KV s)=s then(KV s,true)else(0,false)
def Bj(u:Int)(c:UInt8):Int:=
 IntKind.u64.wrap ((IntKind.u64.wrap (u*16))+(Int.tmod (if 97<=(IntKind.u64.wrap ((c.toNat:Nat):Int))then IntKind.u64.wrap ((IntKind.u64.wrap ((c.toNat:Nat):Int)) - 87)else IntKind.u64.wrap ((IntKind.u64.wrap ((c.toNat:Nat):Int)) - 48)) 16))
def KT(s:a8):Int:=i64.wrap (((s.drop 2).take 16).foldl Bj 0)
def Bi(s:a8):Int×Bool:=if s.length=18/\qd (KT s)=s then(KT s,true)else(0,false)
def rO(s:a8)(a:Arg):Bool:=jI a&&decide (bt a=s)
def dC(s:a8):Arg×Bool:=
 if rO s ⟨1,s,0⟩then(⟨1,s,0⟩,true)
 else if rO s ⟨2,[],(eQ s).1⟩then(⟨2,[],(eQ s).1⟩,true)
 else if rO s ⟨3,[],(Bi s).1⟩then(⟨3,[],(Bi s).1⟩,true)
 else if rO s ⟨4,[],0⟩then(⟨4,[],0⟩,true)
 else if rO s ⟨5,[],(eQ (s.drop 1)).1⟩then(⟨5,[],(eQ (s.drop 1)).1⟩,true)
 else(⟨0,[],0⟩,false)
def fy(l:List a8):Bool:=l.all cg
def DP(w:a8):Bool:=decide (w=[105,110,116])||(decide (w=[102,108,111,97,116])||cg w)
def cW(l:List a8):Bool:=decide (l.length=3)&&(cg (l.getD 1 [])&&DP (l.getD 2 []))
def cx(n most:Int):Int:=if most<=n then 2 else 0
def Oh(w:a8):List a8->Int->Int×Bool
 |[],_=>(0,false)
 |x::r,n=>if x=w then(n,true)else Oh w r (n+1)
def sOp(w:a8):Int×Bool:=Oh w (Go.Am.gw.drop 1) 1
def iA(objs:Bool)(w:a8):Bool:=(dC w).2&&!(decide ((dC w).1.Kind=5)&&!objs)
def cj(l:List a8)(objs:Bool):List Arg×Bool:=if l.all (iA objs)then(l.map fun w=>(dC w).1,true)else([],false)
def cm(objs:Bool):List a8->Option (List Bind)
 |[]=>some []
 |[_]=>none
 |a::b::r=>if cg a&&iA objs b then(cm objs r).map (⟨a,(dC b).1⟩::·)else none
def aM(l:List a8)(a:Int)(objs:Bool):List Bind×Bool:=
 if(l.length:Int)<a then([],false)else match cm objs (l.drop a.toNat)with
 |some x=>(x,true)
 |none=>([],false)
abbrev Read.out(r:Read):Bool:=decide (r.Where<=2)||decide (r.Where=9)
abbrev Read.ins(r:Read):Bool:=decide (5<=r.Where)&&decide (r.Where<=8)
def last{α:Type}[Inhabited α](l:List α)(f:α->α):List α:=l.set (l.length - 1) (f (l.getD (l.length - 1) default))
def Read.func(r:Read)(f:Func->Func):Read:={ r with P:={ r.P with Funcs:=last r.P.Funcs f } }
def Read.block(r:Read)(f:Block->Block):Read:=r.func fun g=>{ g with Blocks:=last g.Blocks f }
def Read.instr(r:Read)(f:Instr->Instr):Read:=r.block fun b=>{ b with Code:=last b.Code f }
def Read.curF(r:Read):Func:=r.P.Funcs.getD (r.P.Funcs.length - 1) default
def Read.curB(r:Read):Block:=r.curF.Blocks.getD (r.curF.Blocks.length - 1) default
def Read.curI(r:Read):Instr:=r.curB.Code.getD (r.curB.Code.length - 1) default
def pJ(f:Func)(w n:Int):Prop:=
 (Name f.Name=true/\kind f.Result=true/\typed f.Params 6=true/\typed f.Vars 1024=true)/\(f.Blocks.length<=256/\0<=n/\n<=1024) /\
 (w<=4->f.Blocks=[]/\n=0) /\
 (5<=w->∃bs b,f.Blocks=bs++[b]/\bs.all block=true/\n=((f.Blocks.map fun b=>b.Phis.length+b.Code.length).sum:Nat) /\
  (Name b.Name=true/\b.Phis.all phi=true/\b.Code.all instr=true)/\(w=9->eY b.End=true) /\
  (6<=w->w<=8->∃cs c,b.Code=cs++[c]/\(7<=w->c.Op=31\/c.Op=34)))
def Inv(r:Read):Prop:=
 (0<=r.Where/\r.Where<=9)/\(r.P.Classes.length<=8/\r.P.Externs.length<=8/\r.P.Funcs.length<=8) /\
 (typed r.P.Globals 8=true/\r.P.Classes.all cO=true/\r.P.Externs.all cK=true) /\
 (r.Where=1->r.P.Classes≠[])/\(r.Where<=2->r.P.Funcs.all aG=true) /\
 (3<=r.Where->∃fs f,r.P.Funcs=fs++[f]/\fs.all aG=true/\pJ f r.Where r.Long)
def im(r:Read)(l:List a8):Prop:=Inv r/\l≠[]/\l.length<=room
def KD(r:Read)(l:List a8)(_:Bool):Prop:=im r l
def jq(l:List a8)(_:Bool):Prop:=l.length<=room
def p9(l:List a8)(a:Int)(_:Bool):Prop:=l.length<=room/\0<=a/\a<=4
abbrev w0(l:List a8):a8:=l.getD 0 default
abbrev w1(l:List a8):a8:=l.getD 1 default
abbrev w2(l:List a8):a8:=l.getD 2 default
abbrev w3(l:List a8):a8:=l.getD 3 default
def iU(r:Read)(l:List a8):Int×Read:=
 if(r.out&&decide (l.length=2)&&cg (w1 l))=false then(3,r)
 else if 8<=r.P.Classes.length then(2,r)else(0,{ r with P:={ r.P with Classes:=r.P.Classes++[⟨w1 l,[]⟩] },Where:=1 })
def lm(r:Read)(l:List a8):Int×Read:=
 if(decide (r.Where=1)&&cW l)=false then(3,r)
 else if 8<=(r.P.Classes.getD (r.P.Classes.length - 1) default).Fields.length then(2,r)else(0,{ r with P:={ r.P with Classes:=last r.P.Classes fun c=>{ c with Fields:=c.Fields++[⟨w1 l,w2 l⟩] } } })
def iu(r:Read)(l:List a8):Int×Read:=
 if(r.out&&cW l)=false then(3,r)
 else(if 8<=r.P.Globals.length then 2 else 0,{ r with P:={ r.P with Globals:=r.P.Globals++[⟨w1 l,w2 l⟩] },Where:=2 })
def gl(r:Read)(l:List a8):Int×Read:=
 if(r.out&&decide (l.length=3)&&cg (w1 l)&&((eQ (w2 l)).2&&decide (0<=(eQ (w2 l)).1)&&decide ((eQ (w2 l)).1<=8)))=false then(3,r)
 else(if 8<=r.P.Externs.length then 2 else 0,{ r with P:={ r.P with Externs:=r.P.Externs++[⟨w1 l,(eQ (w2 l)).1⟩] },Where:=2 })
def jQ(r:Read)(l:List a8):Int×Read:=
 if(r.out&&cW l)=false then(3,r)
 else(if 8<=r.P.Funcs.length then 2 else 0,{ r with P:={ r.P with Funcs:=r.P.Funcs++[⟨w1 l,w2 l,[],[],[]⟩] },Where:=3,Long:=0 })
abbrev sJ:a8:=[99,108,97,115,115]
abbrev pR:a8:=[102,105,101,108,100]
abbrev j0:a8:=[103,108,111,98,97,108]
abbrev ij:a8:=[101,120,116,101,114,110]
abbrev xh:a8:=[102,117,110,99]
abbrev pS:a8:=[112,97,114,97,109]
abbrev Js:a8:=[118,97,114]
abbrev sI:a8:=[98,108,111,99,107]
abbrev Ah:a8:=[112,104,105]
abbrev kAt:List UInt8:=[97,116]
abbrev rL:a8:=[111,98,106]
abbrev Ag:a8:=[106,117,109,112]
abbrev i6:a8:=[98,114,97,110,99,104]
abbrev EO:a8:=[114,101,116]
abbrev Ai:a8:=[116,114,97,112]
abbrev vY:a8:=[115,115,97]
def bB(r:Read)(l:List a8):(Bool×Int)×Read:=
 if w0 l=sJ then((true,(iU r l).1),(iU r l).2)
 else if w0 l=pR then((true,(lm r l).1),(lm r l).2)
 else if w0 l=j0 then((true,(iu r l).1),(iu r l).2)
 else if w0 l=ij then((true,(gl r l).1),(gl r l).2)
 else if w0 l=xh then((true,(jQ r l).1),(jQ r l).2)
 else((false,0),r)
def jM(r:Read)(l:List a8):Int×Read:=
 if(decide (r.Where=3)&&cW l)=false then(3,r)
 else(if 6<=r.curF.Params.length then 2 else 0,r.func fun f=>{ f with Params:=f.Params++[⟨w1 l,w2 l⟩] })
def mI(r:Read)(l:List a8):Int×Read:=
 if((decide (r.Where=3)||decide (r.Where=4))&&cW l)=false then(3,r)
 else(if 1024<=r.curF.Vars.length then 2 else 0,{ r.func (fun f=>{ f with Vars:=f.Vars++[⟨w1 l,w2 l⟩] })with Where:=4 })
def fu(r:Read)(l:List a8):Int×Read:=
 if((decide (r.Where=3)||decide (r.Where=4)||decide (r.Where=9))&&decide (l.length=2)&&cg (w1 l))=false then(3,r)
 else(if 256<=r.curF.Blocks.length then 2 else 0,{ r.func (fun f=>{ f with Blocks:=f.Blocks++[⟨w1 l,[],[],⟨0,⟨0,[],0⟩,[],0⟩⟩] })with Where:=5 })
def o6(r:Read)(l:List a8):Int×Read:=
 if(decide (r.Where=5)&&(aM l 2 false).2&&!decide ((aM l 2 false).1.length=0)&&cg (w1 l))=false then(3,r)
 else if 256 < (aM l 2 false).1.length\/1024<=r.Long then(2,r)
 else(0,{ r.block (fun b=>{ b with Phis:=b.Phis++[⟨w1 l,(aM l 2 false).1.map fun x=>⟨x.Name,x.A⟩⟩] })with Long:=r.Long+1 })
def bW(r:Read)(l:List a8):(Bool×Int)×Read:=
 if w0 l=pS then((true,(jM r l).1),(jM r l).2)
 else if w0 l=Js then((true,(mI r l).1),(mI r l).2)
 else if w0 l=sI then((true,(fu r l).1),(fu r l).2)
 else if w0 l=Ah then((true,(o6 r l).1),(o6 r l).2)
 else((false,0),r)
def sAt(r:Read)(l:List a8):Int×Read:=
 if(decide (r.Where=7)&&(aM l 4 true).2&&cg (w1 l)&&cg (w2 l)&&((eQ (w3 l)).2&&decide (0<=(eQ (w3 l)).1)&&decide ((eQ (w3 l)).1<=1024)))=false then(3,r)
 else if 16 < (aM l 4 true).1.length\/16<=r.curI.Frames.length then(2,r)
 else(0,r.instr fun x=>{ x with Frames:=x.Frames++[⟨w1 l,w2 l,(eQ (w3 l)).1,(aM l 4 true).1⟩] })
def rN(r:Read)(l:List a8):Int×Read:=
 if(decide (7<=r.Where)&&decide (2<=l.length)&&decide (l.length<=10)&&cg (w1 l)&&(cj (l.drop 2) true).2)=false then(3,r)
 else(if 99<=r.curI.Objs.length then 2 else 0,{ r.instr (fun x=>{ x with Objs:=x.Objs++[⟨w1 l,(cj (l.drop 2) true).1⟩] })with Where:=8 })
def jt(l:List a8):Option Term:=
 if w0 l=Ag then(if decide (l.length=2)&&cg (w1 l)then some ⟨1,⟨0,[],0⟩,[w1 l],0⟩else none)
 else if w0 l=i6 then(if decide (l.length=4)&&(cg (w2 l)&&cg (w3 l))&&iA false (w1 l)then some ⟨2,(dC (w1 l)).1,[w2 l,w3 l],0⟩else none)
 else if w0 l=EO then(if decide (l.length=2)&&iA false (w1 l)then some ⟨3,(dC (w1 l)).1,[],0⟩else none)
 else if w0 l=Ai then(if decide (l.length=2)&&(eQ (w1 l)).2 then some ⟨4,⟨0,[],0⟩,[],(eQ (w1 l)).1⟩else none)
 else none
def wD(r:Read)(l:List a8):Int×Read:=match jt l with
 |some t=>(0,{ r.block (fun b=>{ b with End:=t })with Where:=9 })
 |none=>(3,{ r with Where:=9 })
def cr(r:Read)(l:List a8):(Bool×Int)×Read:=
 if w0 l=kAt\/w0 l=rL\/w0 l=Ag\/w0 l=i6\/w0 l=EO\/w0 l=Ai then
  if r.ins=false then((true,3),r)
  else if w0 l=kAt then((true,(sAt r l).1),(sAt r l).2)
  else if w0 l=rL then((true,(rN r l).1),(rN r l).2)
  else((true,(wD r l).1),(wD r l).2)
 else((false,0),r)
def KW(op:Int)(l:List a8):Option (a8×List a8):=
 if op=26\/op=27 then(if l.length < 3 then none else some (w2 l,w1 l::l.drop 3))
 else if(rOf op).1.Named then(if l.length < 2 then none else some (w1 l,l.drop 2))
 else some ([],l.drop 1)
def gE(dst:List UInt8)(l:List a8):Option Instr:=
 if((sOp (w0 l)).2&&((rOf (sOp (w0 l)).1).1.Dst==!decide (dst=[])))=false then none
 else match KW (sOp (w0 l)).1 l with
 |none=>none
 |some (nm,rest)=>
  if((cj rest false).2&&!((rOf (sOp (w0 l)).1).1.Named&&!cg nm)&&decide ((rOf (sOp (w0 l)).1).1.Least<=((cj rest false).1.length:Int))&&decide (((cj rest false).1.length:Int)<=(rOf (sOp (w0 l)).1).1.Most))=true
  then some ⟨(sOp (w0 l)).1,dst,nm,(cj rest false).1,[],[]⟩else none
def sEq(l:List a8):Bool:=decide (2<l.length)&&decide (w1 l=[61])
def eN(r:Read)(l:List a8):Int×Read:=
 if sEq l&&!cg (w0 l)then(3,r)
 else if r.ins=false then(3,r)
 else match gE (if sEq l then w0 l else []) (if sEq l then l.drop 2 else l)with
 |none=>(3,r)
 |some x=>if 1024<=r.Long then(2,r)else(0,{ r.block (fun b=>{ b with Code:=b.Code++[x] })with Where:=if x.Op=31\/x.Op=34 then 7 else 6,Long:=r.Long+1 })
def dJ(r:Read)(l:List a8)(first:Bool):Int×Read:=
 if sEq l then eN r l
 else if w0 l=vY then(if(first&&decide (l.length=1))=false then(3,r)else(0,{ r with P:={ r.P with SSA:=true } }))
 else if(bB r l).1.1 then((bB r l).1.2,(bB r l).2)
 else if(bW r l).1.1 then((bW r l).1.2,(bW r l).2)
 else if(cr r l).1.1 then((cr r l).1.2,(cr r l).2)
 else eN r l
structure Cut where
 out:List RLine
 l:List a8
 w:a8
 n:Int
 remark:Bool
 bad:Bool
def Cut.word(k:Cut):Cut:={ k with l:=if k.w=[]then k.l else k.l++[k.w],w:=[] }
def Cut.byte(k:Cut)(c:UInt8):Cut:=
 if c=59 then { k.word with remark:=true }
 else if k.remark||c=32||c=9 then k.word
 else { k with bad:=k.bad||(decide (c.toNat < 33)||decide (126<c.toNat)),w:=k.w++[c] }
def Cut.line(k:Cut):Cut:={ out:=if k.word.l=[]then k.out else k.out++[⟨k.n,k.word.l⟩],l:=[],w:=[],n:=k.n+1,remark:=false,bad:=k.bad }
def cE:a8->Cut->List RLine×Int×Int
 |[],k=>if k.bad then([],k.n,3)else(k.line.out,0,0)
 |c::r,k=>if c=10 then(if k.bad then([],k.n,3)else cE r k.line)else cE r (k.byte c)
def eE(s:a8):List RLine×Int×Int:=if 4194304<s.length then([],0,2)else cE s ⟨[],[],[],1,false,false⟩
def fL:List RLine->Bool->Read->Program×Int×Int
 |[],_,r=>if r.out then(r.P,0,0)else(⟨false,[],[],[],[]⟩,0,3)
 |x::t,first,r=>if(dJ r x.Words first).1=0 then fL t false (dJ r x.Words first).2 else(⟨false,[],[],[],[]⟩,x.N,(dJ r x.Words first).1)
def lr(s:a8):Program×Int×Int:=
 if(eE s).2.2=0 then fL (eE s).1 true ⟨⟨false,[],[],[],[]⟩,0,0⟩else(⟨false,[],[],[],[]⟩,(eE s).2.1,(eE s).2.2)
def DJ(p:Program):Bool:=decide ((lr (gD p)).2.2=0)&&decide (p=(lr (gD p)).1)
def pV(f:Func)(i k:Int):Bool:=(toB f.Blocks i.toNat).any fun s=>(aI f s).2&&decide ((aI f s).1=k)
def rl(f:Func)(i _:Int):Prop:=0<=i/\i < (f.Blocks.length:Int)
def ad0(f:Func):Prop:=f.Blocks.length<=1000000
def uniq(B:List Block):Prop:=∀i j,i<B.length->j<B.length->nmB B i=nmB B j->i=j
def KC(f:Func):Prop:=f.Blocks.length<=1000000/\uniq f.Blocks
def DC(f:Func)(l:List Bool):Prop:=l.length=f.Blocks.length/\∀k,k<f.Blocks.length->(l.getD k false=true ↔ Rc f.Blocks k)
def X1(l:List a8)(_:a8):Prop:=l.length<=1000000
def Qi(l:List a8)(s:a8)(y:List a8):Prop:=y.length<=l.length+1/\∀v,v∈y ↔ v=s\/v∈l
def yg(l:List a8)(_:Arg):Prop:=l.length<=1000000
def rk(l:List a8)(a:Arg)(y:List a8):Prop:=y.length<=l.length+1/\∀v,v∈y ↔ (a.Kind=1/\a.S=v)\/v∈l
def qb(f:Func)(v:a8):Bool:=decide (v∈f.Params.map (·.Name))
def dK(b:Block)(n:Nat):List a8:=((b.Code.take n).map (·.Dst)).filter fun d=>!decide (d=[])
def yh(b:Block)(n:Int)(_:a8):Prop:=0<=n/\n<=(b.Code.length:Int)/\b.Code.length<=1000000
def rm(b:Block)(n:Int)(v:a8):Bool:=decide (v∈dK b n.toNat)
def wu(b:Block)(v:a8):Bool:=decide (v∈b.Phis.map (·.Dst))
def Fw(f:Func)(_:a8):Prop:=f.Blocks.length<=1000000/\0<f.Blocks.length/\uniq f.Blocks/\∀b∈f.Blocks,b.Code.length<=1000000
def KA(f:Func)(v:a8)(y:List Bool):Prop:=y.length=f.Blocks.length/\∀k,k<f.Blocks.length->(y.getD k false=true ↔ Bare f v k/\v ∉ phB f k)
def p8(f:Func)(b n:Int)(v:a8):Prop:=Fw f v/\0<=b/\b < (f.Blocks.length:Int)/\0<=n/\n<=((bkB f b.toNat).Code.length:Int)
noncomputable def fZ(f:Func)(b n:Int)(v:a8):Bool:=MM ((¬ Bare f v b.toNat\/v∈phB f b.toNat)\/v∈dK (bkB f b.toNat) n.toNat)
def Qk(f:Func):Prop:=NY f
noncomputable def A4(p:Program)(f:Func):Int:=if di f=false then 5 else if jW p f=false then 4 else if gk f=false then 4 else 0
def X0(p:Program)(f:Func):Prop:=lf p f/\r6 f/\f.Params.length<=1000000/\(∀b∈f.Blocks,b.Phis.length<=1000000/\b.Code.length<=1000000)/\∀b∈f.Blocks,∀x∈b.Code,io x
def eX(l:List Line):a8:=l.flatMap fun x=>jw false x.Words++[10]
def number(n:Int):a8:=bf n
def WR(u:Int)(x:Int):UInt8:=([48,49,50,51,52,53,54,55,56,57,97,98,99,100,101,102]:List UInt8).getD (IntKind.u64.wrap ((BitVec.ofInt IntKind.u64.bits (Int.fdiv (IntKind.u64.wrap u) (2 ^ (min (IntKind.u64.wrap x).toNat IntKind.u64.bits))) &&& BitVec.ofInt IntKind.u64.bits 15).toNat:Nat)).toNat 0
def ic(n:Int):a8:=[48,102]++(List.range 16).map fun(i:Nat)=>WR (Plain n) (60 - 4*(i:Int))
def ay(a:Arg):a8:=
 if bD a then
  if a.Kind=2 then bf a.N else if a.Kind=3 then ic a.N else if a.Kind=4 then [110,117,108,108]else if a.Kind=5 then 35::bf a.N else a.S
 else []
def puts(l:List Arg):List a8:=l.map ay
def ln(w:List a8):Line:=⟨0,w⟩
def sa(first:List UInt8)(l:List Var):List Line:=l.map fun v=>ln [first,v.Name,v.Type_]
def words(i:Instr):List a8:=
 (if(Of i.Op).1.Dst then [i.Dst,[61]]else [])++[(Of i.Op).1.Word] ++
 (if i.Op=26\/i.Op=27 then(puts i.Args).getD 0 default::i.Name::(puts i.Args).drop 1
  else(if(Of i.Op).1.Named then [i.Name]else [])++puts i.Args)
def kQ(f:Frame):List a8:=[[97,116],f.Func,f.Block,number f.At]++f.Vars.flatMap fun b=>[b.Name,ay b.A]
def sb(o:Virt):List a8:=[[111,98,106],o.Class]++puts o.Vals
def rT(i:Instr):List Line:=[ln (words i)]++i.Frames.map (fun f=>ln (kQ f))++i.Objs.map (fun o=>ln (sb o))
def Fv(x:Phi):List a8:=[[112,104,105],x.Dst]++x.Ins.flatMap fun i=>[i.Block,ay i.A]
def jX(t:Term):List a8:=
 if t.Kind=1 then [[106,117,109,112],t.To.getD 0 default]
 else if t.Kind=2 then [[98,114,97,110,99,104],ay t.A,t.To.getD 0 default,t.To.getD 1 default]
 else if t.Kind=3 then [[114,101,116],ay t.A]
 else [[116,114,97,112],bf t.N]
def mu(b:Block):List Line:=[ln [[98,108,111,99,107],b.Name]]++b.Phis.map (fun x=>ln (Fv x))++b.Code.flatMap rT++[ln (jX b.End)]
def pL(f:Func):List Line:=[ln [[102,117,110,99],f.Name,f.Result]]++sa [112,97,114,97,109] f.Params++sa [118,97,114] f.Vars++f.Blocks.flatMap mu
def kM(c:Class):List Line:=[ln [[99,108,97,115,115],c.Name]]++sa [102,105,101,108,100] c.Fields
def ue(x:Extern):Line:=ln [[101,120,116,101,114,110],x.Name,number x.N]
def DG(p:Program):List Line:=(if p.SSA then [ln [[115,115,97]]]else [])++p.Classes.flatMap kM++sa [103,108,111,98,97,108] p.Globals++p.Externs.map ue++p.Funcs.flatMap pL
def ju(a b:List Var):Bool:=decide (a=b)
def qh(a b:List Arg):Bool:=decide (a=b)
def qF(a b:Instr):Bool:=decide (a=b)
def rv(a b:Block):Bool:=decide (a=b)
def tQ(a b:Func):Bool:=decide (a=b)
def Same(a b:Program):Bool:=decide (a=b)
def oH(p:Program):Prop:=kn p/\DJ p=aX p/\cZ p/\∀f∈p.Funcs,nA f
def XZ(p:Program):Prop:=p.ok/\(∀e∈p.Externs,inR e.N)/\(∀f∈p.Funcs,∀b∈f.Blocks,∀i∈b.Code,∀r∈i.Frames,inR r.At)/\(Few p 6000=true->cZ p/\(∀f∈p.Funcs,nA f)/\(gD p).length<=4194304)
def D4(_:Program):Bool:=true
end Lt
end

section
namespace Go.Am
open Go
def wP(a:Lt.Program)(KK:Int->Prop):Prop:=
 aa (α:=Bool) (fun g=>(kn a)/\if !(DJ a)then(g true)else(g a.SSA)) (fun l=>if l then(KK 3)else(ab (α:=Int) (fun h v4=>(a.Funcs.length<=4611686018427387904->if decide (v4 < (a.Funcs.length:Int))then((0<=v4/\v4.toNat<a.Funcs.length)/\(nA (a.Funcs.getD v4.toNat default))/\if qc (a.Funcs.getD v4.toNat default)then(KK 3)else(h (i64.wrap (v4+1))))else(ab (α:=Int) (fun i d=>have c:=a.Funcs.getD d.toNat default;(a.Funcs.length<=4611686018427387904->if decide (d < (a.Funcs.length:Int))then((0<=d/\d.toNat<a.Funcs.length)/\aa (α:=Bool) (fun f=>((c.Blocks).length<=4611686018427387904->if decide (32 < ((c.Blocks).length:Int))then(f true)else((ka c)/\if decide (200 < (ip c))then(f true)else(f (decide (16 < (i64.wrap (((c.Params).length:Int)+((c.Vars).length:Int))))))))) (fun k=>if k then(KK 2)else(i (i64.wrap (d+1)))))else((jp a)/\if !(fI a)then(KK 4)else(ab (α:=Int) (fun j b=>have e:=a.Funcs.getD b.toNat default;(a.Funcs.length<=4611686018427387904->if decide (b < (a.Funcs.length:Int))then((0<=b/\b.toNat<a.Funcs.length)/\(X0 a e)/\if !decide ((A4 a e)=0)then(KK (A4 a e))else(j (i64.wrap (b+1))))else(KK 0))) 0)))) 0))) 0))
def kD(a:Lt.Program)(KK:Bool->Prop):Prop:=
 aa (α:=Bool) (fun e=>if !PF then(e true)else((NZ a 6000)/\e (!(Lt.Few a 6000)))) (fun h=>if h then(KK PF)else(aa (α:=Bool) (fun c=>((cZ a)/\(oH a)/\c (!decide ((cu a)=(cu a))))/\((cZ a)/\(oH a)/\c (!decide ((cu a)=(cu a))))) (fun v4=>if v4 then(KK false)else(ab (α:=Int) (fun f b=>(a.Funcs.length<=4611686018427387904->if decide (b < (a.Funcs.length:Int))then(aa (α:=Bool) (fun d=>(0<=b/\b.toNat<a.Funcs.length)/\((ka (a.Funcs.getD b.toNat default))/\(0<=b/\b.toNat<a.Funcs.length)/\(ka (a.Funcs.getD b.toNat default))/\d (!decide ((ip (a.Funcs.getD b.toNat default))=(ip (a.Funcs.getD b.toNat default)))))/\((0<=b/\b.toNat<a.Funcs.length)/\(ka (a.Funcs.getD b.toNat default))/\(ka (a.Funcs.getD b.toNat default))/\d (!decide ((ip (a.Funcs.getD b.toNat default))=(ip (a.Funcs.getD b.toNat default)))))) (fun g=>if g then(KK false)else(f (i64.wrap (b+1)))))else(KK true))) 0))))
def Y6(a:Int)(KK:Int->Prop):Prop:=
 KK (i64.wrap a)
def UY(a:a8)(KK:(Int×Bool)->Prop):Prop:=
 ab (α:=Int×Int) (fun k b=>aa (α:=Bool) (fun f=>(a.length<=4611686018427387904->if decide (b.2 < (a.length:Int))then(f (decide (b.2 < 30)))else(f false))) (fun v4=>if v4 then(aa (α:=Int) (fun h=>aa (α:=Bool) (fun i=>if decide (b.2=0)then(((0:Int)<=0/\0<a.length)/\i (decide ((((a.getD 0 0).toNat:Nat):Int)=(((45:UInt8).toNat:Nat):Int))))else(i false)) (fun j=>if j then(h b.1)else((0<=b.2/\b.2.toNat<a.length)/\h (IntKind.u64.wrap ((IntKind.u64.wrap ((IntKind.u64.wrap (b.1*10))+(IntKind.u64.wrap (((a.getD b.2.toNat 0).toNat:Nat):Int)))) - 48))))) (fun l=>k (l,(i64.wrap (b.2+1)))))else(aa (α:=Int) (fun g=>aa (α:=Bool) (fun d=>(a.length<=4611686018427387904->if decide (0 < (a.length:Int))then(((0:Int)<=0/\0<a.length)/\d (decide ((((a.getD 0 0).toNat:Nat):Int)=(((45:UInt8).toNat:Nat):Int))))else(d false))) (fun e=>if e then(g (IntKind.u64.wrap (0-b.1)))else(g b.1))) (fun c=>(il (xr c))/\if !decide ((jH (xr c))=a)then(KK (0,false))else(KK ((xr c),true)))))) (0,0)
def UX(a:a8)(KK:(Int×Bool)->Prop):Prop:=
 (a.length<=4611686018427387904->if !decide ((a.length:Int)=18)then(KK (0,false))else(ab (α:=Int×Int) (fun d b=>if decide (b.2 < 18)then((0<=b.2/\b.2.toNat<a.length)/\aa (α:=Int) (fun c=>if decide (97<=(IntKind.u64.wrap (((a.getD b.2.toNat 0).toNat:Nat):Int)))then(c (IntKind.u64.wrap ((IntKind.u64.wrap (((a.getD b.2.toNat 0).toNat:Nat):Int)) - 87)))else(c (IntKind.u64.wrap ((IntKind.u64.wrap (((a.getD b.2.toNat 0).toNat:Nat):Int)) - 48)))) (fun v4=>(16:Int)≠0/\d ((IntKind.u64.wrap ((IntKind.u64.wrap (b.1*16))+(Int.tmod v4 16))),(i64.wrap (b.2+1)))))else(if !decide ((qd (i64.wrap b.1))=a)then(KK (0,false))else(KK ((i64.wrap b.1),true)))) (0,2)))
def UW(a:a8)(KK:(Lt.Arg×Bool)->Prop):Prop:=
 have z9:=((0:Int)<=4/\(4:Int) < ((5:Nat):Int));have h:=((0:Int)<=3/\(3:Int) < ((5:Nat):Int));have i:=((0:Int)<=2/\(2:Int) < ((5:Nat):Int));have f:=((0:Int)<=1/\(1:Int) < ((5:Nat):Int));have z5:=((0:Int)<=0/\(0:Int) < ((5:Nat):Int));have z4:=(Lt.Arg.mk 4 ([]:List UInt8) 0);have c:=(Lt.Arg.mk 3 ([]:List UInt8) ((Bi a).1));have d:=(Lt.Arg.mk 2 ([]:List UInt8) ((eQ a).1));aa (α:=a8) (fun n=>(a.length<=4611686018427387904->if decide (0 < (a.length:Int))then((0:Int)<=1/\(1<=a.length/\a.length<=a.length)/\n ((a.drop 1).take (a.length - 1)))else(n ([]:List UInt8)))) (fun q=>have z3:=(Lt.Arg.mk 5 ([]:List UInt8) ((eQ q).1));aa (α:=Bool) (fun j=>z5/\if jI (Lt.Arg.mk 1 a 0)then(z5/\(fp (Lt.Arg.mk 1 a 0))/\j (decide ((bt (Lt.Arg.mk 1 a 0))=a)))else(j false)) (fun v4=>if v4 then(z5/\KK ((Lt.Arg.mk 1 a 0),true))else(aa (α:=Bool) (fun l=>f/\if jI d then(f/\(fp d)/\l (decide ((bt d)=a)))else(l false)) (fun p=>if p then(f/\KK (d,true))else(aa (α:=Bool) (fun m=>i/\if jI c then(i/\(fp c)/\m (decide ((bt c)=a)))else(m false)) (fun o=>if o then(i/\KK (c,true))else(aa (α:=Bool) (fun k=>h/\if jI z4 then(h/\(fp z4)/\k (decide ((bt z4)=a)))else(k false)) (fun e=>if e then(h/\KK (z4,true))else(aa (α:=Bool) (fun b=>z9/\if jI z3 then(z9/\(fp z3)/\b (decide ((bt z3)=a)))else(b false)) (fun g=>if g then(z9/\KK (z3,true))else(KK ((Lt.Arg.mk 0 ([]:List UInt8) 0),false))))))))))))
def GG(a:List a8)(KK:Bool->Prop):Prop:=
 ab (α:=Int) (fun c b=>(a.length<=4611686018427387904->if decide (b < (a.length:Int))then((0<=b/\b.toNat<a.length)/\if !(cg (a.getD b.toNat default))then(KK false)else(c (i64.wrap (b+1))))else(KK true))) 0
def Pe(a:a8)(KK:Bool->Prop):Prop:=
 aa (α:=Bool) (fun b=>if decide (a=[105,110,116])then(b true)else(if decide (a=[102,108,111,97,116])then(b true)else(b (cg a)))) (fun c=>KK c)
def GL(a:List a8)(KK:Bool->Prop):Prop:=
 aa (α:=Bool) (fun b=>(a.length<=4611686018427387904->if decide ((a.length:Int)=3)then(((0:Int)<=1/\1<a.length)/\if fy [(a.getD 1 default)] then(((0:Int)<=2/\2<a.length)/\b (DP (a.getD 2 default)))else(b false))else(b false))) (fun c=>KK c)
def GD(b:Int)(a:Int)(KK:Int->Prop):Prop:=
 if decide (a<=b)then(KK 2)else(KK 0)
def ac7(a:a8)(KK:(Int×Bool)->Prop):Prop:=
 ab (α:=Int) (fun c b=>if decide (b<=34)then(((0:Int)<=b/\b < ((35:Nat):Int))/\b.toNat<gw.length/\if decide ((gw.getD b.toNat default)=a)then(KK (b,true))else(c (i64.wrap (b+1))))else(KK (0,false))) 1
def Pd(a:List a8)(c:Bool)(KK:(List Lt.Arg×Bool)->Prop):Prop:=
 ab (α:=List Lt.Arg×Int) (fun e b=>(a.length<=4611686018427387904->if decide (b.2 < (a.length:Int))then((0<=b.2/\b.2.toNat<a.length)/\aa (α:=Bool) (fun d=>if !((Lt.dC (a.getD b.2.toNat default)).2)then(d true)else(if decide (((Lt.dC (a.getD b.2.toNat default)).1).Kind=5)then(d (!c))else(d false))) (fun v4=>if v4 then(KK ([],false))else((b.1.length+([((Lt.dC (a.getD b.2.toNat default)).1)]:List Lt.Arg).length<=4611686018427387904/\(b.1.length+([((Lt.dC (a.getD b.2.toNat default)).1)]:List Lt.Arg).length)*32<=140737488355328)/\e ((b.1++([((Lt.dC (a.getD b.2.toNat default)).1)]:List Lt.Arg)),(i64.wrap (b.2+1))))))else(KK (b.1,true)))) ([],0)
def GH(a:List a8)(c:Int)(b:Bool)(KK:(List Lt.Bind×Bool)->Prop):Prop:=
 aa (α:=Bool) (fun g=>(a.length<=4611686018427387904->if decide ((a.length:Int)<c)then(g true)else((2:Int)≠0/\g (!decide ((Int.tmod (i64.wrap ((a.length:Int)-c)) 2)=0))))) (fun i=>if i then(KK ([],false))else(ab (α:=List Lt.Bind×Int) (fun h v4=>have z4:=i64.wrap (v4.2+1);have z3:=i64.wrap (v4.2+2);have d:=(a.drop z4.toNat).take (z3.toNat-z4.toNat);have e:=([(Lt.Bind.mk (a.getD v4.2.toNat default) (((cj d b).1).getD 0 default))]:List Lt.Bind);(a.length<=4611686018427387904->if decide (v4.2 < (a.length:Int))then((0:Int)<=z4/\(0:Int)<=z3/\(z4.toNat<=z3.toNat/\z3.toNat<=a.length)/\(jq d b)/\aa (α:=Bool) (fun f=>(0<=v4.2/\v4.2.toNat<a.length)/\if !(fy [(a.getD v4.2.toNat default)])then(f true)else(f (!((cj d b).2)))) (fun j=>if j then(KK ([],false))else((0<=v4.2/\v4.2.toNat<a.length)/\((0:Int)<=0/\0 < ((cj d b).1).length)/\(v4.1.length+e.length<=4611686018427387904/\(v4.1.length+e.length)*48<=140737488355328)/\h ((v4.1++e),z3))))else(KK (v4.1,true)))) ([],c)))
def GC(a:Lt.Read)(b:List a8)(KK:((Bool×Int)×Lt.Read)->Prop):Prop:=
 have z20:=decide (a.Where<=2);have g:=!(decide (a.Where=9));have j:=eQ (b.getD 2 default);have i:=((0:Int)<=2/\2<b.length);have h:=!(fy [(b.getD 1 default)]);have m:=([(Lt.Class.mk (b.getD 1 default) [])]:List Lt.Class);have o:=([(Lt.Func.mk (b.getD 1 default) (b.getD 2 default) [] [] [])]:List Lt.Func);have k:=([(Lt.Extern.mk (b.getD 1 default) (j.1))]:List Lt.Extern);have c:=((0:Int)<=1/\1<b.length);have z3:=([(Lt.Var.mk (b.getD 1 default) (b.getD 2 default))]:List Lt.Var);have e:=(i64.wrap ((a.P.Classes.length:Int) - 1));have n:=((0:Int)<=e/\e < ((a.P.Classes.length:Nat):Int));have r:=(a.P.Classes.getD e.toNat default).Fields;have u:=r.length+z3.length<=4611686018427387904/\(r.length+z3.length)*32<=140737488355328;have v:=Lt.Read.mk (Lt.Program.mk a.P.SSA (a.P.Classes.set e.toNat (Lt.Class.mk ((a.P.Classes.getD e.toNat default).Name) (r++z3))) a.P.Globals a.P.Externs a.P.Funcs) a.Where a.Long;((0:Int)<=0/\0<b.length)/\if decide ((b.getD 0 default)=[99,108,97,115,115])then(aa (α:=Bool) (fun s=>if z20 then(if !decide ((b.length:Int)=2)then(s true)else(c/\s h))else(if g then(s true)else(if !decide ((b.length:Int)=2)then(s true)else(c/\s h)))) (fun J=>if J then(KK ((true,3),a))else((a.P.Classes.length<=4611686018427387904->aa (α:=Lt.Read) (fun G=>if decide ((cx (a.P.Classes.length:Int) 8)=0)then(aa (α:=Lt.Read) (fun L=>have F:=((a.P.Classes.length+m.length<=4611686018427387904/\(a.P.Classes.length+m.length)*40<=140737488355328)/\L (Lt.Read.mk (Lt.Program.mk a.P.SSA (a.P.Classes++m) a.P.Globals a.P.Externs a.P.Funcs) a.Where a.Long));c/\F/\F) (fun H=>G (Lt.Read.mk H.P 1 H.Long)))else(G a)) (fun v4=>KK ((true,(cx (a.P.Classes.length:Int) 8)),v4))))))else(if decide ((b.getD 0 default)=[102,105,101,108,100])then(aa (α:=Bool) (fun I=>if !decide (a.Where=1)then(I true)else(I (!(cW b)))) (fun K=>if K then(KK ((true,3),a))else((a.P.Classes.length<=4611686018427387904->n/\(r.length<=4611686018427387904->aa (α:=Lt.Read) (fun x=>have d:=(u/\n/\e.toNat<a.P.Classes.length/\e.toNat=e.toNat/\x v);if decide ((cx (r.length:Int) 8)=0)then(c/\i/\((n/\d/\d)/\(n/\u/\n/\e.toNat<a.P.Classes.length/\e.toNat=e.toNat/\x v))/\(n/\(d/\d)/\(d/\(d/\d))/\(d/\d))/\(n/\d/\d))else(x a)) (fun C=>KK ((true,(cx (r.length:Int) 8)),C)))))))else(if decide ((b.getD 0 default)=[103,108,111,98,97,108])then(aa (α:=Bool) (fun l=>if z20 then(l (!(cW b)))else(if g then(l true)else(l (!(cW b))))) (fun w=>if w then(KK ((true,3),a))else((a.P.Globals.length<=4611686018427387904->aa (α:=Lt.Read) (fun z=>have z9:=(a.P.Globals.length+z3.length<=4611686018427387904/\(a.P.Globals.length+z3.length)*32<=140737488355328)/\z (Lt.Read.mk (Lt.Program.mk a.P.SSA a.P.Classes (a.P.Globals++z3) a.P.Externs a.P.Funcs) a.Where a.Long);c/\i/\z9/\z9) (fun t=>KK ((true,(cx (a.P.Globals.length:Int) 8)),(Lt.Read.mk t.P 2 t.Long)))))))else(if decide ((b.getD 0 default)=[101,120,116,101,114,110])then(aa (α:=Bool) (fun f=>if z20 then(if !decide ((b.length:Int)=3)then(f true)else(c/\f h))else(if g then(f true)else(if !decide ((b.length:Int)=3)then(f true)else(c/\f h)))) (fun y=>if y then(KK ((true,3),a))else(i/\aa (α:=Bool) (fun q=>if !(j.2)then(q true)else(if decide (j.1 < 0)then(q true)else(q (decide (8<j.1))))) (fun B=>if B then(KK ((true,3),a))else((a.P.Externs.length<=4611686018427387904->aa (α:=Lt.Read) (fun D=>have z4:=((a.P.Externs.length+k.length<=4611686018427387904/\(a.P.Externs.length+k.length)*24<=140737488355328)/\D (Lt.Read.mk (Lt.Program.mk a.P.SSA a.P.Classes a.P.Globals (a.P.Externs++k) a.P.Funcs) a.Where a.Long));c/\z4/\z4) (fun v20=>KK ((true,(cx (a.P.Externs.length:Int) 8)),(Lt.Read.mk v20.P 2 v20.Long)))))))))else(if decide ((b.getD 0 default)=[102,117,110,99])then(aa (α:=Bool) (fun p=>if z20 then(p (!(cW b)))else(if g then(p true)else(p (!(cW b))))) (fun E=>if E then(KK ((true,3),a))else((a.P.Funcs.length<=4611686018427387904->aa (α:=Lt.Read) (fun A=>have z5:=((a.P.Funcs.length+o.length<=4611686018427387904/\(a.P.Funcs.length+o.length)*104<=140737488355328)/\A (Lt.Read.mk (Lt.Program.mk a.P.SSA a.P.Classes a.P.Globals a.P.Externs (a.P.Funcs++o)) a.Where a.Long));c/\i/\z5/\z5) (fun v24=>KK ((true,(cx (a.P.Funcs.length:Int) 8)),(Lt.Read.mk v24.P 3 0)))))))else(KK ((false,0),a))))))
def GJ(a:Lt.Read)(b:List a8)(KK:((Bool×Int)×Lt.Read)->Prop):Prop:=
 have z26:=!decide (a.Where=4);have n:=((0:Int)<=2/\2<b.length);have z24:=!decide (a.Where=3);have k:=(!decide ((b.length:Int)=2));have i:=!(fy [(b.getD 1 default)]);have d:=((0:Int)<=1/\1<b.length);have h:=(aM b 2 false).1;have x:=([(Lt.Block.mk (b.getD 1 default) [] [] (Lt.Term.mk 0 (Lt.Arg.mk 0 ([]:List UInt8) 0) [] 0))]:List Lt.Block);have z5:=([(Lt.Var.mk (b.getD 1 default) (b.getD 2 default))]:List Lt.Var);have p:=(([]:List Lt.Var).length+z5.length<=4611686018427387904/\(([]:List Lt.Var).length+z5.length)*32<=140737488355328);have z4:=(i64.wrap ((a.P.Funcs.length:Int) - 1));have c:=(a.P.Funcs.getD z4.toNat default);have z3:=(i64.wrap (((c.Blocks).length:Int) - 1));have l:=((0:Int)<=z3/\z3 < (((c.Blocks).length:Nat):Int));have g:=(c.Blocks).getD z3.toNat default;(a.P.Funcs.length<=4611686018427387904->if decide (0 < (a.P.Funcs.length:Int))then((a.P.Funcs.length<=4611686018427387904->((0:Int)<=z4/\z4 < ((a.P.Funcs.length:Nat):Int))/\((0:Int)<=0/\0<b.length)/\if decide ((b.getD 0 default)=[112,97,114,97,109])then(aa (α:=Bool) (fun W=>if z24 then(W true)else(W (!(cW b)))) (fun v2=>if v2 then(KK ((true,3),a))else(((c.Params).length<=4611686018427387904->aa (α:=Lt.Read) (fun J3=>have F:=((c.Params).length+z5.length<=4611686018427387904/\((c.Params).length+z5.length)*32<=140737488355328)/\z4.toNat<a.P.Funcs.length/\z4.toNat=z4.toNat/\J3 (Lt.Read.mk (Lt.Program.mk a.P.SSA a.P.Classes a.P.Globals a.P.Externs (a.P.Funcs.set z4.toNat (Lt.Func.mk (c.Name) (c.Result) ((c.Params)++z5) (c.Vars) (c.Blocks)))) a.Where a.Long);d/\n/\F/\F) (fun v4=>KK ((true,(cx ((c.Params).length:Int) 6)),v4))))))else(if decide ((b.getD 0 default)=[118,97,114])then(aa (α:=Bool) (fun S=>if z24 then(if z26 then(S true)else(S (!(cW b))))else(S (!(cW b)))) (fun v6=>if v6 then(KK ((true,3),a))else(((c.Vars).length<=4611686018427387904->aa (α:=Lt.Read) (fun J7=>have C:=((c.Vars).length+z5.length<=4611686018427387904/\((c.Vars).length+z5.length)*32<=140737488355328)/\z4.toNat<a.P.Funcs.length/\z4.toNat=z4.toNat/\J7 (Lt.Read.mk (Lt.Program.mk a.P.SSA a.P.Classes a.P.Globals a.P.Externs (a.P.Funcs.set z4.toNat (Lt.Func.mk (c.Name) (c.Result) (c.Params) ((c.Vars)++z5) (c.Blocks)))) a.Where a.Long);d/\n/\C/\C) (fun X=>KK ((true,(cx ((c.Vars).length:Int) 1024)),(Lt.Read.mk X.P 4 X.Long)))))))else(if decide ((b.getD 0 default)=[98,108,111,99,107])then(aa (α:=Bool) (fun r=>if z24 then(if z26 then(if !decide (a.Where=9)then(r true)else(if k then(r true)else(d/\r i)))else(if k then(r true)else(d/\r i)))else(if k then(r true)else(d/\r i))) (fun T=>if T then(KK ((true,3),a))else(((c.Blocks).length<=4611686018427387904->aa (α:=Lt.Read) (fun M=>have v:=((c.Blocks).length+x.length<=4611686018427387904/\((c.Blocks).length+x.length)*136<=140737488355328)/\z4.toNat<a.P.Funcs.length/\z4.toNat=z4.toNat/\M (Lt.Read.mk (Lt.Program.mk a.P.SSA a.P.Classes a.P.Globals a.P.Externs (a.P.Funcs.set z4.toNat (Lt.Func.mk (c.Name) (c.Result) (c.Params) (c.Vars) ((c.Blocks)++x)))) a.Where a.Long);d/\v/\v) (fun z=>KK ((true,(cx ((c.Blocks).length:Int) 256)),(Lt.Read.mk z.P 5 z.Long)))))))else(if decide ((b.getD 0 default)=[112,104,105])then((p9 b 2 false)/\aa (α:=Bool) (fun o=>if !decide (a.Where=5)then(o true)else(if !((aM b 2 false).2)then(o true)else(if decide ((h.length:Int)=0)then(o true)else(d/\o i)))) (fun Q=>if Q then(KK ((true,3),a))else(aa (α:=Bool) (fun H=>(h.length<=4611686018427387904->if decide (256 < (h.length:Int))then(H true)else(H (decide (1024<=a.Long))))) (fun J=>if J then(KK ((true,2),a))else(d/\ab (α:=Int×Lt.Phi) (fun U e=>have y:=((g.Phis).length+([e.2]:List Lt.Phi).length<=4611686018427387904/\((g.Phis).length+([e.2]:List Lt.Phi).length)*40<=140737488355328);have z9:=([(Lt.In.mk ((h.getD e.1.toNat default).Name) ((h.getD e.1.toNat default).A))]:List Lt.In);have Y:=(Lt.Read.mk (Lt.Program.mk a.P.SSA a.P.Classes a.P.Globals a.P.Externs (a.P.Funcs.set z4.toNat (Lt.Func.mk (c.Name) (c.Result) (c.Params) (c.Vars) ((c.Blocks).set z3.toNat (Lt.Block.mk (g.Name) ((g.Phis)++([e.2]:List Lt.Phi)) (g.Code) (Lt.Term.mk ((g.End).Kind) ((g.End).A) ((g.End).To) ((g.End).N))))))) a.Where a.Long);(h.length<=4611686018427387904->if decide (e.1 < (h.length:Int))then(aa (α:=Lt.Phi) (fun V=>have z21:=(e.2.Ins.length+z9.length<=4611686018427387904/\(e.2.Ins.length+z9.length)*48<=140737488355328)/\V (Lt.Phi.mk e.2.Dst (e.2.Ins++z9));(0<=e.1/\e.1.toNat<h.length)/\(0<=e.1/\e.1.toNat<h.length)/\z21/\z21) (fun v20=>U ((i64.wrap (e.1+1)),v20)))else(((c.Blocks).length<=4611686018427387904->aa (α:=Lt.Read) (fun G=>have m:=(y/\l/\z4.toNat<a.P.Funcs.length/\z3.toNat < (c.Blocks).length/\z4.toNat=z4.toNat/\z3.toNat=z3.toNat/\G Y);((l/\m/\m)/\(l/\y/\l/\z4.toNat<a.P.Funcs.length/\z3.toNat < (c.Blocks).length/\z4.toNat=z4.toNat/\z3.toNat=z3.toNat/\G Y))/\(l/\(m/\m)/\(m/\(m/\m))/\(m/\m))/\(l/\m/\m)) (fun u=>KK ((true,0),(Lt.Read.mk u.P u.Where (i64.wrap (u.Long+1))))))))) (0,(Lt.Phi.mk (b.getD 1 default) [])))))))else(KK ((false,0),a)))))))else(((0:Int)<=0/\0<b.length)/\if decide ((b.getD 0 default)=[112,97,114,97,109])then(aa (α:=Bool) (fun D=>if z24 then(D true)else(D (!(cW b)))) (fun v24=>if v24 then(KK ((true,3),a))else(aa (α:=Unit) (fun w=>d/\n/\(p/\w ())/\(p/\w ())) (fun v26=>KK ((true,(cx 0 6)),a)))))else(if decide ((b.getD 0 default)=[118,97,114])then(aa (α:=Bool) (fun t=>if z24 then(if z26 then(t true)else(t (!(cW b))))else(t (!(cW b)))) (fun v28=>if v28 then(KK ((true,3),a))else(aa (α:=Unit) (fun B=>d/\n/\(p/\B ())/\(p/\B ())) (fun ac=>KK ((true,(cx 0 1024)),(Lt.Read.mk a.P 4 a.Long))))))else(if decide ((b.getD 0 default)=[98,108,111,99,107])then(aa (α:=Bool) (fun j=>if z24 then(if z26 then(if !decide (a.Where=9)then(j true)else(if k then(j true)else(d/\j i)))else(if k then(j true)else(d/\j i)))else(if k then(j true)else(d/\j i))) (fun v32=>if v32 then(KK ((true,3),a))else(aa (α:=Unit) (fun I=>have z23:=((([]:List Lt.Block).length+x.length<=4611686018427387904/\(([]:List Lt.Block).length+x.length)*136<=140737488355328)/\I ());d/\z23/\z23) (fun Z=>KK ((true,(cx 0 256)),(Lt.Read.mk a.P 5 a.Long))))))else(if decide ((b.getD 0 default)=[112,104,105])then((p9 b 2 false)/\aa (α:=Bool) (fun q=>if !decide (a.Where=5)then(q true)else(if !((aM b 2 false).2)then(q true)else(if decide ((h.length:Int)=0)then(q true)else(d/\q i)))) (fun v36=>if v36 then(KK ((true,3),a))else(aa (α:=Bool) (fun E=>(h.length<=4611686018427387904->if decide (256 < (h.length:Int))then(E true)else(E (decide (1024<=a.Long))))) (fun K=>if K then(KK ((true,2),a))else(d/\ab (α:=Int×Lt.Phi) (fun R f=>have s:=([(Lt.In.mk ((h.getD f.1.toNat default).Name) ((h.getD f.1.toNat default).A))]:List Lt.In);(h.length<=4611686018427387904->if decide (f.1 < (h.length:Int))then(aa (α:=Lt.Phi) (fun O=>have z20:=(f.2.Ins.length+s.length<=4611686018427387904/\(f.2.Ins.length+s.length)*48<=140737488355328)/\O (Lt.Phi.mk f.2.Dst (f.2.Ins++s));(0<=f.1/\f.1.toNat<h.length)/\(0<=f.1/\f.1.toNat<h.length)/\z20/\z20) (fun L=>R ((i64.wrap (f.1+1)),L)))else(((False)/\(False))/\(False)/\(False)))) (0,(Lt.Phi.mk (b.getD 1 default) [])))))))else(KK ((false,0),a)))))))
def CE(a:Lt.Read)(b:List a8)(KK:((Bool×Int)×Lt.Read)->Prop):Prop:=
 have n:=((0:Int)<=3/\3<b.length);have z24:=(decide ((b.length:Int)=2));have p:=(b.drop 2).take (b.length - 2);have z21:=decide ((b.getD 0 default)=[97,116]);have z20:=eQ (b.getD 3 default);have o:=cj ((b.drop 1).take (2 - 1)) false;have m:=((0:Int)<=2/\2<b.length);have u:=decide ((b.getD 0 default)=[111,98,106]);have v:=decide ((b.getD 0 default)=[114,101,116]);have l:=(b.drop 1).take (b.length - 1);have r:=decide ((b.getD 0 default)=[106,117,109,112]);have w:=decide ((b.getD 0 default)=[98,114,97,110,99,104]);have h:=((0:Int)<=0/\0<b.length);have g:=((0:Int)<=1/\1<b.length);have q:=([(Lt.Virt.mk (b.getD 1 default) ((cj p true).1))]:List Lt.Virt);have z9:=([(Lt.Frame.mk (b.getD 1 default) (b.getD 2 default) (z20.1) ((aM b 4 true).1))]:List Lt.Frame);have e:=(i64.wrap ((a.P.Funcs.length:Int) - 1));have c:=(a.P.Funcs.getD e.toNat default);have f:=(i64.wrap (((c.Blocks).length:Int) - 1));have d:=((c.Blocks).getD f.toNat default);have z23:=Lt.Term.mk ((d.End).Kind) ((d.End).A) ((d.End).To) ((d.End).N);have i:=(i64.wrap (((d.Code).length:Int) - 1));have z3:=((d.Code).getD i.toNat default);h/\aa (α:=Bool) (fun y=>if z21 then(y z21)else(if u then(y u)else(if r then(y r)else(if w then(y w)else(if v then(y v)else(y (decide ((b.getD 0 default)=[116,114,97,112])))))))) (fun R=>if R then(aa (α:=Bool) (fun Q=>if decide (5<=a.Where)then(Q (!(decide (a.Where<=8))))else(Q true)) (fun v4=>if v4 then(KK ((true,3),a))else((a.P.Funcs.length<=4611686018427387904->((0:Int)<=e/\e < ((a.P.Funcs.length:Nat):Int))/\((c.Blocks).length<=4611686018427387904->((0:Int)<=f/\f < (((c.Blocks).length:Nat):Int))/\h/\if z21 then((p9 b 4 true)/\aa (α:=Bool) (fun J=>if !decide (a.Where=7)then(J true)else(if !((aM b 4 true).2)then(J true)else(g/\m/\J (!(fy [(b.getD 1 default),(b.getD 2 default)]))))) (fun T=>if T then(KK ((true,3),a))else(n/\aa (α:=Bool) (fun K=>if !(z20.2)then(K true)else(if decide (z20.1 < 0)then(K true)else(K (decide (1024<z20.1))))) (fun S=>if S then(KK ((true,3),a))else(((d.Code).length<=4611686018427387904->((0:Int)<=i/\i < (((d.Code).length:Nat):Int))/\aa (α:=Bool) (fun O=>(((aM b 4 true).1).length<=4611686018427387904->if decide (16 < (((aM b 4 true).1).length:Int))then(O true)else(O (decide (16<=((z3.Frames).length:Int)))))) (fun L=>if L then(KK ((true,2),a))else(aa (α:=Lt.Read) (fun H=>have z4:=(((z3.Frames).length+z9.length<=4611686018427387904/\((z3.Frames).length+z9.length)*64<=140737488355328)/\e.toNat<a.P.Funcs.length/\f.toNat < (c.Blocks).length/\i.toNat < (d.Code).length/\e.toNat=e.toNat/\f.toNat=f.toNat/\i.toNat=i.toNat/\H (Lt.Read.mk (Lt.Program.mk a.P.SSA a.P.Classes a.P.Globals a.P.Externs (a.P.Funcs.set e.toNat (Lt.Func.mk (c.Name) (c.Result) (c.Params) (c.Vars) ((c.Blocks).set f.toNat (Lt.Block.mk (d.Name) (d.Phis) ((d.Code).set i.toNat (Lt.Instr.mk (z3.Op) (z3.Dst) (z3.Name) (z3.Args) ((z3.Frames)++z9) (z3.Objs))) z23))))) a.Where a.Long));g/\m/\z4/\z4) (fun G=>KK ((true,0),G))))))))))else(if u then(aa (α:=Bool) (fun k=>if decide (a.Where < 7)then(k true)else(if decide ((b.length:Int) < 2)then(k true)else(if decide (10 < (b.length:Int))then(k true)else(g/\k (!(fy [(b.getD 1 default)])))))) (fun I=>if I then(KK ((true,3),a))else((0:Int)<=2/\(2<=b.length/\b.length<=b.length)/\(jq p true)/\if !((cj p true).2)then(KK ((true,3),a))else(((d.Code).length<=4611686018427387904->((0:Int)<=i/\i < (((d.Code).length:Nat):Int))/\((z3.Objs).length<=4611686018427387904->aa (α:=Lt.Read) (fun M=>have z5:=(((z3.Objs).length+q.length<=4611686018427387904/\((z3.Objs).length+q.length)*40<=140737488355328)/\e.toNat<a.P.Funcs.length/\f.toNat < (c.Blocks).length/\i.toNat < (d.Code).length/\e.toNat=e.toNat/\f.toNat=f.toNat/\i.toNat=i.toNat/\M (Lt.Read.mk (Lt.Program.mk a.P.SSA a.P.Classes a.P.Globals a.P.Externs (a.P.Funcs.set e.toNat (Lt.Func.mk (c.Name) (c.Result) (c.Params) (c.Vars) ((c.Blocks).set f.toNat (Lt.Block.mk (d.Name) (d.Phis) ((d.Code).set i.toNat (Lt.Instr.mk (z3.Op) (z3.Dst) (z3.Name) (z3.Args) (z3.Frames) ((z3.Objs)++q))) z23))))) a.Where a.Long));g/\z5/\z5) (fun C=>KK ((true,(cx ((z3.Objs).length:Int) 99)),(Lt.Read.mk C.P 8 C.Long)))))))))else(aa (α:=Bool×Int×Lt.Read) (fun j=>aa (α:=Bool) (fun x=>h/\if r then(if z24 then(g/\x (fy [(b.getD 1 default)]))else(x false))else(x false)) (fun v20=>if v20 then(g/\e.toNat<a.P.Funcs.length/\f.toNat < (c.Blocks).length/\j (true,0,(Lt.Read.mk (Lt.Program.mk a.P.SSA a.P.Classes a.P.Globals a.P.Externs (a.P.Funcs.set e.toNat (Lt.Func.mk (c.Name) (c.Result) (c.Params) (c.Vars) ((c.Blocks).set f.toNat (Lt.Block.mk (d.Name) (d.Phis) (d.Code) (Lt.Term.mk 1 (Lt.Arg.mk 0 ([]:List UInt8) 0) [(b.getD 1 default)] 0)))))) 9 a.Long)))else(aa (α:=Unit) (fun E=>aa (α:=Bool) (fun s=>h/\if w then(if decide ((b.length:Int)=4)then(m/\n/\s (fy [(b.getD 2 default),(b.getD 3 default)]))else(s false))else(s false)) (fun v24=>if v24 then((0:Int)<=1/\(0:Int)<=2/\(1<=2/\2<=b.length)/\(jq ((b.drop 1).take (2 - 1)) false)/\if o.2 then(((0:Int)<=0/\0 < (o.1).length)/\m/\n/\e.toNat<a.P.Funcs.length/\f.toNat < (c.Blocks).length/\j (true,0,(Lt.Read.mk (Lt.Program.mk a.P.SSA a.P.Classes a.P.Globals a.P.Externs (a.P.Funcs.set e.toNat (Lt.Func.mk (c.Name) (c.Result) (c.Params) (c.Vars) ((c.Blocks).set f.toNat (Lt.Block.mk (d.Name) (d.Phis) (d.Code) (Lt.Term.mk 2 ((o.1).getD 0 default) [(b.getD 2 default),(b.getD 3 default)] 0)))))) 9 a.Long)))else(E ()))else(E ()))) (fun V=>aa (α:=Unit) (fun z=>aa (α:=Bool) (fun F=>h/\if v then(F z24)else(F false)) (fun v28=>if v28 then((0:Int)<=1/\(1<=b.length/\b.length<=b.length)/\(jq l false)/\if (cj l false).2 then(((0:Int)<=0/\0 < ((cj l false).1).length)/\e.toNat<a.P.Funcs.length/\f.toNat < (c.Blocks).length/\j (true,0,(Lt.Read.mk (Lt.Program.mk a.P.SSA a.P.Classes a.P.Globals a.P.Externs (a.P.Funcs.set e.toNat (Lt.Func.mk (c.Name) (c.Result) (c.Params) (c.Vars) ((c.Blocks).set f.toNat (Lt.Block.mk (d.Name) (d.Phis) (d.Code) (Lt.Term.mk 3 (((cj l false).1).getD 0 default) [] 0)))))) 9 a.Long)))else(z ()))else(z ()))) (fun v26=>aa (α:=Unit) (fun D=>aa (α:=Bool) (fun B=>h/\if decide ((b.getD 0 default)=[116,114,97,112])then(B z24)else(B false)) (fun v32=>if v32 then(g/\if (eQ (b.getD 1 default)).2 then(e.toNat<a.P.Funcs.length/\f.toNat < (c.Blocks).length/\j (true,0,(Lt.Read.mk (Lt.Program.mk a.P.SSA a.P.Classes a.P.Globals a.P.Externs (a.P.Funcs.set e.toNat (Lt.Func.mk (c.Name) (c.Result) (c.Params) (c.Vars) ((c.Blocks).set f.toNat (Lt.Block.mk (d.Name) (d.Phis) (d.Code) (Lt.Term.mk 4 (Lt.Arg.mk 0 ([]:List UInt8) 0) [] ((eQ (b.getD 1 default)).1))))))) 9 a.Long)))else(D ()))else(D ()))) (fun U=>j (true,3,(Lt.Read.mk a.P 9 a.Long)))))))) (fun t=>KK ((t.1,t.2.1),t.2.2)))))))))else(KK ((false,0),a)))
def GB(a:Lt.Read)(b:List a8)(KK:((Int)×Lt.Read)->Prop):Prop:=
 have z5:=(i64.wrap ((a.P.Funcs.length:Int) - 1));have h:=(a.P.Funcs.getD z5.toNat default);have z3:=(i64.wrap (((h.Blocks).length:Int) - 1));have z9:=((0:Int)<=z3/\z3 < (((h.Blocks).length:Nat):Int));have j:=(h.Blocks).getD z3.toNat default;aa (α:=List a8×Lt.Instr) (fun z=>aa (α:=Bool) (fun B=>(b.length<=4611686018427387904->if decide (2 < (b.length:Int))then(((0:Int)<=1/\1<b.length)/\B (decide ((b.getD 1 default)=[61])))else(B false))) (fun v4=>if v4 then(((0:Int)<=0/\0<b.length)/\if !(fy [(b.getD 0 default)])then(KK (3,a))else(((0:Int)<=0/\0<b.length)/\(0:Int)<=2/\(2<=b.length/\b.length<=b.length)/\z (((b.drop 2).take (b.length - 2)),(Lt.Instr.mk 0 (b.getD 0 default) ([]:List UInt8) [] [] []))))else(z (b,(Lt.Instr.mk 0 ([]:List UInt8) ([]:List UInt8) [] [] []))))) (fun c=>have m:=(c.1.drop 3).take (c.1.length - 3);have g:=([(c.1.getD 1 default)]:List a8);have d:=Lt.sOp (c.1.getD 0 default);((0:Int)<=0/\0<c.1.length)/\aa (α:=Bool) (fun r=>if decide (5<=a.Where)then(if !(decide (a.Where<=8))then(r true)else(if !(d.2)then(r true)else(r (!(((Lt.rOf (d.1)).1).Dst==(!decide (c.2.Dst=([]:List UInt8))))))))else(r true)) (fun C=>if C then(KK (3,a))else(aa (α:=List a8×Lt.Instr) (fun w=>aa (α:=Bool) (fun y=>if decide (d.1=26)then(y true)else(y (decide (d.1=27)))) (fun x=>if x then((c.1.length<=4611686018427387904->if decide ((c.1.length:Int) < 3)then(KK (3,a))else(((0:Int)<=2/\2<c.1.length)/\((0:Int)<=1/\1<c.1.length)/\(([]:List a8).length+g.length<=4611686018427387904/\(([]:List a8).length+g.length)*16<=140737488355328)/\(0:Int)<=3/\(3<=c.1.length/\c.1.length<=c.1.length)/\(g.length+m.length<=4611686018427387904/\(g.length+m.length)*16<=140737488355328)/\w ((g++m),(Lt.Instr.mk (d.1) c.2.Dst (c.1.getD 2 default) [] [] [])))))else(if ((Lt.rOf (d.1)).1).Named then((c.1.length<=4611686018427387904->if decide ((c.1.length:Int) < 2)then(KK (3,a))else(((0:Int)<=1/\1<c.1.length)/\(0:Int)<=2/\(2<=c.1.length/\c.1.length<=c.1.length)/\w (((c.1.drop 2).take (c.1.length - 2)),(Lt.Instr.mk (d.1) c.2.Dst (c.1.getD 1 default) [] [] [])))))else((0:Int)<=1/\(1<=c.1.length/\c.1.length<=c.1.length)/\w (((c.1.drop 1).take (c.1.length - 1)),(Lt.Instr.mk (d.1) c.2.Dst c.2.Name [] [] [])))))) (fun l=>have k:=(((cj l.1 false).1).length:Int);have u:=([(Lt.Instr.mk l.2.Op l.2.Dst l.2.Name ((cj l.1 false).1) [] [])]:List Lt.Instr);have n:=(j.Code).length+u.length<=4611686018427387904/\((j.Code).length+u.length)*112<=140737488355328;have z4:=(Lt.Read.mk (Lt.Program.mk a.P.SSA a.P.Classes a.P.Globals a.P.Externs (a.P.Funcs.set z5.toNat (Lt.Func.mk (h.Name) (h.Result) (h.Params) (h.Vars) ((h.Blocks).set z3.toNat (Lt.Block.mk (j.Name) (j.Phis) ((j.Code)++u) (Lt.Term.mk ((j.End).Kind) ((j.End).A) ((j.End).To) ((j.End).N))))))) a.Where (i64.wrap (a.Long+1)));(jq l.1 false)/\aa (α:=Bool) (fun e=>if !((cj l.1 false).2)then(e true)else(if ((Lt.rOf (d.1)).1).Named then(if !(fy [l.2.Name])then(e true)else(if decide (k < ((Lt.rOf (d.1)).1).Least)then(e true)else(e (decide (((Lt.rOf (d.1)).1).Most<k)))))else(if decide (k < ((Lt.rOf (d.1)).1).Least)then(e true)else(e (decide (((Lt.rOf (d.1)).1).Most<k)))))) (fun s=>if s then(KK (3,a))else(if decide (1024<=a.Long)then(KK (2,a))else((a.P.Funcs.length<=4611686018427387904->((0:Int)<=z5/\z5 < ((a.P.Funcs.length:Nat):Int))/\((h.Blocks).length<=4611686018427387904->aa (α:=Lt.Read) (fun o=>have f:=(n/\z9/\z5.toNat<a.P.Funcs.length/\z3.toNat < (h.Blocks).length/\z5.toNat=z5.toNat/\z3.toNat=z3.toNat/\o z4);((z9/\f/\f)/\(z9/\n/\z9/\z5.toNat<a.P.Funcs.length/\z3.toNat < (h.Blocks).length/\z5.toNat=z5.toNat/\z3.toNat=z3.toNat/\o z4))/\(z9/\(f/\f)/\(f/\(f/\f))/\(f/\f))/\(z9/\f/\f)) (fun i=>aa (α:=Lt.Read) (fun q=>aa (α:=Bool) (fun p=>if decide (d.1=31)then(p true)else(p (decide (d.1=34)))) (fun v=>if v then(q (Lt.Read.mk i.P 7 i.Long))else(q (Lt.Read.mk i.P 6 i.Long)))) (fun t=>KK (0,t))))))))))))
def GF(b:Lt.Read)(a:List a8)(c:Bool)(KK:((Int)×Lt.Read)->Prop):Prop:=
 have e:=Lt.Read.mk (((bB b a).2).P) (((bB b a).2).Where) (((bB b a).2).Long);aa (α:=Bool) (fun i=>(a.length<=4611686018427387904->if decide (2 < (a.length:Int))then(((0:Int)<=1/\1<a.length)/\i (decide ((a.getD 1 default)=[61])))else(i false))) (fun n=>if n then((im b a)/\KK (((eN b a).1),(Lt.Read.mk (((eN b a).2).P) (((eN b a).2).Where) (((eN b a).2).Long))))else(((0:Int)<=0/\0<a.length)/\if decide ((a.getD 0 default)=[115,115,97])then(aa (α:=Bool) (fun j=>if !c then(j true)else(j (!decide ((a.length:Int)=1)))) (fun v4=>if v4 then(KK (3,b))else(KK (0,(Lt.Read.mk (Lt.Program.mk true b.P.Classes b.P.Globals b.P.Externs b.P.Funcs) b.Where b.Long)))))else((im b a)/\aa (α:=Bool×Int×Lt.Read) (fun l=>if !((bB b a).1.1)then((im e a)/\l ((bW e a).1.1,(bW e a).1.2,(Lt.Read.mk (((bW e a).2).P) (((bW e a).2).Where) (((bW e a).2).Long))))else(l ((bB b a).1.1,(bB b a).1.2,e))) (fun f=>have g:=cr f.2.2 a;aa (α:=Bool×Int×Lt.Read) (fun m=>if !f.1 then((im f.2.2 a)/\m (g.1.1,g.1.2,(Lt.Read.mk ((g.2).P) ((g.2).Where) ((g.2).Long))))else(m (f.1,f.2.1,f.2.2))) (fun d=>aa (α:=Int×Lt.Read) (fun k=>if !d.1 then((im d.2.2 a)/\k ((eN d.2.2 a).1,(Lt.Read.mk (((eN d.2.2 a).2).P) (((eN d.2.2 a).2).Where) (((eN d.2.2 a).2).Long))))else(k (d.2.1,d.2.2))) (fun h=>KK (h.1,h.2)))))))
def GK(b:a8)(KK:(List Lt.RLine×Int×Int)->Prop):Prop:=
 (b.length<=4611686018427387904->if decide (4194304 < (b.length:Int))then(KK ([],0,2))else(ab (α:=List Lt.RLine×List a8×a8×Int×Bool×Bool×Int) (fun u a=>have z3:=([(b.getD a.2.2.2.2.2.2.toNat 0)]:List UInt8);have g:=(((b.getD a.2.2.2.2.2.2.toNat 0).toNat:Nat):Int);have e:=(0<=a.2.2.2.2.2.2/\a.2.2.2.2.2.2.toNat<b.length);(b.length<=4611686018427387904->if decide (a.2.2.2.2.2.2<=(b.length:Int))then(aa (α:=List Lt.RLine×List a8×a8×Int×Bool×Bool) (fun r=>aa (α:=Bool) (fun s=>(b.length<=4611686018427387904->if decide (a.2.2.2.2.2.2=(b.length:Int))then(s true)else(e/\s (decide (g=(((10:UInt8).toNat:Nat):Int)))))) (fun m=>aa (α:=Bool) (fun t=>aa (α:=Bool) (fun p=>if !m then(e/\p (decide (g=(((59:UInt8).toNat:Nat):Int))))else(p false)) (fun o=>if o then(t true)else(t a.2.2.2.2.1))) (fun q=>aa (α:=List a8×a8×Bool) (fun h=>aa (α:=Bool) (fun d=>if m then(d true)else(if q then(d true)else(e/\if decide (g=(((32:UInt8).toNat:Nat):Int))then(d true)else(e/\d (decide (g=(((9:UInt8).toNat:Nat):Int))))))) (fun l=>if l then(aa (α:=List a8) (fun j=>(a.2.2.1.length<=4611686018427387904->if decide (0 < (a.2.2.1.length:Int))then((a.2.1.length+([a.2.2.1]:List a8).length<=4611686018427387904/\(a.2.1.length+([a.2.2.1]:List a8).length)*16<=140737488355328)/\j (a.2.1++([a.2.2.1]:List a8)))else(j a.2.1))) (fun k=>h (k,[],a.2.2.2.2.2.1)))else(aa (α:=Bool) (fun f=>if a.2.2.2.2.2.1 then(f true)else(e/\if decide (g < (((33:UInt8).toNat:Nat):Int))then(f true)else(e/\f (decide ((((126:UInt8).toNat:Nat):Int)<g))))) (fun n=>e/\(a.2.2.1.length+z3.length<=4611686018427387904/\(a.2.2.1.length+z3.length)*1<=140737488355328)/\h (a.2.1,(a.2.2.1++z3),n))))) (fun c=>have z4:=([(Lt.RLine.mk a.2.2.2.1 c.1)]:List Lt.RLine);if m then(if c.2.2 then(KK ([],a.2.2.2.1,3))else(aa (α:=List Lt.RLine) (fun i=>(c.1.length<=4611686018427387904->if decide (0 < (c.1.length:Int))then((a.1.length+z4.length<=4611686018427387904/\(a.1.length+z4.length)*32<=140737488355328)/\i (a.1++z4))else(i a.1))) (fun v20=>r (v20,[],c.2.1,(i64.wrap (a.2.2.2.1+1)),false,c.2.2))))else(r (a.1,c.1,c.2.1,a.2.2.2.1,q,c.2.2)))))) (fun v4=>u (v4.1,v4.2.1,v4.2.2.1,v4.2.2.2.1,v4.2.2.2.2.1,v4.2.2.2.2.2,(i64.wrap (a.2.2.2.2.2.2+1)))))else(KK (a.1,0,0)))) ([],[],[],1,false,false,0)))
def GI(a:a8)(KK:(Lt.Program×Int×Int)->Prop):Prop:=
 have d:=Lt.Program.mk false [] [] [] [];if !decide ((eE a).2.2=0)then(KK (d,(eE a).2.1,(eE a).2.2))else(ab (α:=Int×Lt.Read) (fun f b=>have z3:=((eE a).1).getD b.1.toNat default;have c:=dJ b.2 (z3.Words) (decide (b.1=0));(((eE a).1).length<=4611686018427387904->if decide (b.1 < (((eE a).1).length:Int))then((0<=b.1/\b.1.toNat < ((eE a).1).length)/\(KD b.2 (z3.Words) (decide (b.1=0)))/\if !decide (c.1=0)then((0<=b.1/\b.1.toNat < ((eE a).1).length)/\KK (d,z3.N,c.1))else(f ((i64.wrap (b.1+1)),(Lt.Read.mk ((c.2).P) ((c.2).Where) ((c.2).Long)))))else(aa (α:=Bool) (fun e=>if decide (b.2.Where<=2)then(e false)else(e (!(decide (b.2.Where=9))))) (fun v4=>if v4 then(KK (d,0,3))else(KK (b.2.P,0,0)))))) (0,(Lt.Read.mk d 0 0)))
def O8(a:Lt.Program)(KK:Bool->Prop):Prop:=
 (kn a)/\if decide ((lr (gD a)).2.2=0)then(KK (Lt.Same a ((lr (gD a)).1)))else(KK false)
def yL(a:List Lt.Var)(b:List Lt.Var)(KK:Bool->Prop):Prop:=
 (a.length<=4611686018427387904->(b.length<=4611686018427387904->if !decide ((a.length:Int)=(b.length:Int))then(KK false)else(ab (α:=Int) (fun d c=>(a.length<=4611686018427387904->if decide (c < (a.length:Int))then((0<=c/\c.toNat<a.length)/\(0<=c/\c.toNat<b.length)/\if !(decide ((a.getD c.toNat default).Name=(b.getD c.toNat default).Name)&&decide ((a.getD c.toNat default).Type_=(b.getD c.toNat default).Type_))then(KK false)else(d (i64.wrap (c+1))))else(KK true))) 0)))
def yK(a:List Lt.Arg)(b:List Lt.Arg)(KK:Bool->Prop):Prop:=
 (a.length<=4611686018427387904->(b.length<=4611686018427387904->if !decide ((a.length:Int)=(b.length:Int))then(KK false)else(ab (α:=Int) (fun d c=>(a.length<=4611686018427387904->if decide (c < (a.length:Int))then((0<=c/\c.toNat<a.length)/\(0<=c/\c.toNat<b.length)/\if !(decide ((a.getD c.toNat default).Kind=(b.getD c.toNat default).Kind)&&(decide ((a.getD c.toNat default).S=(b.getD c.toNat default).S)&&decide ((a.getD c.toNat default).N=(b.getD c.toNat default).N)))then(KK false)else(d (i64.wrap (c+1))))else(KK true))) 0)))
def wM(a:Lt.Instr)(b:Lt.Instr)(KK:Bool->Prop):Prop:=
 aa (α:=Bool) (fun g=>if !decide (a.Op=b.Op)then(g true)else(if !decide (a.Dst=b.Dst)then(g true)else(if !decide (a.Name=b.Name)then(g true)else(if !(qh a.Args b.Args)then(g true)else(if !decide ((a.Frames.length:Int)=(b.Frames.length:Int))then(g true)else(g (!decide ((a.Objs.length:Int)=(b.Objs.length:Int))))))))) (fun n=>if n then(KK false)else(ab (α:=Int) (fun k v4=>have f:=b.Frames.getD v4.toNat default;have e:=a.Frames.getD v4.toNat default;(a.Frames.length<=4611686018427387904->if decide (v4 < (a.Frames.length:Int))then((0<=v4/\v4.toNat<a.Frames.length)/\(0<=v4/\v4.toNat<b.Frames.length)/\aa (α:=Bool) (fun i=>if !decide (e.Func=f.Func)then(i true)else(if !decide (e.Block=f.Block)then(i true)else(if !decide (e.At=f.At)then(i true)else(i (!decide (((e.Vars).length:Int)=((f.Vars).length:Int))))))) (fun o=>if o then(KK false)else(ab (α:=Int) (fun m d=>have z4:=(f.Vars).getD d.toNat default;have z3:=(e.Vars).getD d.toNat default;((e.Vars).length<=4611686018427387904->if decide (d < ((e.Vars).length:Int))then((0<=d/\d.toNat < (e.Vars).length)/\(0<=d/\d.toNat < (f.Vars).length)/\if !(decide (z3.Name=z4.Name)&&(decide ((z3.A).Kind=(z4.A).Kind)&&(decide ((z3.A).S=(z4.A).S)&&decide ((z3.A).N=(z4.A).N))))then(KK false)else(m (i64.wrap (d+1))))else(k (i64.wrap (v4+1))))) 0)))else(ab (α:=Int) (fun l c=>(a.Objs.length<=4611686018427387904->if decide (c < (a.Objs.length:Int))then(aa (α:=Bool) (fun h=>(0<=c/\c.toNat<a.Objs.length)/\(0<=c/\c.toNat<b.Objs.length)/\if !decide ((a.Objs.getD c.toNat default).Class=(b.Objs.getD c.toNat default).Class)then(h true)else((0<=c/\c.toNat<a.Objs.length)/\(0<=c/\c.toNat<b.Objs.length)/\h (!(qh ((a.Objs.getD c.toNat default).Vals) ((b.Objs.getD c.toNat default).Vals))))) (fun j=>if j then(KK false)else(l (i64.wrap (c+1)))))else(KK true))) 0))) 0))
def wQ(a:Lt.Block)(b:Lt.Block)(KK:Bool->Prop):Prop:=
 aa (α:=Bool) (fun f=>if !decide (a.Name=b.Name)then(f true)else(if !decide ((a.Phis.length:Int)=(b.Phis.length:Int))then(f true)else(if !decide ((a.Code.length:Int)=(b.Code.length:Int))then(f true)else(if !decide (a.End.Kind=b.End.Kind)then(f true)else(if !(decide (a.End.A.Kind=b.End.A.Kind)&&(decide (a.End.A.S=b.End.A.S)&&decide (a.End.A.N=b.End.A.N)))then(f true)else(if !decide (a.End.N=b.End.N)then(f true)else(f (!decide ((a.End.To.length:Int)=(b.End.To.length:Int)))))))))) (fun p=>if p then(KK false)else(ab (α:=Int) (fun l v4=>(a.End.To.length<=4611686018427387904->if decide (v4 < (a.End.To.length:Int))then((0<=v4/\v4.toNat<a.End.To.length)/\(0<=v4/\v4.toNat<b.End.To.length)/\if !decide ((a.End.To.getD v4.toNat default)=(b.End.To.getD v4.toNat default))then(KK false)else(l (i64.wrap (v4+1))))else(ab (α:=Int) (fun m e=>have z5:=(0<=e/\e.toNat<b.Phis.length);have z4:=b.Phis.getD e.toNat default;have z3:=(0<=e/\e.toNat<a.Phis.length);have g:=(a.Phis.getD e.toNat default).Ins;(a.Phis.length<=4611686018427387904->if decide (e < (a.Phis.length:Int))then(aa (α:=Bool) (fun k=>z3/\z5/\if !decide ((a.Phis.getD e.toNat default).Dst=z4.Dst)then(k true)else(z3/\z5/\k (!decide ((g.length:Int)=((z4.Ins).length:Int))))) (fun o=>if o then(KK false)else(ab (α:=Int) (fun n c=>have h:=g.getD c.toNat default;have i:=(z4.Ins).getD c.toNat default;z3/\(g.length<=4611686018427387904->if decide (c < (g.length:Int))then(z3/\(0<=c/\c.toNat<g.length)/\z5/\(0<=c/\c.toNat < (z4.Ins).length)/\if !(decide (h.Block=i.Block)&&(decide ((h.A).Kind=(i.A).Kind)&&(decide ((h.A).S=(i.A).S)&&decide ((h.A).N=(i.A).N))))then(KK false)else(n (i64.wrap (c+1))))else(m (i64.wrap (e+1))))) 0)))else(ab (α:=Int) (fun j d=>(a.Code.length<=4611686018427387904->if decide (d < (a.Code.length:Int))then((0<=d/\d.toNat<a.Code.length)/\(0<=d/\d.toNat<b.Code.length)/\if !(qF (a.Code.getD d.toNat default) (b.Code.getD d.toNat default))then(KK false)else(j (i64.wrap (d+1))))else(KK true))) 0))) 0))) 0))
def yC(a:Lt.Func)(b:Lt.Func)(KK:Bool->Prop):Prop:=
 aa (α:=Bool) (fun e=>if !decide (a.Name=b.Name)then(e true)else(if !decide (a.Result=b.Result)then(e true)else(if !(ju a.Params b.Params)then(e true)else(if !(ju a.Vars b.Vars)then(e true)else(e (!decide ((a.Blocks.length:Int)=(b.Blocks.length:Int)))))))) (fun g=>if g then(KK false)else(ab (α:=Int) (fun f v4=>have c:=b.Blocks.getD v4.toNat default;have d:=a.Blocks.getD v4.toNat default;(a.Blocks.length<=4611686018427387904->if decide (v4 < (a.Blocks.length:Int))then((0<=v4/\v4.toNat<a.Blocks.length)/\(0<=v4/\v4.toNat<b.Blocks.length)/\if !(rv (Lt.Block.mk (d.Name) (d.Phis) (d.Code) (Lt.Term.mk ((d.End).Kind) ((d.End).A) ((d.End).To) ((d.End).N))) (Lt.Block.mk (c.Name) (c.Phis) (c.Code) (Lt.Term.mk ((c.End).Kind) ((c.End).A) ((c.End).To) ((c.End).N))))then(KK false)else(f (i64.wrap (v4+1))))else(KK true))) 0))
def UK(a:Lt.Program)(b:Lt.Program)(KK:Bool->Prop):Prop:=
 aa (α:=Bool) (fun e=>if !(a.SSA==b.SSA)then(e true)else(if !decide ((a.Classes.length:Int)=(b.Classes.length:Int))then(e true)else(if !(ju a.Globals b.Globals)then(e true)else(if !decide ((a.Externs.length:Int)=(b.Externs.length:Int))then(e true)else(e (!decide ((a.Funcs.length:Int)=(b.Funcs.length:Int)))))))) (fun j=>if j then(KK false)else(ab (α:=Int) (fun g v4=>(a.Classes.length<=4611686018427387904->if decide (v4 < (a.Classes.length:Int))then(aa (α:=Bool) (fun f=>(0<=v4/\v4.toNat<a.Classes.length)/\(0<=v4/\v4.toNat<b.Classes.length)/\if !decide ((a.Classes.getD v4.toNat default).Name=(b.Classes.getD v4.toNat default).Name)then(f true)else((0<=v4/\v4.toNat<a.Classes.length)/\(0<=v4/\v4.toNat<b.Classes.length)/\f (!(ju ((a.Classes.getD v4.toNat default).Fields) ((b.Classes.getD v4.toNat default).Fields))))) (fun k=>if k then(KK false)else(g (i64.wrap (v4+1)))))else(ab (α:=Int) (fun i d=>(a.Externs.length<=4611686018427387904->if decide (d < (a.Externs.length:Int))then((0<=d/\d.toNat<a.Externs.length)/\(0<=d/\d.toNat<b.Externs.length)/\if !(decide ((a.Externs.getD d.toNat default).Name=(b.Externs.getD d.toNat default).Name)&&decide ((a.Externs.getD d.toNat default).N=(b.Externs.getD d.toNat default).N))then(KK false)else(i (i64.wrap (d+1))))else(ab (α:=Int) (fun h c=>(a.Funcs.length<=4611686018427387904->if decide (c < (a.Funcs.length:Int))then((0<=c/\c.toNat<a.Funcs.length)/\(0<=c/\c.toNat<b.Funcs.length)/\if !(tQ (a.Funcs.getD c.toNat default) (b.Funcs.getD c.toNat default))then(KK false)else(h (i64.wrap (c+1))))else(KK true))) 0))) 0))) 0))
def Gn(a:Lt.Func)(b:a8)(KK:(Int×Bool)->Prop):Prop:=
 ab (α:=Int) (fun d c=>(a.Blocks.length<=4611686018427387904->if decide (c < (a.Blocks.length:Int))then((0<=c/\c.toNat<a.Blocks.length)/\if decide ((a.Blocks.getD c.toNat default).Name=b)then(KK (c,true))else(d (i64.wrap (c+1))))else(KK (0,false)))) 0
def Gk(b:Lt.Func)(a:Int)(c:Int)(KK:Bool->Prop):Prop:=
 ab (α:=Int) (fun f d=>(0<=a/\a.toNat<b.Blocks.length)/\((((b.Blocks.getD a.toNat default).End).To).length<=4611686018427387904->if decide (d < ((((b.Blocks.getD a.toNat default).End).To).length:Int))then((0<=a/\a.toNat<b.Blocks.length)/\(0<=d/\d.toNat < (((b.Blocks.getD a.toNat default).End).To).length)/\aa (α:=Bool) (fun e=>if (aI b ((((b.Blocks.getD a.toNat default).End).To).getD d.toNat default)).2 then(e (decide ((aI b ((((b.Blocks.getD a.toNat default).End).To).getD d.toNat default)).1=c)))else(e false)) (fun v4=>if v4 then(KK true)else(f (i64.wrap (d+1)))))else(KK false))) 0
def OW(b:Lt.Func)(KK:(List Bool)->Prop):Prop:=
 have c:=(b.Blocks.length:Int);(b.Blocks.length<=4611686018427387904->((0:Int)<=c/\c<=4611686018427387904/\1*c.toNat<=281474976710656)/\((List.replicate c.toNat (dflt .bo)).length<=4611686018427387904->ab (α:=List Bool×Bool) (fun m e=>if e.2 then(((0:Int)<=0/\0 < ((e.1.length:Nat):Int))/\0<e.1.length/\ab (α:=List Bool×Bool×Int) (fun j v4=>(v4.1.length<=4611686018427387904->if decide (v4.2.2 < (v4.1.length:Int))then(ab (α:=List Bool×Bool×Int) (fun k a=>aa (α:=Bool) (fun i=>(a.1.length<=4611686018427387904->if decide (a.2.2 < (a.1.length:Int))then(((0:Int)<=v4.2.2/\v4.2.2 < ((a.1.length:Nat):Int))/\i (a.1.getD v4.2.2.toNat default))else(i false))) (fun l=>if l then(aa (α:=List Bool×Bool) (fun h=>aa (α:=Bool) (fun d=>((0:Int)<=a.2.2/\a.2.2 < ((a.1.length:Nat):Int))/\if !(a.1.getD a.2.2.toNat default)then((rl b v4.2.2 a.2.2)/\d (pV b v4.2.2 a.2.2))else(d false)) (fun g=>if g then(((0:Int)<=a.2.2/\a.2.2 < ((a.1.length:Nat):Int))/\a.2.2.toNat<a.1.length/\h ((a.1.set a.2.2.toNat true),true))else(h (a.1,a.2.1)))) (fun f=>k (f.1,f.2,(i64.wrap (a.2.2+1)))))else(j (a.1,a.2.1,(i64.wrap (v4.2.2+1)))))) (v4.1,v4.2.1,0))else(m (v4.1,v4.2.1)))) ((e.1.set 0 true),false,0))else(KK e.1)) ((List.replicate c.toNat (dflt .bo)),(decide (0 < ((List.replicate c.toNat (dflt .bo)).length:Int))))))
def GA(a:Lt.Func)(KK:Bool->Prop):Prop:=
 ab (α:=Int) (fun k c=>have d:=((a.Blocks.getD c.toNat default).End).To;(a.Blocks.length<=4611686018427387904->if decide (c < (a.Blocks.length:Int))then((0<=c/\c.toNat<a.Blocks.length)/\if !decide ((aI a ((a.Blocks.getD c.toNat default).Name)).1=c)then(KK false)else((0<=c/\c.toNat<a.Blocks.length)/\ab (α:=Int) (fun i v4=>(d.length<=4611686018427387904->if decide (v4 < (d.length:Int))then((0<=v4/\v4.toNat<d.length)/\aa (α:=Bool) (fun h=>if !((aI a (d.getD v4.toNat default)).2)then(h true)else(h (decide ((aI a (d.getD v4.toNat default)).1=0)))) (fun l=>if l then(KK false)else(ab (α:=Int) (fun j f=>if decide (f<v4)then((0<=f/\f.toNat<d.length)/\(0<=v4/\v4.toNat<d.length)/\if decide ((d.getD f.toNat default)=(d.getD v4.toNat default))then(KK false)else(j (i64.wrap (f+1))))else(i (i64.wrap (v4+1)))) 0)))else(k (i64.wrap (c+1))))) 0))else((KC a)/\(∀e:List Bool,DC a e->ab (α:=Int) (fun g b=>(e.length<=4611686018427387904->if decide (b < (e.length:Int))then((0<=b/\b.toNat<e.length)/\if !(e.getD b.toNat default)then(KK false)else(g (i64.wrap (b+1))))else((e.length<=4611686018427387904->KK (decide (0 < (e.length:Int))))))) 0)))) 0
def Gq(a:List a8)(b:a8)(KK:(List a8)->Prop):Prop:=
 ab (α:=List a8×Int) (fun k c=>have f:=([(a.getD c.2.toNat default)]:List a8);(a.length<=4611686018427387904->if decide (c.2 < (a.length:Int))then(aa (α:=List a8) (fun g=>(0<=c.2/\c.2.toNat<a.length)/\if Op.bytesLess (a.getD c.2.toNat default) b then((0<=c.2/\c.2.toNat<a.length)/\(c.1.length+f.length<=4611686018427387904/\(c.1.length+f.length)*16<=140737488355328)/\g (c.1++f))else(g c.1)) (fun v4=>k (v4,(i64.wrap (c.2+1)))))else((c.1.length+([b]:List a8).length<=4611686018427387904/\(c.1.length+([b]:List a8).length)*16<=140737488355328)/\ab (α:=List a8×Int) (fun i d=>have e:=a.getD d.2.toNat default;(a.length<=4611686018427387904->if decide (d.2 < (a.length:Int))then(aa (α:=List a8) (fun h=>(0<=d.2/\d.2.toNat<a.length)/\if !(Op.bytesLess e b||decide (e=b))then((0<=d.2/\d.2.toNat<a.length)/\(d.1.length+([e]:List a8).length<=4611686018427387904/\(d.1.length+([e]:List a8).length)*16<=140737488355328)/\h (d.1++([e]:List a8)))else(h d.1)) (fun j=>i (j,(i64.wrap (d.2+1)))))else(KK d.1))) ((c.1++([b]:List a8)),0)))) ([],0)
def Gp(b:List a8)(a:Lt.Arg)(KK:(List a8)->Prop):Prop:=
 if decide (a.Kind=1)then((X1 b a.S)/\(∀c:List a8,Qi b a.S c->KK c))else(KK b)
def Cx(a:Lt.Instr)(KK:(List a8)->Prop):Prop:=
 ab (α:=List a8×Int) (fun o e=>(a.Args.length<=4611686018427387904->if decide (e.2 < (a.Args.length:Int))then((0<=e.2/\e.2.toNat<a.Args.length)/\(yg e.1 (a.Args.getD e.2.toNat default))/\(∀k:List a8,rk e.1 (a.Args.getD e.2.toNat default) k->o (k,(i64.wrap (e.2+1)))))else(ab (α:=List a8×Int) (fun n v5=>have h:=(a.Frames.getD v5.2.toNat default).Vars;(a.Frames.length<=4611686018427387904->if decide (v5.2 < (a.Frames.length:Int))then(ab (α:=List a8×Int) (fun l d=>(0<=v5.2/\v5.2.toNat<a.Frames.length)/\(h.length<=4611686018427387904->if decide (d.2 < (h.length:Int))then((0<=v5.2/\v5.2.toNat<a.Frames.length)/\(0<=d.2/\d.2.toNat<h.length)/\(yg d.1 ((h.getD d.2.toNat default).A))/\(∀j:List a8,rk d.1 ((h.getD d.2.toNat default).A) j->l (j,(i64.wrap (d.2+1)))))else(n (d.1,(i64.wrap (v5.2+1)))))) (v5.1,0))else(ab (α:=List a8×Int) (fun m c=>have g:=(a.Objs.getD c.2.toNat default).Vals;(a.Objs.length<=4611686018427387904->if decide (c.2 < (a.Objs.length:Int))then(ab (α:=List a8×Int) (fun i b=>(0<=c.2/\c.2.toNat<a.Objs.length)/\(g.length<=4611686018427387904->if decide (b.2 < (g.length:Int))then((0<=c.2/\c.2.toNat<a.Objs.length)/\(0<=b.2/\b.2.toNat<g.length)/\(yg b.1 (g.getD b.2.toNat default))/\(∀f:List a8,rk b.1 (g.getD b.2.toNat default) f->i (f,(i64.wrap (b.2+1)))))else(m (b.1,(i64.wrap (c.2+1)))))) (c.1,0))else(KK c.1))) (v5.1,0)))) (e.1,0)))) ([],0)
def yH(a:Lt.Func)(b:a8)(KK:Bool->Prop):Prop:=
 ab (α:=Int) (fun d c=>(a.Params.length<=4611686018427387904->if decide (c < (a.Params.length:Int))then((0<=c/\c.toNat<a.Params.length)/\if decide ((a.Params.getD c.toNat default).Name=b)then(KK true)else(d (i64.wrap (c+1))))else(KK false))) 0
def Cz(b:Lt.Block)(c:Int)(a:a8)(KK:Bool->Prop):Prop:=
 ab (α:=Int) (fun f d=>if decide (d<c)then(aa (α:=Bool) (fun e=>if !decide (a=([]:List UInt8))then((0<=d/\d.toNat<b.Code.length)/\e (decide ((b.Code.getD d.toNat default).Dst=a)))else(e false)) (fun v4=>if v4 then(KK true)else(f (i64.wrap (d+1)))))else(KK false)) 0
def Gs(a:Lt.Block)(b:a8)(KK:Bool->Prop):Prop:=
 ab (α:=Int) (fun d c=>(a.Phis.length<=4611686018427387904->if decide (c < (a.Phis.length:Int))then((0<=c/\c.toNat<a.Phis.length)/\if decide ((a.Phis.getD c.toNat default).Dst=b)then(KK true)else(d (i64.wrap (c+1))))else(KK false))) 0
def Cy(a:Lt.Func)(d:a8)(KK:(List Bool)->Prop):Prop:=
 have z4:=a.Blocks.getD 0 default;have e:=(a.Blocks.length:Int);have m:=((0:Int)<=0/\0 < (((List.replicate e.toNat (dflt .bo)).length:Nat):Int));(a.Blocks.length<=4611686018427387904->((0:Int)<=e/\e<=4611686018427387904/\1*e.toNat<=281474976710656)/\aa (α:=List Bool) (fun o=>if !(qb a d)then(((0:Int)<=0/\0<a.Blocks.length)/\m/\0 < (List.replicate e.toNat (dflt .bo)).length/\o ((List.replicate e.toNat (dflt .bo)).set 0 (!(wu (Lt.Block.mk (z4.Name) (z4.Phis) (z4.Code) (Lt.Term.mk ((z4.End).Kind) ((z4.End).A) ((z4.End).To) ((z4.End).N))) d))))else(m/\0 < (List.replicate e.toNat (dflt .bo)).length/\o ((List.replicate e.toNat (dflt .bo)).set 0 false))) (fun q=>ab (α:=List Bool×Int) (fun t v4=>(a.Blocks.length<=4611686018427387904->if decide (v4.2<e)then(ab (α:=List Bool×Int) (fun r c=>have f:=a.Blocks.getD c.2.toNat default;have z5:=Lt.Block.mk (f.Name) (f.Phis) (f.Code) (Lt.Term.mk ((f.End).Kind) ((f.End).A) ((f.End).To) ((f.End).N));(a.Blocks.length<=4611686018427387904->if decide (c.2<e)then(aa (α:=List Bool) (fun p=>aa (α:=Bool) (fun n=>((0:Int)<=c.2/\c.2 < ((c.1.length:Nat):Int))/\if !(c.1.getD c.2.toNat default)then(n true)else((0<=c.2/\c.2.toNat<a.Blocks.length)/\(0<=c.2/\c.2.toNat<a.Blocks.length)/\(yh z5 ((f.Code).length:Int) d)/\n (rm z5 ((f.Code).length:Int) d))) (fun l=>if l then(p c.1)else(ab (α:=List Bool×Int) (fun j b=>have z3:=a.Blocks.getD b.2.toNat default;(a.Blocks.length<=4611686018427387904->if decide (b.2<e)then(aa (α:=List Bool) (fun g=>aa (α:=Bool) (fun h=>(rl a c.2 b.2)/\if pV a c.2 b.2 then((0<=b.2/\b.2.toNat<a.Blocks.length)/\h (!(wu (Lt.Block.mk (z3.Name) (z3.Phis) (z3.Code) (Lt.Term.mk ((z3.End).Kind) ((z3.End).A) ((z3.End).To) ((z3.End).N))) d)))else(h false)) (fun i=>if i then(((0:Int)<=b.2/\b.2 < ((b.1.length:Nat):Int))/\b.2.toNat<b.1.length/\g (b.1.set b.2.toNat true))else(g b.1))) (fun k=>j (k,(i64.wrap (b.2+1)))))else(p b.1))) (c.1,0)))) (fun s=>r (s,(i64.wrap (c.2+1)))))else(t (c.1,(i64.wrap (v4.2+1)))))) (v4.1,0))else(KK v4.1))) (q,0)))
def yG(b:Lt.Func)(a:Int)(d:Int)(c:a8)(KK:Bool->Prop):Prop:=
 (Fw b c)/\(∀e:List Bool,KA b c e->(0<=a/\a.toNat<e.length)/\if !(e.getD a.toNat default)then(KK true)else((0<=a/\a.toNat<b.Blocks.length)/\(yh (Lt.Block.mk ((b.Blocks.getD a.toNat default).Name) ((b.Blocks.getD a.toNat default).Phis) ((b.Blocks.getD a.toNat default).Code) (Lt.Term.mk (((b.Blocks.getD a.toNat default).End).Kind) (((b.Blocks.getD a.toNat default).End).A) (((b.Blocks.getD a.toNat default).End).To) (((b.Blocks.getD a.toNat default).End).N))) d c)/\KK (rm (Lt.Block.mk ((b.Blocks.getD a.toNat default).Name) ((b.Blocks.getD a.toNat default).Phis) ((b.Blocks.getD a.toNat default).Code) (Lt.Term.mk (((b.Blocks.getD a.toNat default).End).Kind) (((b.Blocks.getD a.toNat default).End).A) (((b.Blocks.getD a.toNat default).End).To) (((b.Blocks.getD a.toNat default).End).N))) d c)))
def yI(a:Lt.Func)(KK:Bool->Prop):Prop:=
 ab (α:=Int) (fun p e=>have b:=a.Blocks.getD e.toNat default;(a.Blocks.length<=4611686018427387904->if decide (e < (a.Blocks.length:Int))then((0<=e/\e.toNat<a.Blocks.length)/\ab (α:=Int) (fun o v4=>((b.Code).length<=4611686018427387904->if decide (v4 < ((b.Code).length:Int))then((0<=v4/\v4.toNat < (b.Code).length)/\(io ((b.Code).getD v4.toNat default))/\(∀i:List a8,uL ((b.Code).getD v4.toNat default) i->ab (α:=Int) (fun n h=>(i.length<=4611686018427387904->if decide (h < (i.length:Int))then((0<=h/\h.toNat<i.length)/\(p8 a e v4 (i.getD h.toNat default))/\if !(fZ a e v4 (i.getD h.toNat default))then(KK false)else(n (i64.wrap (h+1))))else(o (i64.wrap (v4+1))))) 0))else(aa (α:=Bool) (fun j=>have z4:=((p8 a e ((b.Code).length:Int) (((b.End).A).S))/\j (!(fZ a e ((b.Code).length:Int) (((b.End).A).S))));if decide ((b.End).Kind=2)then(if decide (((b.End).A).Kind=1)then z4 else(j false))else(if decide ((b.End).Kind=3)then(if decide (((b.End).A).Kind=1)then z4 else(j false))else(j false))) (fun v9=>if v9 then(KK false)else(ab (α:=Int) (fun k c=>have z3:=((b.Phis).getD c.toNat default).Ins;((b.Phis).length<=4611686018427387904->if decide (c < ((b.Phis).length:Int))then(ab (α:=Int) (fun m d=>have z5:=z3.getD d.toNat default;have f:=aI a (z5.Block);(0<=c/\c.toNat < (b.Phis).length)/\(z3.length<=4611686018427387904->if decide (d < (z3.length:Int))then((0<=c/\c.toNat < (b.Phis).length)/\(0<=d/\d.toNat<z3.length)/\aa (α:=Bool) (fun g=>if f.2 then(if decide ((z5.A).Kind=1)then((rl a (f.1) e)/\if pV a (f.1) e then(((0:Int)<=f.1/\(f.1).toNat<a.Blocks.length)/\(p8 a (f.1) (((a.Blocks.getD (f.1).toNat default).Code).length:Int) ((z5.A).S))/\g (!(fZ a (f.1) (((a.Blocks.getD (f.1).toNat default).Code).length:Int) ((z5.A).S))))else(g false))else(g false))else(g false)) (fun l=>if l then(KK false)else(m (i64.wrap (d+1)))))else(k (i64.wrap (c+1))))) 0)else(p (i64.wrap (e+1))))) 0))))) 0)else(KK true))) 0
def CA(a:Lt.Func)(KK:Int->Prop):Prop:=
 ab (α:=Int×Int) (fun c b=>(a.Blocks.length<=4611686018427387904->if decide (b.2 < (a.Blocks.length:Int))then((0<=b.2/\b.2.toNat<a.Blocks.length)/\(((a.Blocks.getD b.2.toNat default).Code).length<=4611686018427387904->c ((i64.wrap (b.1+(((a.Blocks.getD b.2.toNat default).Code).length:Int))),(i64.wrap (b.2+1)))))else(KK b.1))) (0,0)
def yJ(a:Lt.Func)(KK:Bool->Prop):Prop:=
 ab (α:=Int) (fun f c=>have d:=(0<=c/\c.toNat<a.Blocks.length);have b:=a.Blocks.getD c.toNat default;(a.Blocks.length<=4611686018427387904->if decide (c < (a.Blocks.length:Int))then(d/\((b.Phis).length<=4611686018427387904->if decide (0 < ((b.Phis).length:Int))then(KK true)else(ab (α:=Int) (fun e v4=>have z3:=(b.Code).getD v4.toNat default;d/\((b.Code).length<=4611686018427387904->if decide (v4 < ((b.Code).length:Int))then(d/\(0<=v4/\v4.toNat < (b.Code).length)/\((z3.Frames).length<=4611686018427387904->d/\(0<=v4/\v4.toNat < (b.Code).length)/\((z3.Objs).length<=4611686018427387904->if decide (0 < (i64.wrap (((z3.Frames).length:Int)+((z3.Objs).length:Int))))then(KK true)else(e (i64.wrap (v4+1))))))else(f (i64.wrap (c+1))))) 0)))else(KK false))) 0
def Gt(c:Lt.Program)(a:Lt.Func)(KK:Int->Prop):Prop:=
 (ad0 a)/\if !(di a)then(KK 5)else(ab (α:=Int) (fun e b=>(a.Blocks.length<=4611686018427387904->if decide (b < (a.Blocks.length:Int))then(ab (α:=Int) (fun d v4=>(0<=b/\b.toNat<a.Blocks.length)/\(((a.Blocks.getD b.toNat default).Code).length<=4611686018427387904->if decide (v4 < (((a.Blocks.getD b.toNat default).Code).length:Int))then((0<=b/\b.toNat<a.Blocks.length)/\(0<=v4/\v4.toNat < ((a.Blocks.getD b.toNat default).Code).length)/\(X2 c a (((a.Blocks.getD b.toNat default).Code).getD v4.toNat default))/\if !(lx c a (((a.Blocks.getD b.toNat default).Code).getD v4.toNat default))then(KK 4)else(d (i64.wrap (v4+1))))else((0<=b/\b.toNat<a.Blocks.length)/\if !(uR a (Lt.Term.mk (((a.Blocks.getD b.toNat default).End).Kind) (((a.Blocks.getD b.toNat default).End).A) (((a.Blocks.getD b.toNat default).End).To) (((a.Blocks.getD b.toNat default).End).N)))then(KK 4)else(e (i64.wrap (b+1)))))) 0)else((Qk a)/\if !(gk a)then(KK 4)else(KK 0)))) 0)
def QN(a:Lt.Program)(b:a8)(KK:(Lt.Class×Bool)->Prop):Prop:=
 ab (α:=Int) (fun d c=>(a.Classes.length<=4611686018427387904->if decide (c < (a.Classes.length:Int))then((0<=c/\c.toNat<a.Classes.length)/\if decide ((a.Classes.getD c.toNat default).Name=b)then((0<=c/\c.toNat<a.Classes.length)/\KK ((a.Classes.getD c.toNat default),true))else(d (i64.wrap (c+1))))else(KK ((Lt.Class.mk ([]:List UInt8) []),false)))) 0
def UQ(a:Lt.Program)(b:a8)(KK:(Lt.Func×Bool)->Prop):Prop:=
 ab (α:=Int) (fun d c=>(a.Funcs.length<=4611686018427387904->if decide (c < (a.Funcs.length:Int))then((0<=c/\c.toNat<a.Funcs.length)/\if decide ((a.Funcs.getD c.toNat default).Name=b)then((0<=c/\c.toNat<a.Funcs.length)/\KK ((a.Funcs.getD c.toNat default),true))else(d (i64.wrap (c+1))))else(KK ((Lt.Func.mk ([]:List UInt8) ([]:List UInt8) [] [] []),false)))) 0
def LB(a:Lt.Program)(b:a8)(KK:(Lt.Extern×Bool)->Prop):Prop:=
 ab (α:=Int) (fun d c=>(a.Externs.length<=4611686018427387904->if decide (c < (a.Externs.length:Int))then((0<=c/\c.toNat<a.Externs.length)/\if decide ((a.Externs.getD c.toNat default).Name=b)then((0<=c/\c.toNat<a.Externs.length)/\KK ((a.Externs.getD c.toNat default),true))else(d (i64.wrap (c+1))))else(KK ((Lt.Extern.mk ([]:List UInt8) 0),false)))) 0
def aeD(a:List Lt.Var)(b:a8)(KK:(Lt.Var×Bool)->Prop):Prop:=
 ab (α:=Int) (fun d c=>(a.length<=4611686018427387904->if decide (c < (a.length:Int))then((0<=c/\c.toNat<a.length)/\if decide ((a.getD c.toNat default).Name=b)then((0<=c/\c.toNat<a.length)/\KK ((a.getD c.toNat default),true))else(d (i64.wrap (c+1))))else(KK ((Lt.Var.mk ([]:List UInt8) ([]:List UInt8)),false)))) 0
def QO(c:Lt.Program)(a:a8)(b:a8)(KK:(Lt.Var×Bool)->Prop):Prop:=
 KK (((rM (((bm c a).1).Fields) b).1),(rM (((bm c a).1).Fields) b).2)
def LC(b:Lt.Program)(a:a8)(KK:(Lt.Var×Bool)->Prop):Prop:=
 KK (((rM b.Globals a).1),(rM b.Globals a).2)
def O3(b:Lt.Func)(a:a8)(KK:(Lt.Var×Bool)->Prop):Prop:=
 if (rM b.Params a).2 then(KK (((rM b.Params a).1),true))else(KK (((rM b.Vars a).1),(rM b.Vars a).2))
def UR(b:Lt.Func)(a:Lt.Arg)(KK:(a8×Bool)->Prop):Prop:=
 if decide (a.Kind=1)then(KK (((gR b a.S).1).Type_,(gR b a.S).2))else(aa (α:=Bool) (fun c=>if decide (2<=a.Kind)then(c (decide (a.Kind<=4)))else(c false)) (fun d=>if d then(((0:Int)<=a.Kind/\a.Kind < ((5:Nat):Int))/\a.Kind.toNat<[(([]:List UInt8):a8),(([]:List UInt8):a8),([105,110,116]:List UInt8),([102,108,111,97,116]:List UInt8),([110,117,108,108]:List UInt8)].length/\KK (([(([]:List UInt8):a8),(([]:List UInt8):a8),([105,110,116]:List UInt8),([102,108,111,97,116]:List UInt8),([110,117,108,108]:List UInt8)].getD a.Kind.toNat default),true))else(KK (([]:List UInt8),false))))
def O2(a:a8)(KK:Bool->Prop):Prop:=
 if !decide (a=[105,110,116])then(KK (!decide (a=[102,108,111,97,116])))else(KK false)
def Gv(a:a8)(b:a8)(KK:Bool->Prop):Prop:=
 aa (α:=Bool) (fun c=>if decide (a=b)then(c true)else(if decide (a=[110,117,108,108])then(c (gQ b))else(c false))) (fun d=>KK d)
def Gu(a:List a8)(b:List Lt.Var)(KK:Bool->Prop):Prop:=
 ab (α:=Int) (fun e c=>(a.length<=4611686018427387904->if decide (c < (a.length:Int))then(aa (α:=Bool) (fun d=>(b.length<=4611686018427387904->if decide ((b.length:Int)<=c)then(d true)else((0<=c/\c.toNat<a.length)/\(0<=c/\c.toNat<b.length)/\d (!(eD (a.getD c.toNat default) ((b.getD c.toNat default).Type_)))))) (fun v4=>if v4 then(KK false)else(e (i64.wrap (c+1)))))else((a.length<=4611686018427387904->(b.length<=4611686018427387904->KK (decide ((a.length:Int)=(b.length:Int)))))))) 0
def CC(b:Lt.Program)(f:Lt.Func)(a:Lt.Instr)(KK:Bool->Prop):Prop:=
 have u:=fq b a.Name;have j:=(gR f a.Dst).1;aa (α:=Bool) (fun o=>if !((Lt.rOf a.Op).2)then(o true)else(if decide ((a.Args.length:Int) < ((Lt.rOf a.Op).1).Least)then(o true)else(if decide (((Lt.rOf a.Op).1).Most < (a.Args.length:Int))then(o true)else(if ((Lt.rOf a.Op).1).Dst then(o (!((gR f a.Dst).2)))else(o false))))) (fun D=>if D then(KK false)else(ab (α:=List a8×Int) (fun H v4=>have t:=((0:Int)<=1/\1 < ((v4.1.length:Nat):Int));have z5:=([(gV f (a.Args.getD v4.2.toNat default)).1]:List a8);have h:=((0:Int)<=0/\0 < ((v4.1.length:Nat):Int));have c:=oI b (v4.1.getD 0 default) a.Name;(a.Args.length<=4611686018427387904->if decide (v4.2 < (a.Args.length:Int))then((0<=v4.2/\v4.2.toNat<a.Args.length)/\if !((gV f (a.Args.getD v4.2.toNat default)).2)then(KK false)else((v4.1.length+z5.length<=4611686018427387904/\(v4.1.length+z5.length)*16<=140737488355328)/\H ((v4.1++z5),(i64.wrap (v4.2+1)))))else(aa (α:=a8) (fun C=>aa (α:=Bool) (fun y=>if decide (15<=a.Op)then(if decide (a.Op<=21)then(y true)else(y (decide (a.Op=23))))else(y (decide (a.Op=23)))) (fun E=>if E then(C [102,108,111,97,116])else(C [105,110,116]))) (fun G=>aa (α:=a8) (fun B=>aa (α:=Bool) (fun k=>if decide (15<=a.Op)then(if decide (a.Op<=18)then(k true)else(k (decide (a.Op=22))))else(k (decide (a.Op=22)))) (fun w=>if w then(B [102,108,111,97,116])else(B [105,110,116]))) (fun z=>aa (α:=Unit) (fun q=>if decide (a.Op=24)then(h/\KK (eD (v4.1.getD 0 default) (j.Type_)))else(if decide (a.Op=25)then(aa (α:=Bool) (fun i=>if (bm b a.Name).2 then(if decide (j.Type_=a.Name)then(if decide ((v4.1.length:Int)=0)then(i true)else(i (gC v4.1 (((bm b a.Name).1).Fields))))else(i false))else(i false)) (fun x=>KK x))else(if decide (a.Op=26)then(aa (α:=Bool×Lt.Var) (fun e=>have z3:=((e (c.2,(c.1)))/\(e (c.2,(c.1))))/\(e (c.2,(c.1)));h/\(z3/\z3/\(e (c.2,(c.1))))/\(z3/\z3/\(e (c.2,(c.1))))/\(z3/\z3/\(e (c.2,(c.1))))/\(e (c.2,(c.1)))) (fun r=>aa (α:=Bool) (fun n=>((0:Int)<=0/\0<a.Args.length)/\if decide ((a.Args.getD 0 default).Kind=1)then(if r.1 then(n (decide (r.2.Type_=j.Type_)))else(n false))else(n false)) (fun v20=>KK v20)))else(if decide (a.Op=27)then(aa (α:=Bool×Lt.Var) (fun d=>have z4:=((d (c.2,(c.1)))/\(d (c.2,(c.1))))/\(d (c.2,(c.1)));h/\(z4/\z4/\(d (c.2,(c.1))))/\(z4/\z4/\(d (c.2,(c.1))))/\(z4/\z4/\(d (c.2,(c.1))))/\(d (c.2,(c.1)))) (fun s=>aa (α:=Bool) (fun l=>((0:Int)<=0/\0<a.Args.length)/\if decide ((a.Args.getD 0 default).Kind=1)then(if s.1 then(t/\l (eD (v4.1.getD 1 default) s.2.Type_))else(l false))else(l false)) (fun v24=>KK v24)))else(if decide (a.Op=28)then(aa (α:=Bool) (fun g=>if decide (j.Type_=[105,110,116])then(h/\if gQ (v4.1.getD 0 default)then(t/\if gQ (v4.1.getD 1 default)then(h/\t/\if decide ((v4.1.getD 0 default)=(v4.1.getD 1 default))then(g true)else(h/\if decide ((v4.1.getD 0 default)=[110,117,108,108])then(g true)else(t/\g (decide ((v4.1.getD 1 default)=[110,117,108,108])))))else(g false))else(g false))else(g false)) (fun v26=>KK v26))else(if decide (a.Op=29)then(if u.2 then(KK (decide ((u.1).Type_=j.Type_)))else(KK false))else(if decide (a.Op=30)then(if u.2 then(h/\KK (eD (v4.1.getD 0 default) ((u.1).Type_)))else(KK false))else(if decide (a.Op=31)then(aa (α:=Bool) (fun m=>if (lh b a.Name).2 then(if gC v4.1 (((lh b a.Name).1).Params)then(m (decide (((lh b a.Name).1).Result=j.Type_)))else(m false))else(m false)) (fun v28=>KK v28))else(if decide (a.Op=33)then(h/\if decide ((v4.1.getD 0 default)=[105,110,116])then(KK true)else(h/\KK (decide ((v4.1.getD 0 default)=[102,108,111,97,116]))))else(if decide (a.Op=34)then(KK true)else(if decide (a.Op=32)then(aa (α:=Bool) (fun p=>if !((gc b a.Name).2)then(p true)else(p (!decide (((gc b a.Name).1).N=(v4.1.length:Int))))) (fun A=>if A then(KK false)else(q ())))else(q ())))))))))))) (fun F=>ab (α:=Int) (fun v v32=>(v4.1.length<=4611686018427387904->if decide (v32 < (v4.1.length:Int))then(((0:Int)<=v32/\v32 < ((v4.1.length:Nat):Int))/\if !decide ((v4.1.getD v32.toNat default)=G)then(KK false)else(v (i64.wrap (v32+1))))else(KK (decide (j.Type_=z))))) 0)))))) ([],0)))
def O1(c:Lt.Func)(a:Lt.Term)(KK:Bool->Prop):Prop:=
 have z3:=(gV c a.A).2;have e:=eD ((gV c a.A).1) c.Result;have d:=decide (a.Kind=4);aa (α:=Bool) (fun b=>if decide (a.Kind=1)then(b true)else(if decide (a.Kind=2)then(if z3 then(if decide ((gV c a.A).1=[105,110,116])then(b true)else(if decide (a.Kind=3)then(if z3 then(if e then(b true)else(if d then(b (decide (10<=a.N)))else(b false)))else(if d then(b (decide (10<=a.N)))else(b false)))else(if d then(b (decide (10<=a.N)))else(b false))))else(if decide (a.Kind=3)then(if z3 then(if e then(b true)else(if d then(b (decide (10<=a.N)))else(b false)))else(if d then(b (decide (10<=a.N)))else(b false)))else(if d then(b (decide (10<=a.N)))else(b false))))else(if decide (a.Kind=3)then(if z3 then(if e then(b true)else(if d then(b (decide (10<=a.N)))else(b false)))else(if d then(b (decide (10<=a.N)))else(b false)))else(if d then(b (decide (10<=a.N)))else(b false))))) (fun f=>KK f)
def CD(c:Lt.Program)(a:List Lt.Var)(KK:Bool->Prop):Prop:=
 ab (α:=Int) (fun h b=>(a.length<=4611686018427387904->if decide (b < (a.length:Int))then(aa (α:=Bool) (fun e=>(0<=b/\b.toNat<a.length)/\((e ((bm c ((a.getD b.toNat default).Type_)).2))/\(e ((bm c ((a.getD b.toNat default).Type_)).2)))/\(e ((bm c ((a.getD b.toNat default).Type_)).2))) (fun v4=>aa (α:=Bool) (fun f=>(0<=b/\b.toNat<a.length)/\if gQ ((a.getD b.toNat default).Type_)then(f (!v4))else(f false)) (fun i=>if i then(KK false)else(ab (α:=Int) (fun g d=>if decide (d<b)then((0<=d/\d.toNat<a.length)/\(0<=b/\b.toNat<a.length)/\if decide ((a.getD d.toNat default).Name=(a.getD b.toNat default).Name)then(KK false)else(g (i64.wrap (d+1))))else(h (i64.wrap (b+1)))) 0))))else(KK true))) 0
def CB(a:Lt.Program)(KK:Bool->Prop):Prop:=
 if !(cD a a.Globals)then(KK false)else(ab (α:=Int) (fun r f=>(a.Classes.length<=4611686018427387904->if decide (f < (a.Classes.length:Int))then(ab (α:=Int) (fun n v4=>if decide (v4<f)then((0<=v4/\v4.toNat<a.Classes.length)/\(0<=f/\f.toNat<a.Classes.length)/\if decide ((a.Classes.getD v4.toNat default).Name=(a.Classes.getD f.toNat default).Name)then(KK false)else(n (i64.wrap (v4+1))))else((0<=f/\f.toNat<a.Classes.length)/\if !(cD a ((a.Classes.getD f.toNat default).Fields))then(KK false)else(r (i64.wrap (f+1))))) 0)else(ab (α:=Int) (fun o i=>(a.Externs.length<=4611686018427387904->if decide (i < (a.Externs.length:Int))then(ab (α:=Int) (fun q j=>if decide (j<i)then((0<=j/\j.toNat<a.Externs.length)/\(0<=i/\i.toNat<a.Externs.length)/\if decide ((a.Externs.getD j.toNat default).Name=(a.Externs.getD i.toNat default).Name)then(KK false)else(q (i64.wrap (j+1))))else(o (i64.wrap (i+1)))) 0)else(ab (α:=Int) (fun p c=>have g:=(0<=c/\c.toNat<a.Funcs.length);have e:=a.Funcs.getD c.toNat default;have z3:=(bm a (e.Result)).2;(a.Funcs.length<=4611686018427387904->if decide (c < (a.Funcs.length:Int))then(ab (α:=Int) (fun k d=>if decide (d<c)then((0<=d/\d.toNat<a.Funcs.length)/\g/\if decide ((a.Funcs.getD d.toNat default).Name=e.Name)then(KK false)else(k (i64.wrap (d+1))))else(g/\(([]:List Lt.Var).length+(e.Params).length<=4611686018427387904/\(([]:List Lt.Var).length+(e.Params).length)*32<=140737488355328)/\g/\((e.Params).length+(e.Vars).length<=4611686018427387904/\((e.Params).length+(e.Vars).length)*32<=140737488355328)/\aa (α:=Bool) (fun b=>((g/\(b z3)/\(b z3))/\(g/\b z3))/\(g/\((b z3)/\(b z3))/\(b z3))/\(g/\b z3)) (fun l=>aa (α:=Bool) (fun h=>if !(cD a ((e.Params)++(e.Vars)))then(h true)else(g/\if gQ (e.Result)then(h (!l))else(h false))) (fun m=>if m then(KK false)else(p (i64.wrap (c+1))))))) 0)else(KK true))) 0))) 0))) 0)
theorem ab6(op:Int):(Lt.rOf op).2=(Lt.Of op).2/\(Lt.rOf op).1.Dst=(Lt.Of op).1.Dst/\(Lt.rOf op).1.Least=(Lt.Of op).1.Least/\(Lt.rOf op).1.Most=(Lt.Of op).1.Most:=by
 by_cases h:1<=op/\op<=34
 ·obtain⟨k,rfl⟩:=aj8 (show 0<=op by omega);have:∀k:Fin 35,1<=k.1->(Lt.rOf (k.1:Int)).2=(Lt.Of (k.1:Int)).2/\(Lt.rOf (k.1:Int)).1.Dst=(Lt.Of (k.1:Int)).1.Dst/\(Lt.rOf (k.1:Int)).1.Least=(Lt.Of (k.1:Int)).1.Least/\(Lt.rOf (k.1:Int)).1.Most=(Lt.Of (k.1:Int)).1.Most:=by decide +kernel
  exact this ⟨k,by omega⟩ (by grind)
 grind (splits:=20) [Lt.rOf,Lt.Of]
variable{α:Type}
theorem uf[Inhabited α](nm:α->a8)(s:a8)(l:List α)(KK:α×Bool->Prop)(h:KK (Lt.fnd nm s l)):ab (α:=Int) (fun R v=>(l.length<=4611686018427387904->if decide (v < (l.length:Int))then((0<=v/\v.toNat<l.length)/\if decide (nm (l.getD v.toNat default)=s)then((0<=v/\v.toNat<l.length)/\KK (l.getD v.toNat default,true))else(R (i64.wrap (v+1))))else(KK (default,false)))) 0:=by
 refine bO l (fun l=>KK (Lt.fnd nm s l)) (fun R i x r hi hx _ ih h hl=>?_) (fun R h hl=>?_) h
 ·grind [Lt.fnd]
 rw[if_neg (by simp)];exact h
theorem JG(p:Lt.Program)(s:a8)(KK:Lt.Class×Bool->Prop)(h:KK (bm p s)):QN p s KK:=uf _ s p.Classes KK h
theorem M6(p:Lt.Program)(s:a8)(KK:Lt.Func×Bool->Prop)(h:KK (lh p s)):UQ p s KK:=uf _ s p.Funcs KK h
theorem EX(p:Lt.Program)(s:a8)(KK:Lt.Extern×Bool->Prop)(h:KK (gc p s)):LB p s KK:=uf _ s p.Externs KK h
theorem W9(l:List Lt.Var)(s:a8)(KK:Lt.Var×Bool->Prop)(h:KK (rM l s)):aeD l s KK:=uf _ s l KK h
theorem JH(p:Lt.Program)(c s:a8)(KK:Lt.Var×Bool->Prop)(h:KK (oI p c s)):QO p c s KK:=h
theorem EY(p:Lt.Program)(s:a8)(KK:Lt.Var×Bool->Prop)(h:KK (fq p s)):LC p s KK:=h
theorem SZ(f:Lt.Func)(s:a8)(KK:Lt.Var×Bool->Prop)(h:KK (gR f s)):O3 f s KK:=by
 grind [O3,gR]
theorem Xa(f:Lt.Func)(a:Lt.Arg)(KK:a8×Bool->Prop)(h:KK (gV f a)):UR f a KK:=by
 unfold UR;unfold gV at h;simp only[bL,ac,decide_eq_true_eq]
 grind
theorem SY(t:List UInt8)(KK:Bool->Prop)(h:KK (gQ t)):O2 t KK:=by
 grind [O2,gQ]
theorem M5(a b:a8)(KK:Bool->Prop)(h:KK (eD a b)):Gv a b KK:=by
 unfold Gv;unfold eD at h;intro J c
 grind
theorem M4(l:List a8)(v:List Lt.Var)(KK:Bool->Prop)(h:KK (gC l v)):Gu l v KK:=by
 unfold Gu;refine au _ l.length (fun i x=>x=(i:Int)/\i<=v.length/\KK (gC (l.drop i) (v.drop i))) (fun R i x hi hx ih hl=>?_) (fun R x hx hl=>?_) 0 ⟨rfl,aj0 _,h⟩
 ·obtain⟨rfl,a,h⟩:=hx;rw[if_pos (aP hi),Int.toNat_natCast];rw[eL l hi]at h;simp only[aq,bL,am,ac];intro hv;refine ifk (fun hc=>?_) (fun hc=>⟨by omega,by grind,?_⟩)
  ·have hc:=of_decide_eq_true hc
   rw[show v.drop i=[]from List.drop_eq_nil_of_le kQ1]at h;rw[if_pos trivial];exact h
  grind [eL,gC,ae]
 obtain⟨rfl,a,h⟩:=hx;rw[if_neg (by simp)];intro _ _;rw[akJ]at h;rcases akM l.length v.length with e|e
 ·rw[eL v e]at h;rw[decide_eq_false kQ1];exact h
 rw[List.drop_eq_nil_of_le kQ1]at h;rw[decide_eq_true kQ1];exact h
variable{l:List α}{nm:α->a8}
theorem aiA[Inhabited α]{i:Nat}(hi:i<l.length)(h:nm (l.getD i default)∈(l.take i).map nm):¬ (l.map nm).Nodup:=fun hd=>by
 grind [akN]
theorem aiC[Inhabited α]{i:Nat}(hi:i<l.length)(hd:((l.take i).map nm).Nodup)(h:nm (l.getD i default) ∉ (l.take i).map nm):((l.take (i+1)).map nm).Nodup:=by
 grind [ba]
theorem pD[Inhabited α]{i:Nat}{A B:Prop}(hi:i<l.length)(hl:l.length<=4611686018427387904)(a:nm (l.getD i default)∈(l.take i).map nm->A)(b:nm (l.getD i default) ∉ (l.take i).map nm->B) :
  ab (α:=Int) (fun R v=>if decide (v < (i:Int))then((0<=v/\v.toNat<l.length)/\((0:Int)<=(i:Int)/\i<l.length)/\if decide (nm (l.getD v.toNat default)=nm (l.getD i default))then A else(R (i64.wrap (v+1))))else B) 0:=by
 refine au _ i (fun k v=>v=(k:Int)/\nm (l.getD i default) ∉ (l.take k).map nm) (fun R k v hk⟨e,h⟩ih=>?_) (fun R v⟨e,h⟩=>?_) _ ⟨rfl,by simp⟩
 ·subst e;rw[if_pos (aP hk),Int.toNat_natCast];have hs:=ba l (i:=k) kQ1
  refine⟨by omega,by omega,ifk (fun hc=>a ?_) (fun hc=>ih _ ⟨ae kQ1,?_⟩)⟩
  ·have:(l.take (k+1))=(l.take i).take (k+1):=by grind
   grind [List.mem_of_mem_take]
  grind
 grind
theorem uC[Inhabited α]{body:(Int->Prop)->Int->Prop}(l:List α)(nm:α->a8)(ok:α->Prop)(N:Prop)
  (hs:∀R(i:Nat)x,i<l.length->l.getD i default=x->x∈l->(nm x∈(l.take i).map nm->N)->(nm x ∉ (l.take i).map nm->ok x->l.length<=4611686018427387904->R (i64.wrap ((i:Int)+1)))->body R (i:Int))
  (a:∀R,(∀x∈l,ok x)->(l.map nm).Nodup->body R (l.length:Int)) (hN:¬ (l.map nm).Nodup->N):ab body 0:=by
 refine au _ l.length (fun i x=>x=(i:Int)/\(∀x∈l.take i,ok x)/\((l.take i).map nm).Nodup) (fun R i x hi⟨e,h1,h2⟩ih=>?_) (fun R x⟨e,h1,h2⟩=>?_) _ ⟨rfl,by simp,by simp⟩
 ·grind [ae,ba]
 grind
theorem JK(p:Lt.Program)(l:List Lt.Var)(KK:Bool->Prop)(h:KK (cD p l)):CD p l KK:=by
 unfold CD;unfold cD at h;refine uC l (·.Name) (fun x=>gG p x.Type_=true) (KK false) (fun R i x hi hx hm h1 h2 hl=>?_) (fun R b hd _=>?_) (fun hd=>by grind [mE])
 ·simp only[aP hi,Int.toNat_natCast,hx,hi,ajE,and_self,true_and,if_true,ac];intro J a;have j:J (!gG p x.Type_):=a _ (by
   dsimp only;refine ifk (fun hc=>?_) (fun hc=>?_)
   ·grind
   have:=pD (l:=l) (nm:=(·.Name)) (A:=KK false) (B:=R (i64.wrap ((i:Int)+1))) hi hl (by grind) (by grind)
   grind)
  grind [gG]
 grind [mE]
theorem JI(p:Lt.Program)(hp:jp p)(KK:Bool->Prop)(h:KK (fI p)):CB p KK:=by
 unfold CB;have a:∀b1 b2 b3 b d b6:Bool,fI p=(b1&&b2&&b3&&b&&d&&b6)->(b1=false\/b2=false\/b3=false\/b=false\/d=false\/b6=false)->KK false:=by
  grind
 have a:=a _ _ _ _ _ _ rfl
 have s:∀x∈p.Classes,(!cD p x.Fields)=true->KK false:=fun x hm hc=>by
  grind
 have v:∀x∈p.Funcs,(!(gG p x.Result&&cD p (x.Params++x.Vars)))=true->KK false:=fun x hm hc=>by
  grind
 refine ifk (fun hc=>a (by grind)) (fun t=>?_);refine uC p.Classes (·.Name) (fun c=>cD p c.Fields=true) (KK false) (fun R i x hi hx hm h1 h2 hl=>?_) (fun R g k _=>?_) (fun hd=>a (.inl (decide_eq_false hd)))
 ·rw[if_pos (aP hi)];have:=pD (l:=p.Classes) (nm:=(·.Name)) (A:=KK false) (B:=(((0:Int)<=(i:Int)/\(i:Int).toNat<p.Classes.length)/\if !(cD p ((p.Classes.getD (i:Int).toNat default).Fields))then(KK false)else(R (i64.wrap ((i:Int)+1))))) hi hl (by grind) (by
   grind)
  exact this
 rw[if_neg (by simp)];refine uC p.Externs (·.Name) (fun _=>True) (KK false) (fun R i x hi hx hm h1 h2 hl=>?_) (fun R _ r _=>?_) (fun hd=>a (.inr (.inl (decide_eq_false hd))))
 ·rw[if_pos (aP hi)];exact pD (l:=p.Externs) (nm:=(·.Name)) hi hl (by grind) (by grind)
 rw[if_neg (by simp)];refine uC p.Funcs (·.Name) (fun f=>(gG p f.Result&&cD p (f.Params++f.Vars))=true) (KK false) (fun R i x hi hx hm h1 h2 hl=>?_) (fun R n m _=>?_) (fun hd=>a (.inr (.inr (.inl (decide_eq_false hd)))))
 ·rw[if_pos (aP hi)];refine pD (l:=p.Funcs) (nm:=(·.Name)) hi hl (by grind) (fun hn=>?_);rw[hx]at hn;rw[Int.toNat_natCast,hx];have hb:=hp x hm
  have e:(0:Int)<=(i:Int)/\i<p.Funcs.length:=⟨by omega,hi⟩
  refine⟨e,⟨by grind,by grind⟩,e,⟨by omega,by omega⟩,fun J q=>?_⟩;have j:J (bm p x.Result).2:=q _ (by
   dsimp only;intro u o
   grind [gG])
  grind
 grind [fI,mE]
theorem SX(f:Lt.Func)(t:Lt.Term)(KK:Bool->Prop)(h:KK (uR f t)):O1 f t KK:=by
 unfold O1;dsimp only;unfold uR at h;intro J a
 grind
theorem Y9(n:Int)(h:(Lt.Of n).2=true):1<=n/\n<=34/\((n≠25/\n≠29/\n≠31/\n≠32/\n≠34)->1<=(Lt.Of n).1.Least)/\((n=27\/n=28)->2<=(Lt.Of n).1.Least)/\((n≠27/\n≠30/\n≠33/\n≠34)->(Lt.Of n).1.Dst=true):=by
 by_cases hn:1<=n/\n<=34
 ·refine⟨hn.1,hn.2,?_⟩;obtain⟨k,rfl⟩:=aj8 (show 0<=n by omega);have:∀k:Fin 35,(((k.1:Int)≠25/\(k.1:Int)≠29/\(k.1:Int)≠31/\(k.1:Int)≠32/\(k.1:Int)≠34)->1<=(k.1:Int)->1<=(Lt.Of (k.1:Int)).1.Least)/\(((k.1:Int)=27\/(k.1:Int)=28)->2<=(Lt.Of (k.1:Int)).1.Least)/\(((k.1:Int)≠27/\(k.1:Int)≠30/\(k.1:Int)≠33/\(k.1:Int)≠34)->1<=(k.1:Int)->(Lt.Of (k.1:Int)).1.Dst=true):=by decide +kernel
  obtain⟨a,b,c⟩:=this ⟨k,by omega⟩
  grind
 unfold Lt.Of at h
 repeat rw[if_neg kQ1]at h
 cases h
theorem JJ(p:Lt.Program)(f:Lt.Func)(i:Lt.Instr)(hp:X2 p f i)(KK:Bool->Prop)(h:KK (lx p f i)):CC p f i KK:=by
 unfold CC;obtain⟨y,K,v,B⟩:=ab6 i.Op;rw[y,K,v,B];dsimp only;have hp:i.Args.length<=1000000:=hp
 have u:(iN f i&&i.Args.all fun a=>(gV f a).2)=false->KK false:=fun e=>by
  grind [lx,oM]
 intro J o;have j:J (!iN f i):=o _ (by
  dsimp only;refine ifk (fun hc=>u (by grind)) (fun hc=>?_);have hf:iN f i=true:=by grind
  refine dl i.Args (fun(q:List a8) (k:Int)=>(q,k)) (fun r q=>(i.Args.all fun a=>(gV f a).2)=(r.all fun a=>(gV f a).2)/\q++lM f r=lM f i.Args) (fun R q k x r hi hx _ ih hq=>?_) (fun R q hq=>?_) _ ⟨rfl,rfl⟩
  ·obtain⟨q2,m⟩:=hq;dsimp only;intro hl;rw[if_pos (aP hi)];refine⟨ob hi,?_⟩;rw[Int.toNat_natCast,hx]
   grind [lM,ajH]
  obtain⟨q2,m⟩:=hq;dsimp only;intro hl;rw[if_neg (by simp)];have m:q=lM f i.Args:=by grind [lM]
  rw[alH]at q2;unfold lx oM at h;rw[if_pos (by grind),aj3]at h;unfold iN at hf;simp only[ai9,decide_eq_true_eq]at hf;obtain⟨f1,E,f3,F⟩:=hf;have H:q.length=i.Args.length:=by grind [lM]
  rw[<- m]at h;obtain⟨o1,o2,o3,G,t⟩:=Y9 _ f1;have hd:(Lt.Of i.Op).1.Dst=true->IL f i=(gR f i.Dst).1.Type_:=fun h=>by grind [IL]
  generalize IL f i=I at h hd;generalize(gR f i.Dst).1.Type_=g at hd⊢;clear u o;refine fun D d=>?_
  have L:D (if(15<=i.Op/\i.Op<=21)\/i.Op=23 then [102,108,111,97,116]else [105,110,116]):=d _ (by
   dsimp only;generalize hw:(if(15<=i.Op/\i.Op<=21)\/i.Op=23 then [102,108,111,97,116]else [105,110,116]:List UInt8)=want;refine fun w l=>?_
   have M:w (if(15<=i.Op/\i.Op<=18)\/i.Op=22 then [102,108,111,97,116]else [105,110,116]):=l _ (by
    dsimp only;generalize hs:(if(15<=i.Op/\i.Op<=18)\/i.Op=22 then [102,108,111,97,116]else [105,110,116]:List UInt8)=set;refine fun n b=>?_
    have C:KK (q.all (fun x=>decide (x=want))&&decide (g=set))->n ():=fun hk=>b _ (by
     dsimp only;refine kh q (fun x=>decide (x=want)) (decide (g=set)) KK (fun R k x hk hx _ ih hf hl=>?_) (fun R h hl=>?_) hk
     all_goals grind [Int.toNat_natCast])
    clear b l d;unfold vi at h;dsimp only at h;simp only[decide_eq_true_eq];have hv:(i.Op≠27/\i.Op≠30/\i.Op≠33/\i.Op≠34)->I=g:=fun x=>hd (t x)
    have P:(i.Op≠25/\i.Op≠29/\i.Op≠31/\i.Op≠32/\i.Op≠34)->0<q.length:=fun x=>by omega
    have l1:(i.Op=27\/i.Op=28)->1<q.length:=fun x=>by omega
    clear o3 G t hd f1 E f3 F q2 m;by_cases c:i.Op=24
    ·grind
    by_cases c:i.Op=25
    ·simp[c,By]at h⊢;refine fun J o=>?_;grind
    by_cases c:i.Op=26
    ·simp[c,am,bL,ac,gm]at h⊢;grind
    by_cases c:i.Op=27
    ·simp[c,am,bL,ac,gm]at h⊢;grind
    by_cases c:i.Op=28
    ·simp[c,am,bL,ac,La]at h⊢;grind
    by_cases c:i.Op=29
    ·grind [nK]
    by_cases c:i.Op=30
    ·grind [nK]
    by_cases c:i.Op=31
    ·simp[c,am,bL,ac]at h⊢;grind
    by_cases c:i.Op=33
    ·grind [gQ]
    by_cases c:i.Op=34
    ·grind
    by_cases c:i.Op=32
    ·rw[if_neg kQ1]at hw hs;subst hw;subst hs;have e:=hv kQ1
     have h:KK ((gc p i.Name).2&&(decide ((q.length:Int)=(gc p i.Name).1.N)&&(q.all (fun x=>decide (x=[105,110,116]))&&decide (g=[105,110,116])))):=by
      grind [ly,aeJ]
     simp only[c,bL,ac]
     grind
    have e:=hv kQ1
    have h:KK (q.all (fun x=>decide (x=want))&&decide (g=set)):=by
     grind [ly,aeJ]
    grind)
   refine fun A s=>?_
   grind)
  refine fun O z=>?_
  grind)
 grind [iN]
end Go.Am
end

section
namespace Go.Am
open Go
open Lt (nmB toB Gd Rc uniq)
theorem MZ(f:Lt.Func)(s:a8)(KK:Int×Bool->Prop)(h:KK (aI f s)):Gn f s KK:=by
 unfold Gn;unfold aI at h;refine au _ f.Blocks.length (fun i x=>x=(i:Int)/\KK (i7 s (f.Blocks.drop i) (i:Int))) (fun R i x hi⟨e,h⟩ih hl=>?_) (fun R x⟨e,h⟩hl=>?_) 0 ⟨rfl,h⟩
 ·subst e;rw[eL _ hi]at h
  grind [i7,ae]
 subst e;rw[if_neg (by simp)];rw[akJ]at h;exact h
theorem MW(f:Lt.Func)(i k:Int)(hp:rl f i k)(KK:Bool->Prop)(h:KK (pV f i k)):Gk f i k KK:=by
 unfold Gk;unfold pV at h;have hb:0<=i/\i.toNat<f.Blocks.length:=by obtain⟨a,b⟩:=hp;omega
 simp only[hb,and_self,true_and];show ab _ _
 generalize hT:(f.Blocks.getD i.toNat default).End.To=T;have c:toB f.Blocks i.toNat=T:=hT
 rw[c]at h;refine au _ T.length (fun j x=>x=(j:Int)/\KK ((T.drop j).any fun s=>(aI f s).2&&decide ((aI f s).1=k))) (fun R j x hj⟨e,h⟩ih hl=>?_) (fun R x⟨e,h⟩hl=>?_) 0 ⟨rfl,h⟩
 ·subst e;rw[eL _ hj,List.any_cons]at h;rw[if_pos (aP hj)];refine⟨ob hj,fun J d=>?_⟩
  grind [Int.toNat_natCast,ae]
 grind
variable{f:Lt.Func}
theorem qU(c:uniq f.Blocks)(i k:Int):pV f i k=true ↔ 0<=k/\k.toNat<f.Blocks.length/\nmB f.Blocks k.toNat∈toB f.Blocks i.toNat:=by
 unfold pV;rw[List.any_eq_true];constructor
 ·grind [dH,aI]
 rintro⟨h0,h1,h2⟩
 refine⟨_,h2,?_⟩;have h3:=(dH (nmB f.Blocks k.toNat) f.Blocks 0).2 ⟨k.toNat,h1,rfl⟩
 obtain⟨j,a,d,b⟩:=(dH _ f.Blocks 0).1 h3;have e:=c j k.toNat a h1 b
 grind [aI]
def Fk(f:Lt.Func)(l:List Bool):Prop:=l.length=f.Blocks.length/\∀k,l.getD k false=true->Rc f.Blocks k
theorem Fk.set{l:List Bool}(h:Fk f l){k:Nat}(hk:k<f.Blocks.length)(hr:Rc f.Blocks k):Fk f (l.set k true):=by
 refine⟨by rw[akS];exact h.1,fun j hj=>?_⟩;rw[dP (by rw[h.1];exact hk)]at hj;have:=h.2 j
 grind
def Z7(f:Lt.Func)(l:List Bool)(i:Nat):Prop:=l.getD i false=true->∀k,k<f.Blocks.length->nmB f.Blocks k∈toB f.Blocks i->l.getD k false=true
theorem aaA(l:List Bool)(k:Nat):iL (l.set k true)<=iL l:=by
 cases h:l.getD k true with
 |false=>grind [kN]
 |true=>
  have e:l.set k true=l:=by
   rcases akM k l.length with h'|h'
   ·refine aj9 fun j=>?_
    grind
   exact List.set_eq_of_length_le h'
  grind
theorem SR(f:Lt.Func)(hp:KC f)(KK:List Bool->Prop)(h:∀y,DC f y->KK y):OW f KK:=by
 unfold OW;obtain⟨hp,O⟩:=hp;dsimp only;have hn:((f.Blocks.length:Int)).toNat=f.Blocks.length:=Int.toNat_natCast _
 intro _;refine⟨⟨by omega,by omega,by omega⟩,fun _=>?_⟩;have H:Fk f (List.replicate (f.Blocks.length:Int).toNat (dflt .bo)):=by
  refine⟨by simp,fun k hk=>?_⟩;rw[List.getD,List.getElem?_replicate]at hk;split at hk
  ·exact absurd hk (by show ¬ (default:Bool)=true;decide)
  grind
 refine l9 (fun x=>Fk f x.1/\(x.2=true->0<f.Blocks.length)/\(x.2=false->0<f.Blocks.length->x.1.getD 0 false=true/\∀i,i<f.Blocks.length->Z7 f x.1 i)) (fun x=>2*iL x.1+x.2.toNat) (fun R x⟨hx,s,r⟩ih=>?_) _ ⟨H,fun hb=>by grind,fun hb h0=>by
  grind⟩
 obtain⟨l,b⟩:=x;dsimp only at hx s r ih⊢;refine ifk (fun hb=>?_) (fun hb=>h l ⟨hx.1,fun k hk=>⟨hx.2 k,fun hr=>?_⟩⟩)
 rotate_left
 ·obtain⟨h0,z⟩:=r (by grind) kQ1;induction hr with
  |first _=>exact h0
  |next i k _ hi hk hm ih=>exact z i hi (ih hi) k hk hm
 subst hb;have d:=s rfl
 have hl:=hx.1
 refine⟨⟨by omega,by omega⟩,by omega,?_⟩;have E:Fk f (l.set 0 true):=hx.set d (.first d)
 have S:=aaA l 0
 refine l9 (fun v=>Fk f v.1/\v.1.getD 0 false=true/\iL v.1+v.2.1.toNat<=iL (l.set 0 true)/\0<=v.2.2/\v.2.2<=(f.Blocks.length:Int)/\(v.2.1=false->∀i:Nat,(i:Int)<v.2.2->Z7 f v.1 i)) (fun v=>((f.Blocks.length:Int)-v.2.2).toNat) (fun W v⟨h1,n,h2,h3,h4,h5⟩A=>?_) _ ⟨E,rz kQ1 _ _,by simp,by simp,by simp,fun _ i hi=>by grind⟩;obtain⟨l3,m3,i⟩:=v;dsimp only at h1 n h2 h3 h4 h5 A⊢;intro _;have J:=h1.1
 rw[J];refine ifk (fun hi=>?_) (fun hi=>ih _ ⟨h1,fun _=>d,fun hm _=>⟨n,fun j hj=>h5 hm j (by grind)⟩⟩ ?_)
 rotate_left
 ·grind
 have hi:i < (f.Blocks.length:Int):=by grind
 refine l9 (fun v=>Fk f v.1/\v.1.getD 0 false=true/\iL v.1+v.2.1.toNat<=iL (l.set 0 true)/\0<=v.2.2/\v.2.2<=(f.Blocks.length:Int)/\(v.2.1=false->(∀j:Nat,(j:Int)<i->Z7 f v.1 j)/\(v.1.getD i.toNat false=true->∀k:Nat,(k:Int)<v.2.2->nmB f.Blocks k∈toB f.Blocks i.toNat->v.1.getD k false=true))) (fun v=>((f.Blocks.length:Int)-v.2.2).toNat) (fun U v⟨g1,o,g2,g3,g4,g5⟩w=>?_) _ ⟨h1,n,h2,by simp,by simp,fun hm=>⟨h5 hm,fun _ k hk=>by grind⟩⟩;obtain⟨p,N,k⟩:=v;dsimp only at g1 o g2 g3 g4 g5 w⊢;have M:=g1.1
 have c:(N=false->Z7 f p i.toNat)->W (p,N,i64.wrap (i+1)):=fun z=>by
  rw[cz kQ1 kQ1];refine A _ ⟨g1,o,g2,by grind,by grind,fun hm j hj=>?_⟩ (by grind);dsimp only at hj;rcases Int.lt_or_le (j:Int) i with h'|h'
  ·grind
  grind (splits:=20)
 intro J7 t;rw[M];intro _;refine ifk (fun hk=>⟨⟨h3,hi⟩,t _ ?_⟩) (fun hk=>t _ (by
  dsimp only;rw[if_neg (by simp)];exact c fun hm g k' B=>(g5 hm).2 g k' (by grind)))
 have hk:k < (f.Blocks.length:Int):=by grind
 dsimp only;refine ifk (fun hm=>?_) (fun hm=>c fun _ g=>absurd g hm);have I:Rc f.Blocks i.toNat:=g1.2 _ hm
 have on:∀q D,Fk f q->q.getD 0 false=true->iL q+D.toNat<=iL (l.set 0 true)->(D=false->q=p/\N=false/\(nmB f.Blocks k.toNat∈toB f.Blocks i.toNat->p.getD k.toNat false=true))->U (q,D,i64.wrap (k+1)):=by
  intro q D k1 L k2 k3;rw[cz kQ1 kQ1];refine w _ ⟨k1,L,k2,by grind,by grind,fun K=>?_⟩ (by grind);obtain⟨rfl,X,Y⟩:=k3 K;refine⟨(g5 X).1,fun g k' B=>?_⟩;dsimp only at B;rcases Int.lt_or_le (k':Int) k with h'|h'
  ·grind
  have:k'=k.toNat:=by omega
  grind
 intro Z C V m;refine⟨⟨g3,by omega⟩,?_⟩;have T:k.toNat<p.length:=by omega
 refine ifk (fun G=>⟨⟨h3,hi⟩,m _ ?_⟩) (fun G=>m _ ?_)
 ·dsimp only;refine ifk (fun a=>?_) (fun a=>C _ (on _ _ g1 o g2 fun F=>⟨rfl,F,fun u=>absurd ((qU O i k).2 ⟨g3,by omega,u⟩) a⟩));obtain⟨_,q2,Q⟩:=(qU O i k).1 a;refine⟨⟨g3,by omega⟩,by omega,C _ (on _ _ (g1.set q2 (.next i.toNat k.toNat I kQ1 q2 Q)) ?_ ?_ fun e=>by cases e)⟩
  ·grind [dP]
  have P:p.getD k.toNat true=false:=by
   grind
  grind [kN]
 grind
theorem Nb(f:Lt.Func)(hp:ad0 f)(KK:Bool->Prop)(h:KK (di f)):GA f KK:=by
 unfold GA;have n:¬ Gd f.Blocks->KK false:=fun w=>by grind [di,sH]
 have kT:Gd f.Blocks->KK true:=fun w=>by grind [di,pQ]
 have hn:f.Blocks.length<=1000000:=hp
 have t:∀s z,aI f s=(z,true)->∃k:Nat,k<f.Blocks.length/\z=(k:Int)/\nmB f.Blocks k=s:=fun s z e=>by
  grind [dH,aI]
 have u:∀i,i<f.Blocks.length->(aI f (nmB f.Blocks i)).2=true:=fun i hi=>(dH _ f.Blocks 0).2 ⟨i,hi,rfl⟩
 refine au _ f.Blocks.length (fun i x=>x=(i:Int)/\∀j,j<i->(aI f (nmB f.Blocks j)).1=(j:Int)/\(toB f.Blocks j).Nodup/\∀s∈toB f.Blocks j,(aI f s).2=true/\(aI f s).1≠0) (fun R i x hi⟨hx,m⟩ih=>?_) (fun R x⟨hx,m⟩=>?_) 0 ⟨rfl,fun j hj=>by omega⟩
 ·subst hx;dsimp only;intro _;rw[if_pos (aP hi)];refine⟨ob hi,?_⟩;rw[Int.toNat_natCast];refine ifk (fun hc=>n fun g=>?_) (fun h1=>⟨⟨ajE i,hi⟩,?_⟩)
  ·grind [Gd.nd]
  have h1:(aI f (nmB f.Blocks i)).1=(i:Int):=by
   grind
  have d:Gd f.Blocks->(toB f.Blocks i).Nodup/\∀s∈toB f.Blocks i,(aI f s).2=true/\(aI f s).1≠0:=fun g=>⟨g.tn i hi,fun s hs=>by
   grind [Gd.tr,Gd.nd]⟩
  have c:∀T,T=toB f.Blocks i->T.Nodup->(∀s∈T,(aI f s).2=true/\(aI f s).1≠0)->R (i64.wrap ((i:Int)+1)):=fun T e a b=>ih _ ⟨ae kQ1,fun j hj=>by
   grind⟩
  show ab _ _
  have d:Gd f.Blocks->(f.Blocks.getD i default).End.To.Nodup/\∀s∈(f.Blocks.getD i default).End.To,(aI f s).2=true/\(aI f s).1≠0:=d
  have c:=c (f.Blocks.getD i default).End.To rfl
  generalize(f.Blocks.getD i default).End.To=T at d c;refine uC T id (fun s=>(aI f s).2=true/\(aI f s).1≠0) (KK false) (fun o k s hk hx hm h1 h2 hl=>?_) (fun o F hd _=>?_) (fun hd=>n fun g=>hd (by grind [List.map_id]))
  ·rw[if_pos (aP hk)];refine⟨ob hk,fun J v=>?_⟩;rw[Int.toNat_natCast,hx];have j:J (!(aI f s).2||decide ((aI f s).1=0)):=v _ (by
    dsimp only;refine ifk (fun hc=>n fun g=>?_) (fun hc=>?_)
    ·grind
    have:=pD (l:=T) (nm:=id) (A:=KK false) (B:=o (i64.wrap ((k:Int)+1))) hk hl (by grind) (by grind)
    rw[hx]at this;rw[Int.toNat_natCast,hx];exact this)
   grind
  grind [List.map_id]
 subst hx;dsimp only;intro _;rw[if_neg (by simp)];have q:uniq f.Blocks:=fun i j hi hj e=>by
  grind
 refine⟨⟨hn,q⟩,fun y hy=>?_⟩;obtain⟨C,r⟩:=hy;refine au _ y.length (fun i x=>x=(i:Int)/\∀j,j<i->y.getD j false=true) (fun R i x hi⟨hx,p⟩ih=>?_) (fun R x⟨hx,p⟩=>?_) 0 ⟨rfl,fun j hj=>by omega⟩
 ·subst hx;intro _;rw[if_pos (aP hi)];refine⟨ob hi,?_⟩;rw[Int.toNat_natCast];refine ifk (fun hc=>n fun g=>?_) (fun hc=>ih _ ⟨ae kQ1,fun j hj=>?_⟩)
  all_goals grind [Gd.re]
 subst hx;intro _;rw[if_neg (by simp)];intro _;by_cases h0:0<f.Blocks.length
 ·rw[decide_eq_true kQ1];refine kT ⟨h0,q,fun i hi=>(m i hi).2.1,fun i hi s hs=>?_,fun k hk=>(r k hk).1 (p k kQ1)⟩;obtain⟨E,D⟩:=(m i hi).2.2 s hs
  grind
 rw[decide_eq_false kQ1];exact n fun g=>h0 g.ps
end Go.Am
end

section
namespace Go.Am
open Go
open Lt (nmB toB Gd Rc uniq bkB phB cR Bare)
theorem IX(s:a8):∀l:List a8,(l.filter fun x=>Op.bytesLess x s).length+(l.filter fun x=>!(Op.bytesLess x s||decide (x=s))).length<=l.length
 |[]=>ajB _
 |x::l=>by
  have:=IX s l
  grind
theorem M1(l:List a8)(s:a8)(hp:X1 l s)(KK:List a8->Prop)(h:∀y,Qi l s y->KK y):Gq l s KK:=by
 unfold Gq;have hp:l.length<=1000000:=hp
 have hf:=IX s l
 have a:∀(p:a8->Bool)i,((l.take i).filter p).length<=l.length:=fun p i=>akQ (List.length_filter_le _ _) (List.length_take_le' _ _)
 refine au _ l.length (fun i v=>v=((l.take i).filter (fun x=>Op.bytesLess x s),(i:Int))) (fun R i v hi e ih=>?_) (fun R v e=>?_) _ rfl
 ·subst e;have c:=a (fun x=>Op.bytesLess x s) i
  dsimp only;intro _;rw[if_pos (aP hi)];refine fun J b=>⟨ob hi,?_⟩
  dsimp +instances only [Int.toNat_natCast]at b⊢
  grind [ae,ba]
 subst e;rw[alG];have c:=a (fun x=>Op.bytesLess x s) l.length
 rw[alG]at c;dsimp only;intro _;rw[if_neg (by simp)];refine⟨⟨by grind,by grind⟩,?_⟩;refine au _ l.length (fun i v=>v=(l.filter (fun x=>Op.bytesLess x s)++[s]++(l.take i).filter (fun x=>!(Op.bytesLess x s||decide (x=s))),(i:Int))) (fun R i v hi e ih=>?_) (fun R v e=>?_) _ (by simp)
 ·subst e;have d:=a (fun x=>!(Op.bytesLess x s||decide (x=s))) i
  dsimp only;intro _;rw[if_pos (aP hi)];refine fun J b=>⟨ob hi,?_⟩
  dsimp +instances only [Int.toNat_natCast]at b⊢
  have j:=b (l.filter (fun x=>Op.bytesLess x s)++[s]++(l.take (i+1)).filter (fun x=>!(Op.bytesLess x s||decide (x=s)))) (ih _ (by grind [ae]))
  rw[ba l hi,List.filter_append]at j
  grind
 subst e;dsimp only;intro _;rw[if_neg (by simp),alG];refine h _ ⟨by grind,fun v=>?_⟩
 grind
theorem M0(l:List a8)(a:Lt.Arg)(hp:yg l a)(KK:List a8->Prop)(h:∀y,rk l a y->KK y):Gp l a KK:=by
 unfold Gp;refine ifk (fun hc=>⟨hp,fun y⟨h1,h2⟩=>h y ⟨h1,fun v=>?_⟩⟩) (fun hc=>h l ⟨by omega,fun v=>?_⟩)
 all_goals grind
def DZ(x:Lt.Instr):List Lt.Arg:=x.Args++(x.Frames.flatMap (fun f=>f.Vars.map (·.A))++x.Objs.flatMap (·.Vals))
theorem Uc(x:Lt.Instr):(DZ x).length=D1 x:=by
 grind [DZ,D1,List.length_flatMap]
theorem Ub(x:Lt.Instr)(v:a8):pm x v ↔ ∃a∈DZ x,a.Kind=1/\a.S=v:=by
 unfold DZ pm;simp only[ajO,alF,ajX]
 grind
def QU(KK:List a8->Prop)(out:List a8)(r:List Lt.Arg):Prop:=out.length+r.length<=1000000/\∀y,(∀v,v∈y ↔ v∈out\/∃a∈r,a.Kind=1/\a.S=v)->KK y
variable{KK:List a8->Prop}
theorem QU.step{out y:List a8}{a:Lt.Arg}{r:List Lt.Arg}(h:QU KK out (a::r))(hy:rk out a y):QU KK y r:=by
 obtain⟨h1,h2⟩:=h;obtain⟨h3,h4⟩:=hy;refine⟨by grind,fun z hz=>h2 z fun v=>?_⟩
 grind
theorem zc{α:Type}[Inhabited α]{body:(List a8×Int->Prop)->List a8×Int->Prop}{rest:List Lt.Arg}(l:List α)(ar:α->Lt.Arg)
  (hs:∀R(i:Nat)out x,i<l.length->l.getD i default=x->out.length<=1000000->(l.length<=4611686018427387904->∀y,rk out (ar x) y->R (y,i64.wrap ((i:Int)+1)))->body R (out,(i:Int)))
  (a:∀R out,QU KK out rest->body R (out,(l.length:Int))) (out:List a8) (h:QU KK out (l.map ar++rest)):ab body (out,0):=
 dl l (fun q i=>(q,i)) (fun r out=>QU KK out (r.map ar++rest)) (fun R out i x r hi hx _ ih h=>hs R i out x hi hx (by have:=h.1;omega) fun hl y hy=>ih hl y (h.step hy)) (fun R out h=>a R out h) out h
theorem JC(x:Lt.Instr)(hp:io x)(KK:List a8->Prop)(h:∀y,uL x y->KK y):Cx x KK:=by
 unfold Cx;have hp:D1 x<=1000000:=hp
 have hq:QU KK [] (DZ x):=⟨by grind [Uc],fun y hy=>h y fun v=>by grind [Ub]⟩
 refine zc x.Args id (fun R i out a hi hx c ih=>?_) (fun R out hq=>?_) [] (rest:=x.Frames.flatMap (fun f=>f.Vars.map (·.A))++x.Objs.flatMap (·.Vals)) (by simpa[DZ]using hq)
 ·dsimp only;intro hl;rw[if_pos (aP hi)];refine⟨ob hi,c,fun y hy=>?_⟩
  grind
 dsimp only;intro _;rw[if_neg (by simp)];refine dl x.Frames (fun q i=>(q,i)) (fun r out=>QU KK out (r.flatMap (fun f=>f.Vars.map (·.A))++x.Objs.flatMap (·.Vals))) (fun R out i f r hi hx _ ih hq=>?_) (fun R out hq=>?_) out hq
 ·dsimp only;intro hl;rw[if_pos (aP hi)];rw[akE,akR]at hq;rw[Int.toNat_natCast,hx];refine zc f.Vars (·.A) (fun R j out a b g c e=>?_) (fun R out hq=>?_) out hq
  ·dsimp only;refine⟨⟨by omega,hi⟩,fun d=>?_⟩;rw[if_pos (aP b)];refine⟨⟨by omega,hi⟩,ob b,c,fun y hy=>?_⟩
   grind
  grind
 dsimp only;intro _;rw[if_neg (by simp)];refine dl x.Objs (fun q i=>(q,i)) (fun r out=>QU KK out (r.flatMap (·.Vals))) (fun R out i f r hi hx _ ih hq=>?_) (fun R out hq=>?_) out (by grind)
 ·dsimp only;intro hl;rw[if_pos (aP hi)];rw[akE]at hq;rw[Int.toNat_natCast,hx];refine zc f.Vals id (fun R j out a b g c e=>?_) (fun R out hq=>?_) out (by simpa using hq)
  ·dsimp only;refine⟨⟨by omega,hi⟩,fun d=>?_⟩;rw[if_pos (aP b)];refine⟨⟨by omega,hi⟩,ob b,c,fun y hy=>?_⟩
   grind
  grind
 dsimp only;intro _;rw[if_neg (by simp)];exact hq.2 _ fun v=>by simp
end Go.Am
end
