/-
  Part 19: AmRd · AmCl18v · AmKV · AmCl18w · AmNiceS · AmNice40 · AmNiceX · AmNice50 · AmNice55 · AmG52 · AmG51 · AmG41 · AmG40 · AmL40 · AmL41 · AmL42 · AmL43 · AmL50 · AmL51 · AmL52 · AmL53.
-/
import Derived.Test.YteooihiebpbaiaaGreatDoorVp18
import Derived.MapFrom
set_option linter.unusedSimpArgs false
set_option linter.unusedVariables false
set_option linter.unusedSectionVars false
set_option linter.unnecessarySimpa false
open Lt
open Go.Proofs.Tryz
open Go.IntKind (i64)
section
namespace Go.Am
open Go Go.RowKit Go.Proofs Go.MapKept
def uU(w:a8)(df:Nat):List (a8×Nat)->Nat
 |[]=>df
 |(w0,f)::r=>if decide (w=w0)=true then f else uU w df r
theorem BE(w:a8)(K:Nat->Prop)(df:Nat):∀a,swP w K df a=K (uU w df a)
 |[]=>rfl
 |(w0,f)::r=>by
  rw[swP,uU,BE w K df r]
  grind
variable{clock:Nat}{es:Array MapEntry}{et kt mt:TypeId}
section
variable {P:Program}
theorem Zt{o:Oper}{a:Act}{next:Act->World->Prop}{Q:Exit->Act->World->Prop}{r:Nat}{k:ByteArray}{v:Value}{w:World}
  (hm:P.underlying mt=some (.map kt et)) (hd:P.underlying kt=some .string) (hb:w.heap[r]? = some (.map es clock)) (hf:Instr.findNow .string (.string k) es.toList 0=some none)
  (h:∀w2,w2.heap[r]? = some (.map (es.push { key:=.string k,val:=v,born:=clock }) (clock+1))->Below r w w2->next (a.put o.dst undef) w2) :
  o.upon P a next Q (((Instr.mapUpdate mt (.map (some r)) (.string k) v).run P w).andThen λ_ w'=>.ok Next.skip w'):=by
 have b:(Instr.mapUpdate mt (.map (some r)) (.string k) v).run P w=.ok () { w with heap:=w.heap.setIfInBounds r (.map (es.push { key:=.string k,val:=v,born:=clock }) (clock+1)) }:=by simp[Instr.mapUpdate,run_underlying hm,MapKept.run_getObj_map hb,run_checkKey hd (k:=.string k) trivial,run_findKey hd hf,run_setObj_map _ hb,Result.andThen]
 rw[b];exact h _ (heap_set hb).1 ⟨rfl,rfl,rfl,by simp,λj hj=>(heap_set hb).2 j kQ1⟩
theorem Jn(s:ByteArray):∀(es:List MapEntry)(a:List (a8×Nat))(i:Nat),es.map (λe=>(e.key,e.val))=a.map (λx=>(Value.string ⟨x.1.toArray⟩,Value.func (.func x.2) #[] #[])) ->
  (∃x∈a,(∃j,Instr.findNow .string (.string s) es i=some (some (j,.func (.func x.2) #[] #[])))/\∀df,uU s.data.toList df a=x.2)\/(Instr.findNow .string (.string s) es i=some none/\∀df,uU s.data.toList df a=df)
 |[],[],i,_=>.inr ⟨rfl,λ_=>rfl⟩
 |[],_::_,i,h=>by simp at h
 |_::_,[],i,h=>by simp at h
 |e::es,(k,f)::a,i,h=>by
  obtain⟨g,ev,d⟩:=e;simp only[List.map_cons,List.cons.injEq,Prod.mk.injEq]at h;obtain⟨⟨rfl,rfl⟩,h⟩:=h;unfold Instr.findNow;simp only[Instr.sameNow];by_cases hc:s=⟨k.toArray⟩
  .have b:(s==⟨k.toArray⟩)=true:=(bytes_beq _ _).2 hc
   simp_all[uU]
  have b:(s==⟨k.toArray⟩)=false:=by grind [bytes_beq]
  rw[b];have c:¬ s.data.toList=k:=by
   rintro rfl
   grind
  rcases Jn s es a (i+1) h with⟨x,hx,hj,hp⟩|⟨h1,h2⟩
  all_goals grind [uU]
theorem Lj{r:Nat}{s:ByteArray}{w:World}(hm:P.underlying mt=some (.map kt et))(hd:P.underlying kt=some .string)(a:(zeroValue et).run P w=.ok .nilFunc w)
  (hb:w.heap[r]? = some (.map es clock)) {x:Option (Nat×Value)} (hf:Instr.findNow .string (.string s) es.toList 0=some x) :
  (Instr.lookup mt (.map (some r)) (.string s) false).run P w=.ok (match x with|some (_,v)=>v|none=>.nilFunc) w:=by
 cases x with
 |none=>simp[Instr.lookup,run_underlying hm,MapKept.run_getObj_map hb,run_checkKey hd (k:=.string s) trivial,run_findKey hd hf,a,Result.andThen]
 |some y=>obtain⟨j,v⟩:=y;simp[Instr.lookup,run_underlying hm,MapKept.run_getObj_map hb,run_checkKey hd (k:=.string s) trivial,run_findKey hd hf,Result.andThen]
end
variable{a b:Array Value}{ps rs:Array TypeId}{t:TypeId}{va:Bool}
theorem abV{P:Program}{f:Fn}(h:P.underlying t=some (.func ps rs va))(w:World):(Op.equal t (.func f a b) .nilFunc).run P w=.ok false w:=by unfold Op.equal Op.maxDepth;rw[show(10000:Nat)=9999+1 from rfl];unfold Op.equalIn;simp only[Sem.run_bind,run_underlying h,Result.andThen];rfl
theorem MX{P:Program}(h:P.underlying t=some (.func ps rs va))(w:World):(Op.equal t .nilFunc .nilFunc).run P w=.ok true w:=by unfold Op.equal Op.maxDepth;rw[show(10000:Nat)=9999+1 from rfl];unfold Op.equalIn;simp only[Sem.run_bind,run_underlying h,Result.andThen];rfl
theorem Yn{P:Program}{f:Fn}(h:P.underlying t=some (.func ps rs va))(w:World):(binOp .neq t (.func f a b) .nilFunc).run P w=.ok (.bool true) w:=by
 show(do pure (.bool (!(<- Op.equal t (.func f a b) .nilFunc))):Sem Value).run P w=_
 simp only[Sem.run_bind,abV h,Result.andThen];rfl
theorem KQ{P:Program}(h:P.underlying t=some (.func ps rs va))(w:World):(binOp .neq t .nilFunc .nilFunc).run P w=.ok (.bool false) w:=by
 show(do pure (.bool (!(<- Op.equal t .nilFunc .nilFunc))):Sem Value).run P w=_
 simp only[Sem.run_bind,MX h,Result.andThen];rfl
theorem af2{a:Array MapEntry}{b:Nat}{f:Option Obj}(hb:f=some (.map a b)){L:List (Value×Value)}(d:a.toList.map (λe=>(e.key,e.val))=L):∃es c,f=some (.map es c)/\es.toList.map (λe=>(e.key,e.val))=L:=⟨a,b,hb,d⟩
def Uu:List (a8×Nat):=[([115,115,97],125),([99,108,97,115,115],126),([102,105,101,108,100],127),([103,108,111,98,97,108],128),([101,120,116,101,114,110],129),([102,117,110,99],130),([112,97,114,97,109],131),([118,97,114],132),([98,108,111,99,107],133),([112,104,105],134),([97,116],135),([111,98,106],136),([106,117,109,112],137),([98,114,97,110,99,104],137),([114,101,116],137),([116,114,97,112],137)]
set_option maxRecDepth 100000 in
theorem F7(s:ByteArray)(w:World) :
  Calls prog 83 #[.string s] w λe w'=>e=.returned (.func (.func (uU s.data.toList 84 Uu)) #[] #[])/\Below w.heap.size w w':=by
 have hmm:=@run_makeMap prog
 have hm:=underlying195
 have hd:=underlying9
 have f:∀w,(zeroValue 147).run prog w=.ok .nilFunc w:=zeroValue147
 have hb:(w.alloc (.map #[] 0)).heap[w.heap.size]? = some (.map #[] 0):=(heap_alloc w _).1
 have d:Below w.heap.size w (w.alloc (.map #[] 0)):=(Below.refl _ w).alloc (akR _) _
 go_enter func83,Tryz.ntmps83
 go_wp2
 iterate 16
  refine Zt hm hd hb (by rfl) (λw2 b a=>?_)
  replace d:=d.trans a
  replace hb:=b
  clear a b
  go_wp2
 obtain⟨es,c,hb,g⟩:=af2 hb (L:=Uu.map (λx=>(Value.string ⟨x.1.toArray⟩,Value.func (.func x.2) #[] #[]))) (by rfl);rcases Jn s es.toList Uu 0 g with⟨x,hx,⟨j,hj⟩,hp⟩|⟨h1,hp⟩
 .rw[Lj hm hd (f _) hb hj];simp only[Result.andThen];rw[Oper.upon_value]
  go_wp2
  rw[Yn underlying147];simp only[Result.andThen];rw[Oper.upon_value]
  go_wp2
  go_ret
  simp_all
 rw[Lj hm hd (f _) hb h1];simp only[Result.andThen];rw[Oper.upon_value]
 go_wp2
 rw[KQ underlying147];simp only[Result.andThen];rw[Oper.upon_value]
 go_wp2
 go_ret
 simp_all
theorem agW{v:At}{x:a8}(h:cG [.s] [v]=some x):v.noRf=true/\v.toV.isFz=true/\v.toV.map T.canon=.one (.c (.d (.str x))):=by
 obtain⟨h1,h2,h3⟩:=kQ h;refine⟨by grind,by grind,?_⟩;have:[v.toV.map T.canon]=[AV.one (.c (.d (.str x)))]:=h3
 grind
def sB:CKt:=swT Uu 84
theorem MS:Cont prog 83 sB:=by
 refine⟨mq (fn:=f83) kQ0 (by rfl) (by rfl),λpk s ops k k' hk hc=>?_,λg pk s a w H γ F1 ops k z u hc=>?_⟩
 .unfold sB swT at hc|-
  grind [BE,eC]
 unfold sB swT at hc;dsimp only at hc;obtain⟨H1,n,h1⟩:=iI (ops.map (evA s)) s H F1 z;generalize cR s (ops.map (evA s))=s1 at hc h1;split at hc
 .rename_i x hx;rw[BE]at hc
  match ops,hx with
  |[],hx=>grind [cG]
  |[o],hx=>
   obtain⟨_,B,q⟩:=agW hx;have hop:aI o=true:=by grind
   have hv:=aL h1 hop
   rw[ak hop]at hv;have f:=iG fp (wZ (w':=w) (γ':=γ) (m':=[]) (λ_ _ _ h=>h) B hv)
   rw[q]at f;obtain⟨A,_⟩:=lK f;show Calls _ _ #[a.eval o] w _
   rw[A];refine(F7 ⟨x.toArray⟩ w).mono ?_;rintro e w' ⟨rfl,hb⟩
   rw[qW];have d:∀b,tot n s1.toS.m b≠0->w'.heap[b]? = w.heap[b]? := λb c=>hb.block b (h1.mem.lt b c)
   have l:=fj (w':=w') h1.mem d
   have j:Mem w' H1 γ s1.toS.m n:=by
    refine⟨λb o y hy=>?_,λx hx=>aZ l (λ_ _ _ h=>h) rfl (λb c=>d b (by grind [bD])) (h1.mem.roots x hx),h1.mem.keys,h1.mem.le1,λb c=>by have:=h1.mem.lt b c;grind,h1.mem.nofz⟩;have p:b<w.heap.size:=(h1.mem.agree b o y hy).lt
    exact(h1.mem.agree b o y hy).frame (hb.block b p)
   have r:Fr w H1 (tot n s1.toS.m) w' H1 (tot n s1.toS.m):=⟨hb.size,hb.os,hb.tape,hb.output,λb c _=>hb.block b c,λ_ _ _ h=>h,λb o h2 h3=>absurd h3 h2,λb hb=>.inl hb,λb h0=>h0.of_block (hb.block b h0.lt),oO.2⟩
   exact .inl ⟨_,s1,sct (.v (.func (.func (uU x 84 Uu)) #[] #[])),H1,γ,n,rfl,hc,⟨λ_=>rfl,0,rfl,rfl⟩,j4 h1 j r (λi=>dw l (λ_ _ _ h=>h) (h1.t i)) (λ_=>rfl)⟩
  |_::_::_,hx=>grind [cG]
 grind
end Go.Am
end

section
namespace Go.Am
open Go Go.Proofs
set_option maxRecDepth 100000
def eU:Ut:=[(39,(.st .Class)),(89,(.st .Var)),(41,(.st .Extern)),(45,(.st .Func)),(61,(.st .Block)),(47,.fn),(5,.b8),(64,(.st .Phi)),(73,(.st .Instr)),(9,.s),(66,(.st .In)),(56,(.st .Arg)),(137,(.st .Frame)),(141,(.st .Virt)),(85,(.st .Line)),(4,.bo),(139,(.st .Bind)),(3,(.i .i64)),(167,(.mp .s .bo)),(177,(.st .RLine)),(149,(.sl (.i .i64))),(278,(.st .step))]
def eS:List (TypeId×List Sh):=[(27,[.fr,.ow [.fr,.ow [.fr,.fr]],.ow [.fr,.fr],.ow [.fr,.fr],.ow [.fr,.fr,.ow [.fr,.fr],.ow [.fr,.fr],.ow [.fr,.ow [.fr,.fr],.ow [.fr,.fr,.fr,.fr,.ow [.fr,.fr,.fr,.fr],.ow [.fr,.fr]],.fr,.fr,.fr,.fr,.fr,.fr]]]),(39,[.fr,.ow [.fr,.fr]]),(45,[.fr,.fr,.ow [.fr,.fr],.ow [.fr,.fr],.ow [.fr,.ow [.fr,.fr],.ow [.fr,.fr,.fr,.fr,.ow [.fr,.fr,.fr,.fr],.ow [.fr,.fr]],.fr,.fr,.fr,.fr,.fr,.fr]]),(61,[.fr,.ow [.fr,.fr],.ow [.fr,.fr,.fr,.fr,.ow [.fr,.fr,.fr,.fr],.ow [.fr,.fr]],.fr,.fr,.fr,.fr,.fr,.fr]),(73,[.fr,.fr,.fr,.fr,.ow [.fr,.fr,.fr,.fr],.ow [.fr,.fr]]),(79,[.fr,.ow [.fr,.ow [.fr,.fr]],.ow [.fr,.fr],.ow [.fr,.fr],.ow [.fr,.fr,.ow [.fr,.fr],.ow [.fr,.fr],.ow [.fr,.ow [.fr,.fr],.ow [.fr,.fr,.fr,.fr,.ow [.fr,.fr,.fr,.fr],.ow [.fr,.fr]],.fr,.fr,.fr,.fr,.fr,.fr]],.fr,.fr,.fr,.fr]),(80,[.fr,.ow [.fr,.ow [.fr,.fr]],.ow [.fr,.fr],.ow [.fr,.fr],.ow [.fr,.fr,.ow [.fr,.fr],.ow [.fr,.fr],.ow [.fr,.ow [.fr,.fr],.ow [.fr,.fr,.fr,.fr,.ow [.fr,.fr,.fr,.fr],.ow [.fr,.fr]],.fr,.fr,.fr,.fr,.fr,.fr]],.fr,.fr,.fr,.fr]),(158,[.fr,.ow [.fr,.ow [.fr,.fr]],.ow [.fr,.fr],.ow [.fr,.fr],.ow [.fr,.fr,.ow [.fr,.fr],.ow [.fr,.fr],.ow [.fr,.ow [.fr,.fr],.ow [.fr,.fr,.fr,.fr,.ow [.fr,.fr,.fr,.fr],.ow [.fr,.fr]],.fr,.fr,.fr,.fr,.fr,.fr]],.fr,.fr,.fr,.fr,.ow [.fr,.fr,.fr,.fr],.ow [.fr,.fr],.fr,.fr]),(159,[.fr,.ow [.fr,.ow [.fr,.fr]],.ow [.fr,.fr],.ow [.fr,.fr],.ow [.fr,.fr,.ow [.fr,.fr],.ow [.fr,.fr],.ow [.fr,.ow [.fr,.fr],.ow [.fr,.fr,.fr,.fr,.ow [.fr,.fr,.fr,.fr],.ow [.fr,.fr]],.fr,.fr,.fr,.fr,.fr,.fr]],.fr,.fr,.fr,.fr,.ow [.fr,.fr,.fr,.fr],.ow [.fr,.fr],.fr,.fr]),(174,[.fr,.ow [.fr,.ow [.fr,.fr]],.ow [.fr,.fr],.ow [.fr,.fr],.ow [.fr,.fr,.ow [.fr,.fr],.ow [.fr,.fr],.ow [.fr,.ow [.fr,.fr],.ow [.fr,.fr,.fr,.fr,.ow [.fr,.fr,.fr,.fr],.ow [.fr,.fr]],.fr,.fr,.fr,.fr,.fr,.fr]],.fr,.fr]),(175,[.fr,.ow [.fr,.ow [.fr,.fr]],.ow [.fr,.fr],.ow [.fr,.fr],.ow [.fr,.fr,.ow [.fr,.fr],.ow [.fr,.fr],.ow [.fr,.ow [.fr,.fr],.ow [.fr,.fr,.fr,.fr,.ow [.fr,.fr,.fr,.fr],.ow [.fr,.fr]],.fr,.fr,.fr,.fr,.fr,.fr]],.fr,.fr])]
abbrev eP:List (TypeId×List Sh):=[(149,[.ow [.fr]])]
abbrev shR:List Sh:=[.fr,.ow [.fr,.ow [.fr,.fr]],.ow [.fr,.fr],.ow [.fr,.fr],.ow [.fr,.fr,.ow [.fr,.fr],.ow [.fr,.fr],.ow [.fr,.ow [.fr,.fr],.ow [.fr,.fr,.fr,.fr,.ow [.fr,.fr,.fr,.fr],.ow [.fr,.fr]],.fr,.fr,.fr,.fr,.fr,.fr]],.fr,.fr,.fr,.fr]
noncomputable def x80:Cl 80:=⟨fnB [.s,.s] [.sl .s] (λx=>decide (x.1.length < 4294967281)&&decide (1<=x.2.length)) (λx=>E1 x.1 x.2),_,Aa (λx h=>by simp only[akP,decide_eq_true_eq]at h;exact h),WA⟩
noncomputable def x81:Cl 81:=⟨fnB [.s,.s] [.s,.s,.bo] (λx=>decide (x.1.length < 4294967281)) (λx=>ai4 x.1 x.2),_,Aa (λx h=>of_decide_eq_true h),agP⟩
noncomputable def aj0:Cl 124:=clL eU eP [] 128 f124 [.b8] [.bo]
noncomputable def x82:Cl 82:=clP eU eP [⟨_,aj0⟩] 128 f82 [.s] [.sl .s,.bo]
noncomputable def x32:Cl 32:=clP eU eP [⟨_,x80⟩,⟨_,x81⟩,⟨_,x82⟩] 128 f32 [.s] [(.sl (.st .Line)),.i .i64,.i .i64]
noncomputable def x85:Cl 85:=clN eU eS [] 128 f85
noncomputable def aj1:Cl 125:=clM eU eS [⟨_,x85⟩] 128 f125 [.sl .s] [] shR (.st .Reader)
noncomputable def x86:Cl 86:=clL eU eS [] 128 f86 [(.sl (.i .i64)),.i .i64] [.bo]
noncomputable def x35:Cl 35:=clN eU eS [⟨_,x86⟩,⟨_,x85⟩] 128 f35
noncomputable def x89:Cl 89:=clL eU eP [] 128 f89 [.b8] [.bo]
noncomputable def x90:Cl 90:=clL eU eP [] 128 f90 [.s] [.bo]
noncomputable def x91:Cl 91:=clL eU eP [] 128 f91 [.b8] [.bo]
noncomputable def x38:Cl 38:=clL eU eP [⟨_,x89⟩,⟨_,x90⟩,⟨_,x91⟩] 128 f38 [.s] [.bo]
noncomputable def wX:Cl 138:=clL eU eS [⟨_,x38⟩,⟨_,x85⟩] 128 f138 [.s] [.s]
noncomputable def ye:Cl 184:=clN eU eS [] 128 f184
noncomputable def aj2:Cl 126:=clM eU eS [⟨_,x35⟩,⟨_,x85⟩,⟨_,wX⟩,⟨_,ye⟩] 128 f126 [.sl .s] [] shR (.st .Reader)
noncomputable def ZE:Cl 185:=clL eU eS [⟨_,x38⟩,⟨_,x85⟩] 128 f185 [.s] [.s]
noncomputable def aj3:Cl 127:=clM eU eS [⟨_,x35⟩,⟨_,x85⟩,⟨_,wX⟩,⟨_,ZE⟩,⟨_,ye⟩] 128 f127 [.sl .s] [] shR (.st .Reader)
noncomputable def aj4:Cl 128:=clM eU eS [⟨_,x35⟩,⟨_,x85⟩,⟨_,wX⟩,⟨_,ZE⟩,⟨_,ye⟩] 128 f128 [.sl .s] [] shR (.st .Reader)
noncomputable def akI:Cl 229:=clF [.i .i64] [.s] (λx=>if x=(1:Int)then [49]else [50]) (λx=>decide (x=(1:Int)\/x=(2:Int))) (λx h=>of_decide_eq_true h) agR
noncomputable def aeH:Cl 191:=clL eU eP [⟨_,akI⟩] 128 f191 [.s] [.i .i64,.bo]
noncomputable def ajO:Cl 186:=clL eU eS [⟨_,aeH⟩,⟨_,x85⟩] 128 f186 [.s,.i .i64,.i .i64] [.i .i64]
noncomputable def aj5:Cl 129:=clM eU eS [⟨_,x35⟩,⟨_,x85⟩,⟨_,wX⟩,⟨_,ajO⟩,⟨_,ye⟩] 128 f129 [.sl .s] [] shR (.st .Reader)
noncomputable def aj6:Cl 130:=clM eU eS [⟨_,x35⟩,⟨_,x85⟩,⟨_,wX⟩,⟨_,ZE⟩,⟨_,ye⟩] 128 f130 [.sl .s] [] shR (.st .Reader)
noncomputable def aeF:Cl 187:=clN eU eS [] 128 f187
noncomputable def aj7:Cl 131:=clM eU eS [⟨_,x35⟩,⟨_,x85⟩,⟨_,wX⟩,⟨_,ZE⟩,⟨_,aeF⟩,⟨_,ye⟩] 128 f131 [.sl .s] [] shR (.st .Reader)
noncomputable def aj8:Cl 132:=clM eU eS [⟨_,x35⟩,⟨_,x85⟩,⟨_,wX⟩,⟨_,ZE⟩,⟨_,aeF⟩,⟨_,ye⟩] 128 f132 [.sl .s] [] shR (.st .Reader)
noncomputable def akF:Cl 188:=clN eU eS [] 128 f188
noncomputable def aj9:Cl 133:=clM eU eS [⟨_,akF⟩,⟨_,x85⟩,⟨_,wX⟩,⟨_,aeF⟩,⟨_,ye⟩] 128 f133 [.sl .s] [] shR (.st .Reader)
noncomputable def akM:Cl 254:=⟨fnB [.s,.s] [.s,.bo] (λ_=>true) (λx=>ae5 x.1 x.2),_,Xo,aaX⟩
noncomputable def akN:Cl 255:=⟨fnB [.s,.b8] [.i .i64] (λ_=>true) (λx=>Xw x.1 x.2),_,Xo,Wz⟩
noncomputable def akK:Cl 245:=clL eU eP [] 128 f245 [.i .i64] [.i .i64]
noncomputable def akL:Cl 250:=clL eU eP [⟨_,akM⟩,⟨_,akN⟩,⟨_,akK⟩] 128 f250 [.s] [.i .i64,.bo]
noncomputable def akJ:Cl 243:=clP eU eP [⟨_,akL⟩,⟨_,aeH⟩] 128 f243 [.s] [.st .Arg,.bo]
noncomputable def akH:Cl 228:=clP eU eP [⟨_,x38⟩,⟨_,aeH⟩,⟨_,akJ⟩] 128 f228 [.s] [.st .Arg,.bo]
noncomputable def aeG:Cl 189:=clP eU eS [⟨_,akH⟩,⟨_,x85⟩] 128 f189 [.s,.bo] [.st .Arg]
noncomputable def ajN:Cl 142:=clN eU eS [⟨_,ye⟩] 128 f142
noncomputable def aeE:Cl 143:=clN eU eS [⟨_,aeF⟩] 128 f143
noncomputable def akA:Cl 134:=clM eU eS [⟨_,x35⟩,⟨_,x85⟩,⟨_,wX⟩,⟨_,aeG⟩,⟨_,ye⟩,⟨_,ajN⟩,⟨_,aeE⟩] 128 f134 [.sl .s] [] shR (.st .Reader)
noncomputable def ajP:Cl 190:=clN eU eS [⟨_,aeE⟩] 128 f190
noncomputable def akB:Cl 135:=clM eU eS [⟨_,x35⟩,⟨_,x85⟩,⟨_,wX⟩,⟨_,ajO⟩,⟨_,aeG⟩,⟨_,ye⟩,⟨_,ajP⟩] 128 f135 [.sl .s] [] shR (.st .Reader)
noncomputable def ajM:Cl 141:=clP eU eS [⟨_,aeG⟩] 128 f141 [.sl .s,.bo] [(.sl (.st .Arg))]
noncomputable def akC:Cl 136:=clM eU eS [⟨_,x35⟩,⟨_,x85⟩,⟨_,wX⟩,⟨_,ajM⟩,⟨_,ajP⟩,⟨_,ye⟩] 128 f136 [.sl .s] [] shR (.st .Reader)
noncomputable def akD:Cl 137:=clM eU eS [⟨_,x35⟩,⟨_,x85⟩,⟨_,wX⟩,⟨_,aeG⟩,⟨_,aeH⟩,⟨_,aeE⟩] 128 f137 [.sl .s] [] shR (.st .Reader)
noncomputable def akG:Cl 192:=clL eU eS [] 128 f192 [.s,.i .i64] [.s]
noncomputable def ajL:Cl 140:=clP eU eS [⟨_,akG⟩] 128 f140 [.i .i64] [.st .Form,.bo]
noncomputable def akE:Cl 139:=clL eU eS [⟨_,ajL⟩] 128 f139 [.s] [.i .i64,.bo]
noncomputable def x84:Cl 84:=clM eU eS [⟨_,x35⟩,⟨_,wX⟩,⟨_,akE⟩,⟨_,x85⟩,⟨_,ajL⟩,⟨_,ajM⟩,⟨_,ajN⟩,⟨_,aeE⟩] 128 f84 [.sl .s] [] shR (.st .Reader)
noncomputable def x83:Cl 83:=⟨swB Uu 84,_,ah0,MS⟩
noncomputable def x34:Cl 34:=clM eU eS [⟨_,x83⟩,⟨_,aj1⟩,⟨_,aj2⟩,⟨_,aj3⟩,⟨_,aj4⟩,⟨_,aj5⟩,⟨_,aj6⟩,⟨_,aj7⟩,⟨_,aj8⟩,⟨_,aj9⟩,⟨_,akA⟩,⟨_,akB⟩,⟨_,akC⟩,⟨_,akD⟩,⟨_,x84⟩] 128 f34 [.sl .s] [] shR (.st .Reader)
noncomputable abbrev lParse:ClS:=[⟨_,x32⟩,⟨_,x34⟩,⟨_,x35⟩]
abbrev ajI:a8:=[115,115,97,10,102,117,110,99,32,102,32,105,110,116,10,118,97,114,32,120,32,105,110,116,10,98,108,111,99,107,32,97,10,120,32,61,32,109,111,118,32,49,10,114,101,116,32,120,10]
abbrev wi:Lt.Func:=⟨[102],[105,110,116],[],[⟨[120],[105,110,116]⟩],[⟨[97],[],[⟨24,[120],[],[⟨2,[],1⟩],[],[]⟩],⟨3,⟨1,[120],0⟩,[],0⟩⟩]⟩
abbrev pj:Lt.Program:=⟨true,[],[],[],[wi]⟩
theorem ta0:MB 128 (clE eU eS lParse) f10 (kLs 4 (f10.body.getD .skip)) (kRs (4+1) (f10.body.getD .skip)) [.s] [.st .Program,.i .i64,.i .i64] ajI (λy=>decide (y=(pj,0,0)))=true:=kQ0
abbrev ajJ:a8:=[115,115,97,10,102,117,110,99,32,102,32,105,110,116,10,118,97,114,32,120,32,105,110,116,10,98,108,111,99,107,32,97,10,120,32,61,32,109,111,118,32,49,10,120,32,61,32,109,111,118,32,50,10,114,101,116,32,120,10]
abbrev Xp:Lt.Func:=⟨[102],[105,110,116],[],[⟨[120],[105,110,116]⟩],[⟨[97],[],[⟨24,[120],[],[⟨2,[],1⟩],[],[]⟩,⟨24,[120],[],[⟨2,[],2⟩],[],[]⟩],⟨3,⟨1,[120],0⟩,[],0⟩⟩]⟩
abbrev wH:Lt.Program:=⟨true,[],[],[],[Xp]⟩
theorem ta1:MB 128 (clE eU eS lParse) f10 (kLs 4 (f10.body.getD .skip)) (kRs (4+1) (f10.body.getD .skip)) [.s] [.st .Program,.i .i64,.i .i64] ajJ (λy=>decide (y=(wH,0,0)))=true:=by kernel_rfl
set_option maxRecDepth 100000
variable{P:Program}{f:Nat}{α:Type}
section
structure Ev (sh:List (TypeId×List Sh)) where
 cs:CTt
 ok:En.ok ⟨prog,eU,cs,sh,noP⟩
structure Cb (f:Nat) where
 C:CKt
 ok:Cont prog f C
structure Kb (f:Nat) where
 C:CKt
 ok:ContC prog f C
noncomputable abbrev Ev.en{sh:List (TypeId×List Sh)}(E:Ev sh):En:=⟨prog,eU,E.cs,sh,noP⟩
theorem En.ok0{u:Ut}{sh:List (TypeId×List Sh)}{pk:PKt}:En.ok ⟨P,u,[],sh,pk⟩:=λ_ h=>by cases h
theorem En.okc{u:Ut}{sh:List (TypeId×List Sh)}{pk:PKt}{C:CKt}{cs:CTt}(h:Cont P f C)(hs:En.ok ⟨P,u,cs,sh,pk⟩)(hf:Nat.blt f 1000000=true):En.ok ⟨P,u,(f,C)::cs,sh,pk⟩:=by
 intro x hx;rcases akX.1 hx with rfl|hx
 .exact⟨λ_=>h,λhb=>absurd hb (Nat.not_le.2 (akZ hf))⟩
 exact hs x hx
theorem mixed:prog.follows .mixedOrders=true:=kQ0
def okF(n:Nat)(fn:Func):Bool:=fn.name != "runtime.NumGoroutine" && (fn.body.isSome&&(Nat.ble n fn.ntmps&&ii fn.ntmps (fn.body.getD .skip)))
theorem eX{n:Nat}{fn:Func}(h:okF n fn=true):(fn.name == "runtime.NumGoroutine")=false/\fn.body.isSome=true/\Nat.ble n fn.ntmps=true/\ii fn.ntmps (fn.body.getD .skip)=true:=by
 unfold okF at h;simp only[akP,bne,alA]at h;exact h
def aE:Nat->Nat->List Sg->(An->Nat->List Sg->An)->An
 |0,n,l,κ=>κ .l n l
 |k+1,n,l,κ=>match n % 8 with
  |0=>κ .l (n / 8) l
  |1=>aE k (n / 8) l λa n l=>aE k n l λb n l=>κ (.s a b) n l
  |2=>aE k (n / 8) l λa n l=>aE k n l λb n l=>κ (.c a b) n l
  |3=>aE k (n / 8) l λa n l=>κ (.b a) n l
  |4=>match l with
   |g::l=>aE k (n / 8) l λa n l=>aE k n l λb n l=>κ (.j g a b) n l
   |[]=>.l
  |5=>match l with
   |g::l=>aE k (n / 8) l λa n l=>κ (.lp g a) n l
   |[]=>.l
  |_=>aE k (n / 64) l λa m l=>κ (.un (n / 8 % 8) a) m l
def aD(n:Nat)(l:List Sg):An:=aE 200 n l λa _ _=>a
def dg:Nat->Nat->List Nat
 |0,_=>[]
 |k+1,n=>n % 64::dg k (n / 64)
def pk:List Nat->Nat->(Nat->α)->(Nat->α)->α
 |[],n,_,d=>d n
 |x::_,0,κ,_=>κ x
 |_::l,n+1,κ,d=>pk l n κ d
def d64:List Nat:=[0,1,2,3,4,5,6,7,8,9,10,11,12,13,14,15,16,17,18,19,20,21,22,23,24,25,26,27,28,29,30,31,32,33,34,35,36,37,38,39,40,41,42,43,44,45,46,47,48,49,50,51,52,53,54,55,56,57,58,59,60,61,62,63]
def d55:List Nat:=d64.take 55
def tN(l:List Nat)(κ:Nat->List Nat->α):α:=match l with
 |a::r=>pk d55 a (λa=>κ a r) λa=>match r with
  |b::r=>match a,r with
   |1,c::r=>κ (b+64*c) r
   |_,r=>pk [900000,0,56,1000,2000,100000,100136,100200,800000] a (λe=>pk d64 b (λb=>κ (e+b) r) λ_=>κ 0 r) λ_=>κ 0 r
  |_=>κ 0 []
 |_=>κ 0 []
def tL:Nat->List Nat->(List Nat->List Nat->α)->α
 |0,l,κ=>κ [] l
 |k+1,l,κ=>tN l λa r=>tL k r λx r=>κ (a::x) r
def tC(l:List Nat)(κ:List Nat->List Nat->α):α:=tN l λk r=>tL k r κ
def g3:List Nat->List (Nat×Nm×Nat)
 |a::b::c::r=>(a,.loc b,c)::g3 r
 |_=>[]
def g2(t:List (Nat->Sp)):List Nat->List Sp
 |a::b::r=>t.getD a (λk=>.sl k .bo) b::g2 t r
 |_=>[]
def aN(t:List (Nat->Sp))(n:Nat)(l:List Nat):An:=aD n (l.map λn=>tC (dg 400 n) λks r=>tC r λg r=>tC r λl r=>tC r λo r=>tC r λp r=>tC r λq _=>⟨ks,g.map .gh++(l.map .loc++o.map .out),g3 p,g2 t q⟩)
abbrev uI:U:=.i .i64
variable {sh:List (TypeId×List Sh)}
noncomputable def eZ:Ev sh:=⟨[],En.ok0⟩
noncomputable def ad(c:Cb f)(E:Ev sh)(hf:Nat.blt f 1000000=true:=by rfl):Ev sh:=⟨(f,c.C)::E.cs,En.okc c.ok E.ok hf⟩
noncomputable def bA(c:Cb f):Cb f:=⟨apT c.C,Pj c.ok⟩
noncomputable def bS(t:Nat)(c d:Cb f):Cb f:=⟨adT t c.C d.C,Vi c.ok d.ok⟩
noncomputable def bI(E:Ev sh)(f:Nat)(fn:Func)(an:An)(hf:prog.funcs[f]? = some fn:=by kernel_rfl)(hb:(okF 0 fn&&Nat.ble fn.ntmps 100000)=true:=by kernel_rfl):Cb f:=
 have h:=eX ((akP _ _).mp hb).1
 ⟨M9 E.en fn an,Gz E.ok mixed hf h.1 h.2.1 h.2.2.2 ((akP _ _).mp hb).2⟩
noncomputable def b0(E:Ev sh)(fn:Func)(an:An)(ps rs:List U){F:Fl ps->Fl rs}{G:Fl ps->(Fl rs->Prop)->Prop}(b:∀x,∀KK:Fl rs->Prop,KK (F x)->G x KK)(hw:∀x KK a,G x KK=zA E.en fn an ps rs x KK a:=by intros;kernel_rfl)(hf:prog.funcs[f]? = some fn:=by kernel_rfl)(hb:okF ps.length fn=true:=by kernel_rfl):Cb f:=⟨tc ps rs F,yJ E.ok mixed hf (eX hb).1 (eX hb).2.1 (λ_ _ _ _ h h'=>h _ h') (eX hb).2.2.1 (eX hb).2.2.2 λx KK a h=>hw x KK a ▸ b x KK h⟩
noncomputable def b8(E:Ev sh)(fn:Func)(an:An)(ps rs:List U){pre:Fl ps->Prop}{post:Fl ps->Fl rs->Prop}{G:Fl ps->(Fl rs->Prop)->Prop}(a:∀x,pre x->∀KK:Fl rs->Prop,(∀y,post x y->KK y)->G x KK)(hw:∀x KK b,G x KK=zA E.en fn an ps rs x KK b:=by intros;kernel_rfl)(hf:prog.funcs[f]? = some fn:=by kernel_rfl)(hb:okF ps.length fn=true:=by kernel_rfl):Cb f:=⟨afM ps rs pre post,yJ E.ok mixed hf (eX hb).1 (eX hb).2.1 (λ_ _ _ _ h h'=>⟨h'.1,λy hy=>h y (h'.2 y hy)⟩) (eX hb).2.2.1 (eX hb).2.2.2 λx KK b h=>hw x KK b ▸ a x h.1 KK h.2⟩
noncomputable def b1(E:Ev sh)(fn:Func)(an:An)(ps rs:List U){pre:Fl ps->Prop}{F:Fl ps->Fl rs}{G:Fl ps->(Fl rs->Prop)->Prop}(b:∀x,pre x->∀KK:Fl rs->Prop,KK (F x)->G x KK)(hw:∀x KK a,G x KK=zA E.en fn an ps rs x KK a:=by intros;kernel_rfl)(hf:prog.funcs[f]? = some fn:=by kernel_rfl)(hb:okF ps.length fn=true:=by kernel_rfl):Cb f:=⟨lk ps rs pre F,yJ E.ok mixed hf (eX hb).1 (eX hb).2.1 (λ_ _ _ _ h h'=>⟨h'.1,h _ h'.2⟩) (eX hb).2.2.1 (eX hb).2.2.2 λx KK a h=>hw x KK a ▸ b x h.1 KK h.2⟩
noncomputable def b6(E:Ev sh)(fn:Func)(an:An)(ps rs:List U){pre:Fl ps->Prop}{F:Fl ps->Fl rs}{G:Fl ps->(Fl rs->Prop)->Prop}(a:∀x,pre x->∀KK:Fl rs->Prop,KK (F x)->G x KK)(hw:∀x KK,G x KK=uh E.en fn an ps rs x KK:=by intros;kernel_rfl)(hf:prog.funcs[f]? = some fn:=by kernel_rfl)(hb:okF ps.length fn=true:=by kernel_rfl):Cb f:=⟨Ya ps rs pre F,Rl E.ok mixed hf (eX hb).1 (eX hb).2.1 (eX hb).2.2.1 (eX hb).2.2.2 λx hp KK h=>hw x KK ▸ a x hp KK h⟩
def tA:List (Nat->Sp):=[(.sl · .bo),(.sl · uI),λk=>.mp (.gh k) .s .bo,(.ow · [.fr,.fr] (.st .Var)),(.ow · [.fr] .bo),(.ow · [.fr] uI),λk=>.rt (.loc k) [.fr,.fr,.fr,.fr,.fr,.fr,.fr,.fr,.fr] (.st .Block),λk=>.mp (.gh k) .s uI,λk=>.mo (.gh k) .s .s,λk=>.rt (.loc k) [.fr,.fr] (.st .Var),λk=>.rt (.loc k) [.fr,.fr,.fr,.fr,.fr,.fr,.fr,.fr,.fr,.fr,.fr,.fr,.ow []] (.st .asked),λk=>.rt (.loc k) [.fr,.fr,.fr,.fr,.fr,.fr,.fr,.fr,.fr,.fr,.fr,.fr,.ow [.fr]] (.st .asked),(.ow · [.ow [.fr]] (.sl uI)),λk=>.gw (.gh k) [.fr] uI,(.ow · [.fr,.fr] (.st .step)),λk=>.it (.gh k) .s .bo,(.ow · [.fr] (.mp .s .bo)),(.sl · (.mp .s .bo)),λk=>.mp (.gh k) .s (.mp .s .bo)]
abbrev eF:List (TypeId×List Sh):=[(4000107,[])]
abbrev eH:List (TypeId×List Sh):=[(5000003,[])]
abbrev eO:List (TypeId×List Sh):=[(7000000,[])]
abbrev eR:List (TypeId×List Sh):=[(3000035,[])]
abbrev eV:List (TypeId×List Sh):=[(8000033,[])]
abbrev eW:List (TypeId×List Sh):=[(3000053,[])]
noncomputable def Sy:Cb 206:=⟨_,MH⟩
noncomputable def WE:Cb 89:=b0 (eZ:Ev []) f89 (aN tA 0x101 [0x80080000000]) [.b8] [.bo] No
noncomputable def agQ:Cb 90:=b0 (eZ:Ev []) f90 (aN tA 0x101 [0x80080000000]) [.s] [.bo] XS
noncomputable def I3:Cb 91:=b0 (eZ:Ev []) f91 (aN tA 0x41 []) [.b8] [.bo] Ce
noncomputable def mD:Cb 38:=b0 ((ad WE (ad agQ (ad I3 eZ))):Ev []) f38 (aN tA 0x80014202c8088358240050841 [0x14002000000001,0x5c1080000016002,0x250020000005d6003]) [.s] [.bo] XP
noncomputable def WD:Cb 88:=b0 ((ad mD eZ):Ev []) f88 (aN tA 0x101 [0x80080000000]) [.s] [.bo] XT
noncomputable def Qj:Cb 37:=b0 ((ad mD (ad WD eZ)):Ev []) f37 (aN tA 0x80014202c8088358240050241 [0x34108000000c2c2,0x1a00200000034c2c3]) [.sl (.st .Var),uI] [.bo] (λx=>T2 x.1 x.2)
noncomputable def aaR:Cb 245:=b0 (eZ:Ev []) f245 (aN tA 0x40050841 [0xa002000000001]) [uI] [uI] Tu
noncomputable def I4:Cb 230:=b0 ((ad mD (ad aaR eZ)):Ev []) f230 (aN tA 0x802204028102204028100a058241 [0x80080000000,0x80080000000]) [.st .Arg] [.bo] Cf
noncomputable def oh:Cb 193:=b0 ((ad I4 eZ):Ev []) f193 (aN tA 0x80014202c8088358241 [0x9042000000207043,0x600080000009207044]) [.sl (.st .Arg),.bo] [.bo] (λx=>Fm x.1 x.2)
noncomputable def SK:Cb 146:=b0 ((ad mD (ad oh eZ)):Ev []) f146 (aN tA 0x4005020440811020440b0482080014082c8088358241 [0x281080001040248043,0x80080000000,0x80080000000,0x80080000000]) [.st .Term] [.bo] Kk
noncomputable def aiU:Cb 147:=b0 ((ad mD (ad oh eZ)):Ev []) f147 (aN tA 0x80014202c8088358240050841 [0x500080001040041,0x601080000017582,0x26002000000617583]) [.st .Phi] [.bo] acM
noncomputable def aiT:Cb 192:=b0 (eZ:Ev []) f192 (aN tA 0x20000a04120204b80204d609041 [0x6045041046000000001,0x141041100000006002]) [.s,uI] [.s] (λx=>acL x.1 x.2)
noncomputable def aiS:Cb 140:=b0 ((ad aiT eZ):Ev []) f140 (aN tA 0x4005020140805020140805020140805020140805020140b04800a100284641 [0x4002000081002002,0xe002000081002002]) [uI] [.st .Form,.bo] ahD
noncomputable def aaW:Cb 194:=b0 ((ad mD (ad oh eZ)):Ev []) f194 (aN tA 0x80014202c8088358240050841 [0x780080001040041,0x881080000021802,0x300020000008a1803]) [.st .Frame] [.bo] Ty
noncomputable def aaY:Cb 148:=b0 ((ad mD (ad aiS (ad oh (ad aaW eZ)))):Ev []) f148 (aN tA 0x4000a101640441ac120005020b20220d609001421001421001421041 [0xd00080003042003042,0x1ce40080001040041,0x24e40080001040041,0x32e41080001040c79c39043,0x3de4108000003ce7be42,0x88e0008000003de7ce7be43]) [.st .Instr] [.bo] Tz
noncomputable def aaU:Cb 92:=b0 ((ad mD (ad SK (ad aiU (ad aaY eZ)))):Ev []) f92 (aN tA 0x100028105901106b0480014082c8088358240050841 [0x400080001040041,0x5010800010404d2043,0x7c108000001e742]) [.st .Block] [.bo] Tw
noncomputable def zM:Cb 39:=b0 ((ad Qj (ad mD (ad WD (ad aaU eZ)))):Ev []) f39 (aN tA 0x800142020028420b20220d609040050841 [0x9c0080001040041,0xac10c110000002aa42,0xe40080005040aeaa450c5,0x10e4008000002baa90c4]) [.st .Func] [.bo] wt
noncomputable def I0:Cb 13:=b0 ((ad Qj (ad mD (ad zM eZ))):Ev []) f13 (aN tA 0x20005020b20220d60900028405901106b0480014202c8088358240050841 [0x780080001040041,0x881080001040860043,0x2f002000041022860044,0xd01080001040cf2043,0x379002000041034cf2044,0x12e41080000011e50e42]) [.st .Program] [.bo] B9
noncomputable def uo:Cb 95:=b0 ((ad (bA (bI ((ad (bA (bI (eZ:Ev []) 41 f41 (aN tA 0x41 []))) eZ):Ev []) 149 f149 (aN tA 0x2080014082c8088358241 [0x34108000613a0ba0c023c1fc1bc17c13c0bc07c03c30b18204d]))) eZ):Ev []) f95 (aN tA 0x41 []) [.st .Program,.s] [.st .Class,.bo] (λx=>NP x.1 x.2)
noncomputable def I2:Cb 47:=b0 ((ad uo eZ):Ev []) f47 (aN tA 0x4041 [0x100080000000]) [.st .Program,.s] [.bo] (λx=>NT x.1 x.2)
noncomputable def I1:Cb 46:=b0 ((ad I2 (ad (bA (bI ((ad (bS 17 (bA (bI (eZ:Ev []) 94 f94 (aN tA 0x41 []))) (bA (bI (eZ:Ev []) 94 f94 (aN tA 0x41 [])))) eZ):Ev []) 93 f93 (aN tA 0x800028120b20220d609041 [0x2022c1100002e81013f0af09f08f07f02f01f0a24504b]))) eZ)):Ev []) f46 (aN tA 0x80014082c8088358241 [0x90420000810081c2044]) [.st .Program,.sl (.st .Var)] [.bo] (λx=>Ca x.1 x.2)
noncomputable def W0:Cb 14:=b1 ((ad (bA (bI ((ad (bS 17 (bA (bI (eZ:Ev []) 41 f41 (aN tA 0x41 []))) (bA (bI (eZ:Ev []) 41 f41 (aN tA 0x41 [])))) eZ):Ev []) 40 f40 (aN tA 0x800028120b20220d609041 [0x2022c1100001e81009f08f02f01f00f0a245049]))) (ad (bA (bI ((ad (bS 17 (bA (bI (eZ:Ev []) 43 f43 (aN tA 0x41 []))) (bA (bI (eZ:Ev []) 43 f43 (aN tA 0x41 [])))) eZ):Ev []) 42 f42 (aN tA 0x800028120b20220d609041 [0x2022c1100001ec100ef0df0cf0bf0af09f08f02f01f00f0a24504e]))) (ad (bA (bI ((ad (bS 17 (bA (bI (eZ:Ev []) 45 f45 (aN tA 0x41 []))) (bA (bI (eZ:Ev []) 45 f45 (aN tA 0x41 [])))) eZ):Ev []) 44 f44 (aN tA 0x800028120b20220d609041 [0x2022c1100001e81014f13f12f11f10f0ff0ef0df0cf0bf0af09f08f02f01f00f0a245054]))) (ad I1 (ad I2 eZ))))):Ev []) f14 (aN tA 0x4000a10405901106b0480014082c8088358240050841 [0x780080001040041,0x881080001040860043,0xbc1080001040bad043,0x70c2000181080beeb46045,0x33900200004102fbad044]) [.st .Program] [.bo] NR
noncomputable def SJ:Cb 15:=b1 ((ad (bA (bI (eZ:Ev []) 48 f48 (aN tA 0x20000a04120b20220d609041 [0xc1d004400007a04033c2bc27c23c1fc0bc07c03c3ce10b]))) (ad (bA (bI (eZ:Ev []) 49 f49 (aN tA 0x400002840482c80883582082c8088358241 [0xf04200007b04ce8153c4fc4bc47c43c3fc3bc37c33c2fc2bc27c23c1fc13c0fc0bc07c03c38d056,0x1309804400007b04ce8153c4fc4bc47c43c3fc3bc37c33c2fc2bc27c23c1fc13c0fc0bc07c03c5d63ce34705a,0xb00080001ec14cce8253c4fc4bc47c43c3fc3bc37c33c2fc2bc27c23c1fc13c0fc0bc07c03c61758f38d24705c]))) (ad (bA (bI (eZ:Ev eR) 50 f50 (aN tA 0x4000a04105c01106b041118081359041041 [0x614510400007b08233a059f18f17f16f15f14f13f12f11f10f0ff0ef0df0cf0bf0af09f08f07f04f03f02f01f00f0205a,0x1c60801c70c007b0821b717733a0d9f18f17f16f15f14f13f12f11f10f0ff0ef0df0cf0bf0af09f08f07f04f03f02f01f00f0614205c,0x2804614510600007b08233a059f18f17f16f15f14f13f12f11f10f0ff0ef0df0cf0bf0af09f08f07f04f03f02f01f00f2798205c,0x185144100001ec208ce8167c63c5fc5bc57c53c4fc4bc47c43c3fc3bc37c33c2fc2bc27c23c1fc13c0fc0bc07c03ca2798205d]))) eZ))):Ev []) f15 (aN tA 0x20005020b20220d609001409040050241 [0x70108000017705b682]) [.st .Func] [.bo] Kj
noncomputable def abC:Cb 52:=b1 (eZ:Ev []) f52 (aN tA 0x4000140905901106b04800b20220d609040050241 [0x10093044000081012445084,0x1009d04400000071b143]) [.st .Phi,.sl .s] [.bo] (λx=>TX x.1 x.2)
noncomputable def WX:Cb 16:=b1 ((ad (bA (bI (eZ:Ev eF) 51 f51 (aN tA 0x10002c808835820b20220d609041 [0x820c04400007a04023c0bc07c03c2ca0c7,0x20850110000507a08023c0bc07c03c4d230b2850cb]))) (ad abC eZ)):Ev eH) f16 (aN tA 0x400014082c808835820028420b20220d609041 [0xd042000008e8130b0c3,0x640080005048e8134c2c50c5,0x741080005048e8171b34c2c50c7]) [.st .Func] [.bo] NO
noncomputable def xm:Cb 100:=b0 ((ad (bS 10 (bA (bI ((ad (bA (bI (eZ:Ev []) 94 f94 (aN tA 0x41 []))) eZ):Ev []) 159 f159 (aN tA 0x2080014082c8088358241 [0x34108000613a0ba0c02fc2bc27c17c13c0bc07c03c30b18204d]))) (bA (bI ((ad (bA (bI (eZ:Ev []) 94 f94 (aN tA 0x41 []))) eZ):Ev []) 159 f159 (aN tA 0x2080014082c8088358241 [0x3410800061ba13a0ba1004fc4bc47c3fc1fc1bc13c0bc07c30b18204e])))) eZ):Ev []) f100 (aN tA 0x1001408841 [0x1891c01001860c0102080102043]) [.st .Func,.s] [.st .Var,.bo] (λx=>Cc x.1 x.2)
noncomputable def Qi:Cb 56:=b0 ((ad xm eZ):Ev []) f56 (aN tA 0x800a04028100a04020a058241 []) [.st .Func,.st .Arg] [.s,.bo] (λx=>acP x.1 x.2)
noncomputable def agU:Cb 96:=b1 ((ad Qi (ad xm (ad aiS eZ))):Ev eO) f96 (aN tA 0x80002812082c8088358240001409050301001421041 [0xa000800081851031402061440c5,0xa28200018510300a185104,0x28b1f90440001840801b9179286105]) [.st .Program,.st .Func,.st .Instr] [.st .asked,.bo] (λx=>X2 x.1 x.2.1 x.2.2)
noncomputable def MQ:Cb 101:=b0 (eZ:Ev []) f101 (aN tA 0x41 []) [.s] [.bo] X5
noncomputable def qX:Cb 57:=b0 ((ad MQ eZ):Ev []) f57 (aN tA 0x101 [0x100080000000]) [.s,.s] [.bo] (λx=>TY x.1 x.2)
noncomputable def abG:Cb 150:=b0 (eZ:Ev []) f150 (aN tA 0x80014082c8088358241 [0x3010800030402ca0c2045]) [.st .asked,.s,.s] [.bo] (λx=>T1 x.1 x.2.1 x.2.2)
noncomputable def WZ:Cb 156:=b0 ((ad qX eZ):Ev []) f156 (aN tA 0x80014082c8088358240050241 [0xe04200000034c043]) [.sl .s,.sl (.st .Var)] [.bo] (λx=>X4 x.1 x.2)
noncomputable def W2:Cb 151:=b0 ((ad uo (ad WZ eZ)):Ev []) f151 (aN tA 0x4041 [0x80080000000]) [.st .asked] [.bo] NU
noncomputable def WY:Cb 195:=b0 ((ad uo (ad (bA (bI ((ad (bA (bI (eZ:Ev []) 94 f94 (aN tA 0x41 []))) eZ):Ev []) 159 f159 (aN tA 0x2080014082c8088358241 [0x34108000623a1ba0fa10057c53c4fc47c43c3fc3bc37c33c2fc2bc27c23c1fc1bc0fc0bc07c03c30b182058]))) eZ)):Ev []) f195 (aN tA 0x1001409041 []) [.st .Program,.s,.s] [.st .Var,.bo] (λx=>NQ x.1 x.2.1 x.2.2)
noncomputable def SO:Cb 152:=b1 ((ad WY eZ):Ev []) f152 (aN tA 0x40050241 []) [.st .asked] [.st .Var,.bo] Ko
noncomputable def abF:Cb 153:=b0 ((ad MQ eZ):Ev []) f153 (aN tA 0x101 [0x100080000000]) [.s,.s] [.bo] (λx=>T0 x.1 x.2)
noncomputable def SN:Cb 196:=b0 ((ad (bA (bI ((ad (bA (bI (eZ:Ev []) 94 f94 (aN tA 0x41 []))) eZ):Ev []) 159 f159 (aN tA 0x2080014082c8088358241 [0x34108000613a0ba0c023c1fc1bc17c13c0bc07c03c30b18204d]))) eZ):Ev []) f196 (aN tA 0x41 []) [.st .Program,.s] [.st .Var,.bo] (λx=>Kn x.1 x.2)
noncomputable def MR:Cb 154:=b1 ((ad qX (ad SN eZ)):Ev []) f154 (aN tA 0x1001409041 []) [.st .asked] [.bo] Fo
noncomputable def abE:Cb 155:=b0 ((ad (bA (bI ((ad (bA (bI (eZ:Ev []) 45 f45 (aN tA 0x41 []))) eZ):Ev []) 197 f197 (aN tA 0x2080014082c8088358241 [0x34108000613a0ba0c023c1fc1bc17c13c0bc07c03c30b18204d]))) eZ):Ev []) f155 (aN tA 0x41 []) [.st .Program,.s] [.st .Func,.bo] (λx=>TZ x.1 x.2)
noncomputable def SM:Cb 157:=b0 ((ad (bA (bI ((ad (bA (bI (eZ:Ev []) 43 f43 (aN tA 0x41 []))) eZ):Ev []) 198 f198 (aN tA 0x2080014082c8088358241 [0x34108000613a0ba0c023c1fc1bc17c13c0bc07c03c30b18204d]))) eZ):Ev []) f157 (aN tA 0x41 []) [.st .Program,.s] [.st .Extern,.bo] (λx=>Km x.1 x.2)
noncomputable def SP:Cb 97:=b1 ((ad qX (ad MQ (ad abG (ad W2 (ad SO (ad abF (ad MR (ad abE (ad WZ (ad SM eZ)))))))))):Ev []) f97 (aN tA 0x100140810140810140805008180140804140804140805020140805020140b04800a04028100a058241 [0xbb9002000041020042,0x80080000000,0x80080000000]) [.st .asked] [.bo] Kp
noncomputable def W1:Cb 53:=b1 ((ad agU (ad SP eZ)):Ev []) f53 (aN tA 0x1041 []) [.st .Program,.st .Func,.st .Instr] [.bo] (λx=>NS x.1 x.2.1 x.2.2)
noncomputable def SR:Cb 199:=b0 (eZ:Ev []) f199 (aN tA 0x40050841 [0x5400800040c20c0103083]) [.st .Instr,.st .Arg] [.st .Virt,.bo] (λx=>Kr x.1 x.2)
noncomputable def aeY:Cb 158:=b0 ((ad Qi (ad SR eZ)):Ev []) f158 (aN tA 0x1001408241 []) [.st .Func,.st .Instr,.st .Arg] [.s,.bo] (λx=>acQ x.1 x.2.1 x.2.2)
noncomputable def W3:Cb 98:=b0 ((ad aeY eZ):Ev []) f98 (aN tA 0x20000a10120b20220d609041 [0xc0900440001030803ce1c40c5,0x230020002440c330140f3891c40c7]) [.st .Func,.st .Instr,.st .Frame] [.bo] (λx=>NV x.1 x.2.1 x.2.2)
noncomputable def abJ:Cb 99:=b0 ((ad qX (ad uo (ad aeY eZ))):Ev []) f99 (aN tA 0x800142020b20220d609001421041 [0x8000800091c61440091c6144,0x9010800091850c08e2246145,0x1390020002461430248e2246146]) [.st .Program,.st .Func,.st .Instr,.st .Virt] [.bo] (λx=>T5 x.1 x.2.1 x.2.2.1 x.2.2.2)
noncomputable def W4:Cb 54:=b0 ((ad W3 (ad abJ eZ)):Ev []) f54 (aN tA 0x100028105901106b0480014082c8088358241 [0x3810800051030c034c1440c5,0x6c10800051030c06991440c5]) [.st .Program,.st .Func,.st .Instr] [.bo] (λx=>NW x.1 x.2.1 x.2.2)
noncomputable def agV:Cb 55:=b0 ((ad Qi (ad qX eZ)):Ev []) f55 (aN tA 0x800a04028100a040281609041 []) [.st .Func,.st .Term] [.bo] (λx=>X3 x.1 x.2)
noncomputable def SQ:Cb 17:=b1 ((ad W1 (ad W4 (ad agV eZ))):Ev []) f17 (aN tA 0x100028100028405901106b0482c8088358241 [0x30108000308200b283084,0x1304200018308301244c2ca183088,0xb000800060c20c04d244c2ca183089]) [.st .Program,.st .Func] [.bo] (λx=>Kq x.1 x.2)
noncomputable def abI:Cb 18:=b0 ((ad Qi (ad qX eZ)):Ev []) f18 (aN tA 0x20000142020b20220d60800a04820b20220d6082c8088358241 [0x4810800030404500c3,0x190420000c10185d24500c6,0x2a0420000c1029a196174914090ca,0x4e40080003040aa9a196174914090cb]) [.st .Program,.st .Func] [.bo] (λx=>T4 x.1 x.2)
noncomputable def abH:Cb 19:=b1 (eZ:Ev []) f19 (aN tA 0x20005020b20220d60900028105901106b048002041700441ac1001640441ac120b20220d609041 [0x101d40440000c10134850c4,0x4076c11000070c201a6544d21c50c8,0x407a011000030409e65134850c7,0x101c20000c10289e65134850c8,0x790420000c1401039037e050c4,0xee41080000401379339143]) [.st .Program,.st .Func] [.bo] (λx=>T3 x.1 x.2)
noncomputable def IT:Cb 104:=b1 ((ad ⟨_,zH⟩ eZ):Ev []) f104 (aN tA 0x801020b80220d609041 [0x3f08d04400000030b143,0xfc208000000d30b144]) [.mp .s .bo,.st .Block] [.mp .s .bo] (λx=>Ng x.1 x.2)
noncomputable def SL:Cb 200:=b0 (eZ:Ev []) f200 (aN tA 0x80014082c8088358241 [0xb042000000289043]) [.st .Func,.s] [uI,.bo] (λx=>Kl x.1 x.2)
noncomputable def agO:Cb 160:=b1 ((ad SL eZ):Ev eP) f160 (aN tA 0x400102082e008835820b20220d609041 [0x4410cc10000104040f043,0x6810cc1000010406584503c4047,0x330200004101a6584503c4048]) [.st .Func] [.sl (.sl uI)] XR
noncomputable def aaZ:Cb 231:=b0 (eZ:Ev []) f231 (aN tA 0x80014082c8088358241 [0x80420000001c1003]) [.sl uI,uI] [uI] (λx=>TA x.1 x.2)
noncomputable def WB:Cb 201:=b6 ((ad aaZ eZ):Ev []) f201 (aN tA 0x41 []) [.sl uI,uI] [.bo] (λx(_:True)=>Nk x.1 x.2)
noncomputable def Sw:Cb 161:=b1 ((ad WB eZ):Ev eP) f161 (aN tA 0x10004202e008835820b20220d609041 [0xd04330400000030b003,0x140433040000004d234c2c4007,0xcc0800000144d234c2c4008,0xa000800000f70544d234c2c710300a]) [.sl (.sl uI)] [.sl (.sl uI)] JY
noncomputable def Sv:Cb 162:=b8 ((ad (bA (bI (eZ:Ev eW) 202 f202 (aN tA 0x20028404100105024160204d641040050241041 [0x63851441060000001bc0bc03c004,0x839002000006dc5dc4dc31bc0bc03c206144008]))) (ad (bA (bI (eZ:Ev eO) 203 f203 (aN tA 0x640409ac1 [0x1373430420460000002bc13c003]))) eZ)):Ev eO) f162 (aN tA 0x41101 [0x105080000000]) [.sl (.sl uI)] [.sl uI] JX
noncomputable def MG:Cb 163:=b0 (eZ:Ev []) f163 (aN tA 0x800b20220d609041 [0x608a0440000002480c3]) [.st .Func] [.mp .s .bo] Fb
noncomputable def Wx:Cb 164:=b8 (eZ:Ev []) f164 (aN tA 0x20204160220d609040050241 [0xc3ca084000000305043]) [.mp .s .bo,.mp .s .bo] [.mp .s .bo] (λx=>Ni x.1 x.2)
noncomputable def Ww:Cb 165:=b1 ((ad ⟨_,zH⟩ eZ):Ev []) f165 (aN tA 0x800b20220d609041 [0x3f08d04400000030b143]) [.mp .s .bo,.st .Block] [.mp .s .bo] (λx=>Nh x.1 x.2)
noncomputable def aaS:Cb 102:=b8 ((ad IT (ad agO (ad Sw (ad Sv (ad MG (ad Wx (ad Ww eZ))))))):Ev []) f102 (aN tA 0x800212020206001020b80220d60901030105901106b04160204d609041041041 [0x2001d0190180001040144043,0x7c12001d019020000104079d144045,0xb4420000411f71b709f79d2881c614404a,0x2c04b4440000411f71b70aba9f79d2881c614404c,0x2d1080001047dc6dc2b2ba9f79d2881c614404d,0xb4420000411f71b709f79d2881c614404a,0x80020000411f71b709f79d2ca1c614404a,0x1ce40080001047dc6dc27de74b2881c614404b]) [.st .Func] [.sl (.mp .s .bo)] Tv
noncomputable def WF:Cb 168:=b8 ((ad (bA (bI ((ad (bS 21 (bA (bI (eZ:Ev []) 232 f232 (aN tA 0x2041 []))) (bS 39 (bA (bI (eZ:Ev []) 232 f232 (aN tA 0x2041 []))) (bA (bI (eZ:Ev []) 232 f232 (aN tA 0x2041 []))))) eZ):Ev []) 205 f205 (aN tA 0xb80220d6082c808835820005c01106b041640441ac12002e0088358241 [0x13a0910440000c1e82006f05f04f03f02f01f00f103c300b,0x4e8208000307a0801bc17c13c0fc0bc07c03c4503c300c,0x13a09c0440000c1e82006f05f04f03f02f01f00f1b68300b,0x4e828c110000307a0801bc17c13c0fc0bc07c03c8a171b68300e,0x13a0820000c1e82006f05f04f03f02f01f00f238a171b68300f,0x13a0b004400007a0401bc17c13c0fc0bc07c03cbee00a,0x4e82037e01100001e81006f05f04f03f02f01f00f36d70bee00d,0x13a08200007a0401bc17c13c0fc0bc07c03c037e36d70bee00e]))) (ad Sy eZ)):Ev []) f168 (aN tA 0x41041 []) [.st .Instr] [.sl .s] Np
noncomputable def Sq:Cb 103:=b1 ((ad ⟨_,zH⟩ (ad (bA (bI (eZ:Ev []) 167 f167 (aN tA 0x80014082c8088358241 [0x90420001fa0fa080fc14fc4bc47c43c3fc3bc37c33c2fc1fc17c0fc20700f]))) (ad WF (ad (bA (bI (eZ:Ev []) 169 f169 (aN tA 0x41 []))) eZ)))):Ev []) f103 (aN tA 0x2001020028420b80220d609041 [0x3f08d0440000c100c2c50c4,0xfc208000304034c2c50c5,0x5400800070c203f04d30b1c50c6,0x100080000000]) [.mp .s .bo,.st .Block] [.bo] (λx=>JU x.1 x.2)
noncomputable def aa0:Cb 235:=b0 (eZ:Ev []) f235 (aN tA 0x80014082c8088358241 [0x80420000001c1003]) [.sl .s,.s] [uI] (λx=>TE x.1 x.2)
noncomputable def WC:Cb 207:=b0 ((ad aa0 eZ):Ev []) f207 (aN tA 0x41 []) [.sl .s,.s] [.bo] (λx=>Nl x.1 x.2)
noncomputable def Sr:Cb 170:=b0 ((ad WC eZ):Ev []) f170 (aN tA 0x80014082c8088358241 [0x30108000000b282044]) [.st .Func,.s,.s] [.bo] (λx=>JV x.1 x.2.1 x.2.2)
noncomputable def Wy:Cb 105:=b0 ((ad (bA (bI (eZ:Ev []) 169 f169 (aN tA 0x41 []))) (ad Sr eZ)):Ev []) f105 (aN tA 0x80000508082c808835820b20220d6082c8088358241 [0x1004200008100f382044,0x5c10800060820165503ce182048,0x1e04200018208075c5d65503ce18204b,0xe4008000608201e75c5d65503ce18204c]) [.st .Func,.mp .s (.mp .s .bo)] [.bo] (λx=>Nj x.1 x.2)
noncomputable def Ss:Cb 58:=b1 ((ad aaS (ad Sq (ad IT (ad Wy eZ)))):Ev []) f58 (aN tA 0x800028120b80220d609041 [0x648a044000041009203044,0x192080001040289203045]) [.st .Func] [.bo] JW
noncomputable def zN:Cb 7:=b1 ((ad I0 (ad W0 (ad SJ (ad WX (ad SQ (ad abI (ad abH (ad (bA (bI ((ad Ss eZ):Ev []) 20 f20 (aN tA 0x41 []))) eZ)))))))):Ev []) f7 (aN tA 0x100005020b20220dcc100140905901106b04800a040281641 [0x5c1080001040595043]) [.st .Program] [uI] Fq
noncomputable def xl:Cb 11:=b0 (eZ:Ev []) f11 (aN tA 0x801020b80210d609040050241 [0x181141100000001002,0x5c0080000006141004,0x5042000000181003]) [.sl (.st .Var),uI] [uI] (λx=>B7 x.1 x.2)
noncomputable def IU:Cb 145:=b0 (eZ:Ev []) f145 (aN tA 0x20320210d609040050241 [0x181141100000001002,0x5c0080000006141004]) [.sl (.st .Arg),uI] [uI] (λx=>B6 x.1 x.2)
noncomputable def EK:Cb 87:=b1 ((ad IU eZ):Ev []) f87 (aN tA 0x2004082e008435824001020b80210d60808180b20210d60901030040c040050841 [0x14002000081002042,0x5042000081002042,0x5042000081002042,0x6045044000081002042,0x179002000081006142044,0x141080002040182043,0x1c1141100002040182043,0x2ae400800020401c6142045,0x5042000081007182044,0x8045044000081002042,0x2378002000081008142044,0x141080002040202043]) [.st .Instr,uI] [uI] (λx=>AA x.1 x.2)
noncomputable def EJ:Cb 36:=b1 ((ad EK eZ):Ev []) f36 (aN tA 0x101901086b048002041700421ac105901086b0480c808435824040c040050841 [0x1d002000081002042,0x5042000081002042,0x6045044000081002042,0x39002000081006142044,0x7045044000081002042,0x5b9002000081007142044,0x2011411000020401c2043,0x30e40080002040207142045,0x50420000810081c2044,0x9045044000081002042,0x24f8002000081009142044]) [.st .Block,uI] [uI] (λx=>Az x.1 x.2)
noncomputable def So:Cb 12:=b1 ((ad xl (ad EJ eZ)):Ev []) f12 (aN tA 0x80c808435824040c01030040c040050241 [0x5042000081002042,0x5042000081002042,0x5042000081002042,0x6045044000081002042,0x35002000081006142044]) [.st .Func,uI] [uI] (λx=>JT x.1 x.2)
noncomputable def aiR:Cb 6:=b1 ((ad xl (ad So eZ)):Ev []) f6 (aN tA 0x20320210d60901901086b04801020b80210d609040050841 [0x18002000081002042,0x6045044000081002042,0x26002000081006142044,0x141080002040182043,0x7045044000081002042,0x439002000081007142044,0x8045044000081002042,0x9b9002000081008142044]) [.st .Program,uI] [.bo] (λx=>acK x.1 x.2)
end
set_option maxRecDepth 100000
theorem Rn{ps rs:List U}{pre a:Fl ps->Prop}{F F':Fl ps->Fl rs}(b:∀x,a x->pre x/\F' x=F x)(h:Cont P f (lk ps rs pre F)):Cont P f (lk ps rs a F'):=yK (λ_ _ _ _ h h'=>⟨h'.1,h _ h'.2⟩) (λx K c h=>⟨(b x h.1).1,(b x h.1).2 ▸ h.2⟩) h
theorem Xy(b:Lt.Block)(h:b.End.To=[]):Lt.Gd [b]:=by
 have a:∀i,i<[b].length->i=0:=λi hi=>by simpa using hi
 refine⟨Nat.zero_lt_one,λi j hi hj _=>by rw[a i hi,a j hj],λi hi=>?_,λi hi s hs=>?_,λk hk=>?_⟩
 .rw[a i hi];show b.End.To.Nodup
  rw[h];exact List.nodup_nil
 .rw[a i hi]at hs;have hs:s∈b.End.To:=hs
  rw[h]at hs;cases hs
 rw[a k hk];exact .first Nat.zero_lt_one
abbrev Ow:Lt.Program:=⟨false,[],[],[],[]⟩
theorem YP:cu pj:=by unfold cu jy iX Ba nI uZ fP;decide
theorem YQ:cu wH:=by unfold cu jy iX Ba nI uZ fP;decide
theorem YR:cu Ow:=⟨λ_ h=>(by cases h),λ_ h=>(by cases h)⟩
theorem ajW:cT pj=0:=by
 have h5:dF wi=true:=qa (Xy _ rfl)
 have h6:∀k,k<wi.Blocks.length->lL (λv=>¬ Lt.Bare wi v k\/v∈Lt.phB wi k) (Lt.bkB wi k):=λk hk=>by
  obtain rfl:k=0:=by
   have hk:k < 1:=hk
   omega
  refine⟨λj hj v c=>?_,λ_ _=>.inr (ak6.2 rfl)⟩;obtain rfl:j=0:=by
   have hj:j < 1:=hj
   omega
  rcases c with⟨a,ha,hk,_⟩|⟨a,ha,_⟩|⟨a,ha,_⟩
  .obtain rfl:=ak6.1 ha;exact absurd hk (by decide)
  .cases ha
  cases ha
 have h8:pz wi:=λb hb x hx=>by obtain rfl:=ak6.1 hb;cases hx
 have h7:gr wi=true:=qa ⟨h6,h8⟩
 unfold cT;rw[show bt pj=true from by kernel_rfl,show iv pj=true from by kernel_rfl];simp only[Bool.true_eq_false,or_self,if_false];show Lt.vF pj [wi]=0
 unfold Lt.vF;rw[h5,h7,show iA wi=true from by kernel_rfl,show o6 pj wi=true from by kernel_rfl,show BM pj wi=true from by kernel_rfl,show sr pj wi=true from by kernel_rfl];rfl
theorem ajX:cT wH=4:=by
 have h5:dF Xp=true:=qa (Xy _ rfl)
 unfold cT;rw[show bt wH=true from by kernel_rfl,show iv wH=true from by kernel_rfl];simp only[Bool.true_eq_false,or_self,if_false];show Lt.vF wH [Xp]=4
 unfold Lt.vF;rw[h5,show iA Xp=true from by kernel_rfl,show sr wH Xp=false from by kernel_rfl,if_neg (by simp),if_pos (.inr (.inr (.inl rfl)))]
theorem ajY:cT Ow=3:=by unfold cT;rw[if_pos (.inr rfl)]
abbrev LP:List (Fl [.s]×Fl [.st .Program,.i .i64,.i .i64]):=[(ajI,(pj,0,0)),(ajJ,(wH,0,0))]
theorem Sz:Cont prog 10 (lk [.s] [.st .Program,.i .i64,.i .i64] (λx=>∃y,(x,y)∈LP) (uS LP (pj,0,0))):=
 Gx (n:=128) eU eS lParse 4 f10 (ps:=[.s]) (rs:=[.st .Program,.i .i64,.i .i64]) LP func10 kQ0 kQ0 kQ0 kQ0 kQ0 kQ0 kQ0 kQ0 kQ0 kQ0 kQ0 kQ0 (pj,0,0) (λx hx=>by
  rcases akX.1 hx with rfl|hx
  .exact ta0
  obtain rfl:=ak6.1 hx;exact ta1)
theorem ZF{x:Fl [.s]}(h:decide (x∈LP.map (·.1))=true):∃y,(x,y)∈LP:=by obtain⟨z,a,rfl⟩:=ak8.1 (of_decide_eq_true h);exact⟨z.2,a⟩
noncomputable def x10:Cl 10:=⟨fnB [.s] [.st .Program,.i .i64,.i .i64] (λx=>decide (x∈LP.map (·.1))) (uS LP (pj,0,0)),_,Aa (pre:=λx=>∃y,(x,y)∈LP) (λx h=>ZF h),Sz⟩
abbrev ZG:List (Fl [.st .Program]×Fl [.i .i64]):=[(pj,(0:Int)),(wH,(4:Int)),(Ow,(3:Int))]
theorem aiW:Cont prog 7 (lk [.st .Program] [.i .i64] (λx=>cu x) (λx=>cT x)):=zN.ok
theorem abD:Cont prog 7 (lk [.st .Program] [.i .i64] (λx=>x=pj\/x=wH\/x=Ow) (uS ZG (0:Int))):=
 Rn (λx hx=>by
  rcases hx with rfl|rfl|rfl
  .exact⟨YP,(show uS ZG (0:Int) pj=0 by kernel_rfl).trans ajW.symm⟩
  .exact⟨YQ,(show uS ZG (0:Int) wH=4 by kernel_rfl).trans ajX.symm⟩
  exact⟨YR,(show uS ZG (0:Int) Ow=3 by kernel_rfl).trans ajY.symm⟩) aiW
noncomputable def xV:Cl 7:=⟨fnB [.st .Program] [.i .i64] (λx=>decide (x=pj\/x=wH\/x=Ow)) (uS ZG (0:Int)),_,Aa (pre:=λx=>x=pj\/x=wH\/x=Ow) (λx h=>of_decide_eq_true h),abD⟩
noncomputable abbrev lAw:ClS:=[⟨_,x10⟩,⟨_,xV⟩]
theorem ajZ:IN 80 (clE eU eP lAw) f5 [] [.bo] () (λz=>decide (z=true))=true:=kQ0
theorem aaT:Cont prog 5 (tc [] [.bo] (λ_=>true)):=Vf eU eP lAw 80 f5 [.bo] true func5 kQ0 ajZ
end Go.Am
end

section
namespace Lt
open Go
def xI(n:Int):Int:=i64.wrap n
def jB(n:Int)(c:UInt8):Int:=IntKind.u64.wrap ((IntKind.u64.wrap ((IntKind.u64.wrap (n*10))+(IntKind.u64.wrap ((c.toNat:Nat):Int)))) - 48)
def D8(s:a8):Int:=if s.getD 0 0=45 then((s.take 30).drop 1).foldl jB 0 else(s.take 30).foldl jB 0
def Ln(s:a8):Int:=xI (if s.getD 0 0=45 then IntKind.u64.wrap (0-D8 s)else D8 s)
def fd(s:a8):Int×Bool:=if iY (Ln s)=s then(Ln s,true)else(0,false)
def Bx(u:Int)(c:UInt8):Int:=IntKind.u64.wrap ((IntKind.u64.wrap (u*16))+(Int.tmod (if 97<=(IntKind.u64.wrap ((c.toNat:Nat):Int))then IntKind.u64.wrap ((IntKind.u64.wrap ((c.toNat:Nat):Int)) - 87)else IntKind.u64.wrap ((IntKind.u64.wrap ((c.toNat:Nat):Int)) - 48)) 16))
def Ll(s:a8):Int:=i64.wrap (((s.drop 2).take 16).foldl Bx 0)
def Bw(s:a8):Int×Bool:=if s.length=18/\pm (Ll s)=s then(Ll s,true)else(0,false)
def rZ(s:a8)(a:Arg):Bool:=jQ a&&decide (bh a=s)
def dE(s:a8):Arg×Bool:=
 if rZ s ⟨1,s,0⟩then(⟨1,s,0⟩,true)
 else if rZ s ⟨2,[],(fd s).1⟩then(⟨2,[],(fd s).1⟩,true)
 else if rZ s ⟨3,[],(Bw s).1⟩then(⟨3,[],(Bw s).1⟩,true)
 else if rZ s ⟨4,[],0⟩then(⟨4,[],0⟩,true)
 else if rZ s ⟨5,[],(fd (s.drop 1)).1⟩then(⟨5,[],(fd (s.drop 1)).1⟩,true)
 else(⟨0,[],0⟩,false)
def fG(l:List a8):Bool:=l.all cj
def D7(w:a8):Bool:=decide (w=[105,110,116])||(decide (w=[102,108,111,97,116])||cj w)
def db(l:List a8):Bool:=decide (l.length=3)&&(cj (l.getD 1 [])&&D7 (l.getD 2 []))
def cD(n most:Int):Int:=if most<=n then 2 else 0
def OP(w:a8):List a8->Int->Int×Bool
 |[],_=>(0,false)
 |x::r,n=>if x=w then(n,true)else OP w r (n+1)
def sOp(w:a8):Int×Bool:=OP w (Go.Am.gw.drop 1) 1
def iE(objs:Bool)(w:a8):Bool:=(dE w).2&&!(decide ((dE w).1.Kind=5)&&!objs)
def cm(l:List a8)(objs:Bool):List Arg×Bool:=if l.all (iE objs)then(l.map λw=>(dE w).1,true)else([],false)
def cq(objs:Bool):List a8->Option (List Bind)
 |[]=>some []
 |[_]=>none
 |a::b::r=>if cj a&&iE objs b then(cq objs r).map (⟨a,(dE b).1⟩::·)else none
def aP(l:List a8)(a:Int)(objs:Bool):List Bind×Bool:=
 if(l.length:Int)<a then([],false)else match cq objs (l.drop a.toNat)with
 |some x=>(x,true)
 |none=>([],false)
abbrev Read.out(r:Read):Bool:=decide (r.Where<=2)||decide (r.Where=9)
abbrev Read.ins(r:Read):Bool:=decide (5<=r.Where)&&decide (r.Where<=8)
def last{α:Type}[Inhabited α](l:List α)(f:α->α):List α:=l.set (l.length - 1) (f (l.getD (l.length - 1) default))
def Read.func(r:Read)(f:Func->Func):Read:={ r with P:={ r.P with Funcs:=last r.P.Funcs f } }
def Read.block(r:Read)(f:Block->Block):Read:=r.func λg=>{ g with Blocks:=last g.Blocks f }
def Read.instr(r:Read)(f:Instr->Instr):Read:=r.block λb=>{ b with Code:=last b.Code f }
def Read.curF(r:Read):Func:=r.P.Funcs.getD (r.P.Funcs.length - 1) default
def Read.curB(r:Read):Block:=r.curF.Blocks.getD (r.curF.Blocks.length - 1) default
def Read.curI(r:Read):Instr:=r.curB.Code.getD (r.curB.Code.length - 1) default
def pZ(f:Func)(w n:Int):Prop:=
 (Name f.Name=true/\kind f.Result=true/\typed f.Params 6=true/\typed f.Vars 1024=true)/\(f.Blocks.length<=256/\0<=n/\n<=1024) /\
 (w<=4->f.Blocks=[]/\n=0) /\
 (5<=w->∃bs b,f.Blocks=bs++[b]/\bs.all block=true/\n=((f.Blocks.map λb=>b.Phis.length+b.Code.length).sum:Nat) /\
  (Name b.Name=true/\b.Phis.all phi=true/\b.Code.all instr=true)/\(w=9->fh b.End=true) /\
  (6<=w->w<=8->∃cs c,b.Code=cs++[c]/\(7<=w->c.Op=31\/c.Op=34)))
def Inv(r:Read):Prop:=
 (0<=r.Where/\r.Where<=9)/\(r.P.Classes.length<=8/\r.P.Externs.length<=8/\r.P.Funcs.length<=8) /\
 (typed r.P.Globals 8=true/\r.P.Classes.all cV=true/\r.P.Externs.all cP=true) /\
 (r.Where=1->r.P.Classes≠[])/\(r.Where<=2->r.P.Funcs.all aJ=true) /\
 (3<=r.Where->∃fs f,r.P.Funcs=fs++[f]/\fs.all aJ=true/\pZ f r.Where r.Long)
def iu(r:Read)(l:List a8):Prop:=Inv r/\l≠[]/\l.length<=room
def K6(r:Read)(l:List a8)(_:Bool):Prop:=iu r l
def jz(l:List a8)(_:Bool):Prop:=l.length<=room
def qq(l:List a8)(a:Int)(_:Bool):Prop:=l.length<=room/\0<=a/\a<=4
abbrev w0(l:List a8):a8:=l.getD 0 default
abbrev w1(l:List a8):a8:=l.getD 1 default
abbrev w2(l:List a8):a8:=l.getD 2 default
abbrev w3(l:List a8):a8:=l.getD 3 default
def i9(r:Read)(l:List a8):Int×Read:=
 if(r.out&&decide (l.length=2)&&cj (w1 l))=false then(3,r)
 else if 8<=r.P.Classes.length then(2,r)else(0,{ r with P:={ r.P with Classes:=r.P.Classes++[⟨w1 l,[]⟩] },Where:=1 })
def ls(r:Read)(l:List a8):Int×Read:=
 if(decide (r.Where=1)&&db l)=false then(3,r)
 else if 8<=(r.P.Classes.getD (r.P.Classes.length - 1) default).Fields.length then(2,r)else(0,{ r with P:={ r.P with Classes:=last r.P.Classes λc=>{ c with Fields:=c.Fields++[⟨w1 l,w2 l⟩] } } })
def iy(r:Read)(l:List a8):Int×Read:=
 if(r.out&&db l)=false then(3,r)
 else(if 8<=r.P.Globals.length then 2 else 0,{ r with P:={ r.P with Globals:=r.P.Globals++[⟨w1 l,w2 l⟩] },Where:=2 })
def gu(r:Read)(l:List a8):Int×Read:=
 if(r.out&&decide (l.length=3)&&cj (w1 l)&&((fd (w2 l)).2&&decide (0<=(fd (w2 l)).1)&&decide ((fd (w2 l)).1<=8)))=false then(3,r)
 else(if 8<=r.P.Externs.length then 2 else 0,{ r with P:={ r.P with Externs:=r.P.Externs++[⟨w1 l,(fd (w2 l)).1⟩] },Where:=2 })
def jY(r:Read)(l:List a8):Int×Read:=
 if(r.out&&db l)=false then(3,r)
 else(if 8<=r.P.Funcs.length then 2 else 0,{ r with P:={ r.P with Funcs:=r.P.Funcs++[⟨w1 l,w2 l,[],[],[]⟩] },Where:=3,Long:=0 })
abbrev sV:a8:=[99,108,97,115,115]
abbrev qb:a8:=[102,105,101,108,100]
abbrev ke:a8:=[103,108,111,98,97,108]
abbrev io:a8:=[101,120,116,101,114,110]
abbrev xx:a8:=[102,117,110,99]
abbrev qc:a8:=[112,97,114,97,109]
abbrev JR:a8:=[118,97,114]
abbrev sU:a8:=[98,108,111,99,107]
abbrev Aw:a8:=[112,104,105]
abbrev kAt:List UInt8:=[97,116]
abbrev rW:a8:=[111,98,106]
abbrev Av:a8:=[106,117,109,112]
abbrev jd:a8:=[98,114,97,110,99,104]
abbrev E9:a8:=[114,101,116]
abbrev Ax:a8:=[116,114,97,112]
abbrev wr:a8:=[115,115,97]
def bC(r:Read)(l:List a8):(Bool×Int)×Read:=
 if w0 l=sV then((true,(i9 r l).1),(i9 r l).2)
 else if w0 l=qb then((true,(ls r l).1),(ls r l).2)
 else if w0 l=ke then((true,(iy r l).1),(iy r l).2)
 else if w0 l=io then((true,(gu r l).1),(gu r l).2)
 else if w0 l=xx then((true,(jY r l).1),(jY r l).2)
 else((false,0),r)
def jS(r:Read)(l:List a8):Int×Read:=
 if(decide (r.Where=3)&&db l)=false then(3,r)
 else(if 6<=r.curF.Params.length then 2 else 0,r.func λf=>{ f with Params:=f.Params++[⟨w1 l,w2 l⟩] })
def mM(r:Read)(l:List a8):Int×Read:=
 if((decide (r.Where=3)||decide (r.Where=4))&&db l)=false then(3,r)
 else(if 1024<=r.curF.Vars.length then 2 else 0,{ r.func (λf=>{ f with Vars:=f.Vars++[⟨w1 l,w2 l⟩] })with Where:=4 })
def fE(r:Read)(l:List a8):Int×Read:=
 if((decide (r.Where=3)||decide (r.Where=4)||decide (r.Where=9))&&decide (l.length=2)&&cj (w1 l))=false then(3,r)
 else(if 256<=r.curF.Blocks.length then 2 else 0,{ r.func (λf=>{ f with Blocks:=f.Blocks++[⟨w1 l,[],[],⟨0,⟨0,[],0⟩,[],0⟩⟩] })with Where:=5 })
def pu(r:Read)(l:List a8):Int×Read:=
 if(decide (r.Where=5)&&(aP l 2 false).2&&!decide ((aP l 2 false).1.length=0)&&cj (w1 l))=false then(3,r)
 else if 256 < (aP l 2 false).1.length\/1024<=r.Long then(2,r)
 else(0,{ r.block (λb=>{ b with Phis:=b.Phis++[⟨w1 l,(aP l 2 false).1.map λx=>⟨x.Name,x.A⟩⟩] })with Long:=r.Long+1 })
def bW(r:Read)(l:List a8):(Bool×Int)×Read:=
 if w0 l=qc then((true,(jS r l).1),(jS r l).2)
 else if w0 l=JR then((true,(mM r l).1),(mM r l).2)
 else if w0 l=sU then((true,(fE r l).1),(fE r l).2)
 else if w0 l=Aw then((true,(pu r l).1),(pu r l).2)
 else((false,0),r)
def sAt(r:Read)(l:List a8):Int×Read:=
 if(decide (r.Where=7)&&(aP l 4 true).2&&cj (w1 l)&&cj (w2 l)&&((fd (w3 l)).2&&decide (0<=(fd (w3 l)).1)&&decide ((fd (w3 l)).1<=1024)))=false then(3,r)
 else if 16 < (aP l 4 true).1.length\/16<=r.curI.Frames.length then(2,r)
 else(0,r.instr λx=>{ x with Frames:=x.Frames++[⟨w1 l,w2 l,(fd (w3 l)).1,(aP l 4 true).1⟩] })
def rY(r:Read)(l:List a8):Int×Read:=
 if(decide (7<=r.Where)&&decide (2<=l.length)&&decide (l.length<=10)&&cj (w1 l)&&(cm (l.drop 2) true).2)=false then(3,r)
 else(if 99<=r.curI.Objs.length then 2 else 0,{ r.instr (λx=>{ x with Objs:=x.Objs++[⟨w1 l,(cm (l.drop 2) true).1⟩] })with Where:=8 })
def jC(l:List a8):Option Term:=
 if w0 l=Av then(if decide (l.length=2)&&cj (w1 l)then some ⟨1,⟨0,[],0⟩,[w1 l],0⟩else none)
 else if w0 l=jd then(if decide (l.length=4)&&(cj (w2 l)&&cj (w3 l))&&iE false (w1 l)then some ⟨2,(dE (w1 l)).1,[w2 l,w3 l],0⟩else none)
 else if w0 l=E9 then(if decide (l.length=2)&&iE false (w1 l)then some ⟨3,(dE (w1 l)).1,[],0⟩else none)
 else if w0 l=Ax then(if decide (l.length=2)&&(fd (w1 l)).2 then some ⟨4,⟨0,[],0⟩,[],(fd (w1 l)).1⟩else none)
 else none
def wS(r:Read)(l:List a8):Int×Read:=match jC l with
 |some t=>(0,{ r.block (λb=>{ b with End:=t })with Where:=9 })
 |none=>(3,{ r with Where:=9 })
def cy(r:Read)(l:List a8):(Bool×Int)×Read:=
 if w0 l=kAt\/w0 l=rW\/w0 l=Av\/w0 l=jd\/w0 l=E9\/w0 l=Ax then
  if r.ins=false then((true,3),r)
  else if w0 l=kAt then((true,(sAt r l).1),(sAt r l).2)
  else if w0 l=rW then((true,(rY r l).1),(rY r l).2)
  else((true,(wS r l).1),(wS r l).2)
 else((false,0),r)
def Lo(op:Int)(l:List a8):Option (a8×List a8):=
 if op=26\/op=27 then(if l.length < 3 then none else some (w2 l,w1 l::l.drop 3))
 else if(rOf op).1.Named then(if l.length < 2 then none else some (w1 l,l.drop 2))
 else some ([],l.drop 1)
def gL(dst:List UInt8)(l:List a8):Option Instr:=
 if((sOp (w0 l)).2&&((rOf (sOp (w0 l)).1).1.Dst==!decide (dst=[])))=false then none
 else match Lo (sOp (w0 l)).1 l with
 |none=>none
 |some (nm,rest)=>
  if((cm rest false).2&&!((rOf (sOp (w0 l)).1).1.Named&&!cj nm)&&decide ((rOf (sOp (w0 l)).1).1.Least<=((cm rest false).1.length:Int))&&decide (((cm rest false).1.length:Int)<=(rOf (sOp (w0 l)).1).1.Most))=true
  then some ⟨(sOp (w0 l)).1,dst,nm,(cm rest false).1,[],[]⟩else none
def sEq(l:List a8):Bool:=decide (2<l.length)&&decide (w1 l=[61])
def fa(r:Read)(l:List a8):Int×Read:=
 if sEq l&&!cj (w0 l)then(3,r)
 else if r.ins=false then(3,r)
 else match gL (if sEq l then w0 l else []) (if sEq l then l.drop 2 else l)with
 |none=>(3,r)
 |some x=>if 1024<=r.Long then(2,r)else(0,{ r.block (λb=>{ b with Code:=b.Code++[x] })with Where:=if x.Op=31\/x.Op=34 then 7 else 6,Long:=r.Long+1 })
def dM(r:Read)(l:List a8)(first:Bool):Int×Read:=
 if sEq l then fa r l
 else if w0 l=wr then(if(first&&decide (l.length=1))=false then(3,r)else(0,{ r with P:={ r.P with SSA:=true } }))
 else if(bC r l).1.1 then((bC r l).1.2,(bC r l).2)
 else if(bW r l).1.1 then((bW r l).1.2,(bW r l).2)
 else if(cy r l).1.1 then((cy r l).1.2,(cy r l).2)
 else fa r l
structure Cut where
 out:List RLine
 l:List a8
 w:a8
 n:Int
 remark:Bool
 bad:Bool
def Cut.word(k:Cut):Cut:={ k with l:=if k.w=[]then k.l else k.l++[k.w],w:=[] }
def Cut.byte(k:Cut)(c:UInt8):Cut:=
 if c=59 then { k.word with remark:=true }
 else if k.remark||c=32||c=9 then k.word
 else { k with bad:=k.bad||(decide (c.toNat < 33)||decide (126<c.toNat)),w:=k.w++[c] }
def Cut.line(k:Cut):Cut:={ out:=if k.word.l=[]then k.out else k.out++[⟨k.n,k.word.l⟩],l:=[],w:=[],n:=k.n+1,remark:=false,bad:=k.bad }
def cJ:a8->Cut->List RLine×Int×Int
 |[],k=>if k.bad then([],k.n,3)else(k.line.out,0,0)
 |c::r,k=>if c=10 then(if k.bad then([],k.n,3)else cJ r k.line)else cJ r (k.byte c)
def eK(s:a8):List RLine×Int×Int:=if 4194304<s.length then([],0,2)else cJ s ⟨[],[],[],1,false,false⟩
def fS:List RLine->Bool->Read->Program×Int×Int
 |[],_,r=>if r.out then(r.P,0,0)else(⟨false,[],[],[],[]⟩,0,3)
 |x::t,first,r=>if(dM r x.Words first).1=0 then fS t false (dM r x.Words first).2 else(⟨false,[],[],[],[]⟩,x.N,(dM r x.Words first).1)
def lx(s:a8):Program×Int×Int:=if(eK s).2.2=0 then fS (eK s).1 true ⟨⟨false,[],[],[],[]⟩,0,0⟩else(⟨false,[],[],[],[]⟩,(eK s).2.1,(eK s).2.2)
def D1(p:Program):Bool:=decide ((lx (gJ p)).2.2=0)&&decide (p=(lx (gJ p)).1)
def ip(f:Func)(i k:Int):Bool:=(toB f.Blocks i.toNat).any λs=>(aK f s).2&&decide ((aK f s).1=k)
def kz(f:Func)(i _:Int):Prop:=0<=i/\i < (f.Blocks.length:Int)
def afK(f:Func):Prop:=f.Blocks.length<=1000000
def uniq(B:List Block):Prop:=∀i j,i<B.length->j<B.length->nmB B i=nmB B j->i=j
def K5(f:Func):Prop:=f.Blocks.length<=1000000/\uniq f.Blocks
def DV(f:Func)(l:List Bool):Prop:=l.length=f.Blocks.length/\∀k,k<f.Blocks.length->(l.getD k false=true ↔ Rc f.Blocks k)
def YJ(l:List a8)(_:a8):Prop:=l.length<=1000000
def QT(l:List a8)(s:a8)(y:List a8):Prop:=y.length<=l.length+1/\∀v,v∈y ↔ v=s\/v∈l
def yw(l:List a8)(_:Arg):Prop:=l.length<=1000000
def rE(l:List a8)(a:Arg)(y:List a8):Prop:=y.length<=l.length+1/\∀v,v∈y ↔ (a.Kind=1/\a.S=v)\/v∈l
def qt(f:Func)(v:a8):Bool:=decide (v∈f.Params.map (·.Name))
def bO(b:Block)(n:Nat):List a8:=((b.Code.take n).map (·.Dst)).filter λd=>!decide (d=[])
def yx(b:Block)(n:Int)(_:a8):Prop:=0<=n/\n<=(b.Code.length:Int)/\b.Code.length<=1000000
def rG(b:Block)(n:Int)(v:a8):Bool:=decide (v∈bO b n.toNat)
def wI(b:Block)(v:a8):Bool:=decide (v∈b.Phis.map (·.Dst))
def FU(f:Func)(_:a8):Prop:=f.Blocks.length<=1000000/\0<f.Blocks.length/\uniq f.Blocks/\∀b∈f.Blocks,b.Code.length<=1000000
def K3(f:Func)(v:a8)(y:List Bool):Prop:=y.length=f.Blocks.length/\∀k,k<f.Blocks.length->(y.getD k false=true ↔ Bare f v k/\v ∉ phB f k)
def qm(f:Func)(b n:Int)(v:a8):Prop:=FU f v/\0<=b/\b < (f.Blocks.length:Int)/\0<=n/\n<=((bkB f b.toNat).Code.length:Int)
noncomputable def gl(f:Func)(b n:Int)(v:a8):Bool:=Nc ((¬ Bare f v b.toNat\/v∈phB f b.toNat)\/v∈bO (bkB f b.toNat) n.toNat)
def QW(f:Func):Prop:=FT f
def fg(l:List Line):a8:=l.flatMap λx=>jw false x.Words++[10]
def number(n:Int):a8:=be n
def XC(u:Int)(x:Int):UInt8:=([48,49,50,51,52,53,54,55,56,57,97,98,99,100,101,102]:List UInt8).getD (IntKind.u64.wrap ((BitVec.ofInt IntKind.u64.bits (Int.fdiv (IntKind.u64.wrap u) (2 ^ (min (IntKind.u64.wrap x).toNat IntKind.u64.bits))) &&& BitVec.ofInt IntKind.u64.bits 15).toNat:Nat)).toNat 0
def ik(n:Int):a8:=[48,102]++(List.range 16).map λ(i:Nat)=>XC (Plain n) (60 - 4*(i:Int))
def aB(a:Arg):a8:=
 if bE a then
  if a.Kind=2 then be a.N else if a.Kind=3 then ik a.N else if a.Kind=4 then [110,117,108,108]else if a.Kind=5 then 35::be a.N else a.S
 else []
def puts(l:List Arg):List a8:=l.map aB
def ln(w:List a8):Line:=⟨0,w⟩
def sw(first:List UInt8)(l:List Var):List Line:=l.map λv=>ln [first,v.Name,v.Type_]
def words(i:Instr):List a8:=
 (if(Of i.Op).1.Dst then [i.Dst,[61]]else [])++[(Of i.Op).1.Word] ++
 (if i.Op=26\/i.Op=27 then(puts i.Args).getD 0 default::i.Name::(puts i.Args).drop 1
  else(if(Of i.Op).1.Named then [i.Name]else [])++puts i.Args)
def kW(f:Frame):List a8:=[[97,116],f.Func,f.Block,number f.At]++f.Vars.flatMap λb=>[b.Name,aB b.A]
def sx(o:Virt):List a8:=[[111,98,106],o.Class]++puts o.Vals
def r9(i:Instr):List Line:=[ln (words i)]++i.Frames.map (λf=>ln (kW f))++i.Objs.map (λo=>ln (sx o))
def FR(x:Phi):List a8:=[[112,104,105],x.Dst]++x.Ins.flatMap λi=>[i.Block,aB i.A]
def j8(t:Term):List a8:=
 if t.Kind=1 then [[106,117,109,112],t.To.getD 0 default]
 else if t.Kind=2 then [[98,114,97,110,99,104],aB t.A,t.To.getD 0 default,t.To.getD 1 default]
 else if t.Kind=3 then [[114,101,116],aB t.A]
 else [[116,114,97,112],be t.N]
def mA(b:Block):List Line:=[ln [[98,108,111,99,107],b.Name]]++b.Phis.map (λx=>ln (FR x))++b.Code.flatMap r9++[ln (j8 b.End)]
def p6(f:Func):List Line:=[ln [[102,117,110,99],f.Name,f.Result]]++sw [112,97,114,97,109] f.Params++sw [118,97,114] f.Vars++f.Blocks.flatMap mA
def kR(c:Class):List Line:=[ln [[99,108,97,115,115],c.Name]]++sw [102,105,101,108,100] c.Fields
def uu(x:Extern):Line:=ln [[101,120,116,101,114,110],x.Name,number x.N]
def DX(p:Program):List Line:=(if p.SSA then [ln [[115,115,97]]]else [])++p.Classes.flatMap kR++sw [103,108,111,98,97,108] p.Globals++p.Externs.map uu++p.Funcs.flatMap p6
def jD(a b:List Var):Bool:=decide (a=b)
def qx(a b:List Arg):Bool:=decide (a=b)
def qQ(a b:Instr):Bool:=decide (a=b)
def rK(a b:Block):Bool:=decide (a=b)
def t7(a b:Func):Bool:=decide (a=b)
def Same(a b:Program):Bool:=decide (a=b)
def rF(f:Func)(_:a8):Prop:=f.Blocks.length<=1000000/\∀b∈f.Blocks,b.Phis.length<=1000000/\b.Code.length<=1000000
def u9(f:Func)(v:a8):Int:=((cx f.Blocks).count v:Int)
def afJ(f:Func):Prop:=f.Blocks.length<=6000/\Gd f.Blocks/\∀b∈f.Blocks,∀x∈b.Phis,x.Ins.length<=1000000
def YK(p:Program)(f:Func):Prop:=iX p f/\nI p f/\FT f
noncomputable def Bi(p:Program)(f:Func):Bool:=(f.Blocks.all λb=>b.Phis.all (Cu f)&&nT p f b)&&(sr p f&&gr f)
def u6(p:Program):Prop:=nH p/\D1 p=bt p/\cu p
def YO(p:Program):Prop:=p.ok/\(∀e∈p.Externs,inR e.N)/\(∀f∈p.Funcs,∀b∈f.Blocks,∀i∈b.Code,∀r∈i.Frames,inR r.At)/\(Few p 6000=true->cu p/\(gJ p).length<=4194304)
def BR(_:Program):Bool:=true
end Lt
end

section
namespace Go.Am
open Go
def tW(a:Lt.Program)(KK:Int->Prop):Prop:=aa (α:=Bool) (λc=>(nH a)/\if !(D1 a)then(c true)else(c (!a.SSA))) (λf=>if f then(KK 3)else((jy a)/\if !(iv a)then(KK 4)else(ab (α:=Int) (λd v4=>(a.Funcs.length<=4611686018427387904->if decide (v4 < (a.Funcs.length:Int))then(aa (α:=Bool) (λb=>(0<=v4/\v4.toNat<a.Funcs.length)/\(afK (a.Funcs.getD v4.toNat default))/\if !(dF (a.Funcs.getD v4.toNat default))then(b true)else((0<=v4/\v4.toNat<a.Funcs.length)/\(afJ (a.Funcs.getD v4.toNat default))/\b (!(iA (a.Funcs.getD v4.toNat default))))) (λe=>if e then(KK 5)else((0<=v4/\v4.toNat<a.Funcs.length)/\(YK a (a.Funcs.getD v4.toNat default))/\if !(Bi a (a.Funcs.getD v4.toNat default))then(KK 4)else(d (i64.wrap (v4+1))))))else(KK 0))) 0)))
def jJ(a:Lt.Program)(KK:Bool->Prop):Prop:=aa (α:=Bool) (λb=>if !Qg then(b true)else((Ox a 6000)/\b (!(Lt.Few a 6000)))) (λc=>if c then(KK Qg)else(((cu a)/\(u6 a)/\KK (decide ((cT a)=(cT a))))/\((cu a)/\(u6 a)/\KK (decide ((cT a)=(cT a))))))
def ZR(a:Int)(KK:Int->Prop):Prop:=KK (i64.wrap a)
def PB(c:Lt.Func)(b:Lt.Instr)(a:Lt.Arg)(KK:(a8×Bool)->Prop):Prop:=if decide (a.Kind=5)then(aa (α:=Bool) (λd=>if decide (a.N < 0)then(d true)else(d (decide ((b.Objs.length:Int)<=a.N)))) (λe=>if e then(KK (([]:List UInt8),false))else((0<=a.N/\a.N.toNat<b.Objs.length)/\KK ((b.Objs.getD a.N.toNat default).Class,true))))else(KK ((cw c a).1,(cw c a).2))
def yU(l:Lt.Program)(e:Lt.Func)(a:Lt.Instr)(KK:Bool->Prop):Prop:=ab (α:=Int) (λt k=>have f:=(a.Frames.getD k.toNat default).Vars;(a.Frames.length<=4611686018427387904->if decide (k < (a.Frames.length:Int))then((0<=k/\k.toNat<a.Frames.length)/\ab (α:=Int) (λq v4=>(f.length<=4611686018427387904->if decide (v4 < (f.length:Int))then((0<=v4/\v4.toNat<f.length)/\if !((Lt.vOf e a ((f.getD v4.toNat default).A)).2)then(KK false)else(ab (α:=Int) (λr i=>if decide (i<v4)then((0<=i/\i.toNat<f.length)/\(0<=v4/\v4.toNat<f.length)/\if decide ((f.getD i.toNat default).Name=(f.getD v4.toNat default).Name)then(KK false)else(r (i64.wrap (i+1))))else(q (i64.wrap (v4+1)))) 0))else(t (i64.wrap (k+1))))) 0)else(ab (α:=Int) (λs j=>have z4:=a.Objs.getD j.toNat default;have z3:=(0<=j/\j.toNat<a.Objs.length);have c:=az l (z4.Class);(a.Objs.length<=4611686018427387904->if decide (j < (a.Objs.length:Int))then(aa (α:=Bool×Lt.Class) (λg=>((z3/\(g (c.2,(c.1)))/\(g (c.2,(c.1))))/\(z3/\g (c.2,(c.1))))/\(z3/\((g (c.2,(c.1)))/\(g (c.2,(c.1))))/\(g (c.2,(c.1))))/\(z3/\g (c.2,(c.1)))) (λd=>aa (α:=Bool) (λh=>if !d.1 then(h true)else(z3/\h (!decide ((d.2.Fields.length:Int)=((z4.Vals).length:Int))))) (λp=>if p then(KK false)else(ab (α:=Int) (λn b=>(d.2.Fields.length<=4611686018427387904->if decide (b < (d.2.Fields.length:Int))then(z3/\(0<=b/\b.toNat < (z4.Vals).length)/\aa (α:=Bool) (λm=>if !((Lt.vOf e a ((z4.Vals).getD b.toNat default)).2)then(m true)else((0<=b/\b.toNat<d.2.Fields.length)/\m (!(bB ((Lt.vOf e a ((z4.Vals).getD b.toNat default)).1) ((d.2.Fields.getD b.toNat default).Type_))))) (λo=>if o then(KK false)else(n (i64.wrap (b+1)))))else(s (i64.wrap (j+1))))) 0))))else((a.Frames.length<=4611686018427387904->KK (decide (0 < (a.Frames.length:Int))))))) 0))) 0
def CQ(a:Lt.Func)(b:a8)(KK:Int->Prop):Prop:=ab (α:=Int×Int) (λm e=>have g:=(0<=e.2/\e.2.toNat<a.Blocks.length);have d:=a.Blocks.getD e.2.toNat default;(a.Blocks.length<=4611686018427387904->if decide (e.2 < (a.Blocks.length:Int))then(ab (α:=Int×Int) (λn v4=>g/\((d.Phis).length<=4611686018427387904->if decide (v4.2 < ((d.Phis).length:Int))then(aa (α:=Int) (λj=>g/\(0<=v4.2/\v4.2.toNat < (d.Phis).length)/\if decide (((d.Phis).getD v4.2.toNat default).Dst=b)then(j (i64.wrap (v4.1+1)))else(j v4.1)) (λo=>n (o,(i64.wrap (v4.2+1)))))else(ab (α:=Int×Int) (λl c=>g/\((d.Code).length<=4611686018427387904->if decide (c.2 < ((d.Code).length:Int))then(aa (α:=Int) (λk=>aa (α:=Bool) (λf=>if !decide (b=([]:List UInt8))then(g/\(0<=c.2/\c.2.toNat < (d.Code).length)/\f (decide (((d.Code).getD c.2.toNat default).Dst=b)))else(f false)) (λi=>if i then(k (i64.wrap (c.1+1)))else(k c.1))) (λh=>l (h,(i64.wrap (c.2+1)))))else(m (c.1,(i64.wrap (e.2+1)))))) (v4.1,0)))) (e.1,0))else(KK e.1))) (0,0)
def GQ(b:Lt.Program)(a:Lt.Func)(KK:Bool->Prop):Prop:=ab (α:=Int) (λv l=>have f:=a.Blocks.getD l.toNat default;(a.Blocks.length<=4611686018427387904->if decide (l < (a.Blocks.length:Int))then((0<=l/\l.toNat<a.Blocks.length)/\ab (α:=Int) (λt v4=>have k:=(f.Phis).getD v4.toNat default;have z3:=(0<=v4/\v4.toNat < (f.Phis).length);have c:=dN a (k.Dst);((f.Phis).length<=4611686018427387904->if decide (v4 < ((f.Phis).length:Int))then(aa (α:=Bool×Lt.Var) (λi=>((z3/\(i (c.2,(c.1)))/\(i (c.2,(c.1))))/\(z3/\i (c.2,(c.1))))/\(z3/\((i (c.2,(c.1)))/\(i (c.2,(c.1))))/\(i (c.2,(c.1))))/\(z3/\i (c.2,(c.1)))) (λr=>if !r.1 then(KK false)else(ab (α:=Int) (λu j=>z3/\((k.Ins).length<=4611686018427387904->if decide (j < ((k.Ins).length:Int))then(z3/\(0<=j/\j.toNat < (k.Ins).length)/\aa (α:=Bool) (λs=>if !((cw a (((k.Ins).getD j.toNat default).A)).2)then(s true)else(s (!(bB ((cw a (((k.Ins).getD j.toNat default).A)).1) r.2.Type_)))) (λo=>if o then(KK false)else(u (i64.wrap (j+1)))))else(t (i64.wrap (v4+1))))) 0)))else(ab (α:=Int) (λm g=>have z5:=(f.Code).getD g.toNat default;have z4:=(0<=g/\g.toNat < (f.Code).length);((f.Code).length<=4611686018427387904->if decide (g < ((f.Code).length:Int))then(aa (α:=Bool) (λh=>z4/\(Oy b a z5)/\if !(jW b a z5)then(h true)else(z4/\if decide (z5.Op=31)then(z4/\h (!(lE b a z5)))else(z4/\if decide (z5.Op=34)then(z4/\h (!(lE b a z5)))else(h false)))) (λn=>if n then(KK false)else(m (i64.wrap (g+1)))))else(if !(xF a (Lt.Term.mk ((f.End).Kind) ((f.End).A) ((f.End).To) ((f.End).N)))then(KK false)else(v (i64.wrap (l+1)))))) 0))) 0)else(ab (α:=Int) (λp d=>(a.Vars.length<=4611686018427387904->if decide (d < (a.Vars.length:Int))then((0<=d/\d.toNat<a.Vars.length)/\(rF a ((a.Vars.getD d.toNat default).Name))/\if !decide ((u9 a ((a.Vars.getD d.toNat default).Name))=1)then(KK false)else(p (i64.wrap (d+1))))else(ab (α:=Int) (λq e=>(a.Params.length<=4611686018427387904->if decide (e < (a.Params.length:Int))then((0<=e/\e.toNat<a.Params.length)/\(rF a ((a.Params.getD e.toNat default).Name))/\if !decide ((u9 a ((a.Params.getD e.toNat default).Name))=0)then(KK false)else(q (i64.wrap (e+1))))else((QW a)/\KK (gr a)))) 0))) 0))) 0
def PA(a:Lt.Func)(KK:Bool->Prop):Prop:=ab (α:=Int) (λn b=>have h:=(a.Blocks.getD b.toNat default).Phis;(a.Blocks.length<=4611686018427387904->if decide (b < (a.Blocks.length:Int))then(ab (α:=Int) (λo v4=>have e:=(h.getD v4.toNat default).Ins;(0<=b/\b.toNat<a.Blocks.length)/\(h.length<=4611686018427387904->if decide (v4 < (h.length:Int))then((0<=b/\b.toNat<a.Blocks.length)/\(0<=v4/\v4.toNat<h.length)/\ab (α:=Int×Int) (λp d=>(a.Blocks.length<=4611686018427387904->if decide (d.2 < (a.Blocks.length:Int))then(ab (α:=Int×Int) (λm c=>(e.length<=4611686018427387904->if decide (c.2 < (e.length:Int))then(aa (α:=Int) (λl=>(0<=c.2/\c.2.toNat<e.length)/\(0<=d.2/\d.2.toNat<a.Blocks.length)/\if decide ((e.getD c.2.toNat default).Block=(a.Blocks.getD d.2.toNat default).Name)then(l (i64.wrap (c.1+1)))else(l c.1)) (λj=>m (j,(i64.wrap (c.2+1)))))else(aa (α:=Int) (λf=>(kz a d.2 b)/\if ip a d.2 b then(f 1)else(f 0)) (λk=>if !decide (c.1=k)then(KK false)else(p ((i64.wrap (d.1+c.1)),(i64.wrap (d.2+1)))))))) (0,0))else(aa (α:=Bool) (λg=>(e.length<=4611686018427387904->if !decide (d.1=(e.length:Int))then(g true)else(g (decide (b=0))))) (λi=>if i then(KK false)else(o (i64.wrap (v4+1))))))) (0,0))else(n (i64.wrap (b+1))))) 0)else(KK true))) 0
def GM(a:Lt.Func)(b:a8)(KK:(Int×Bool)->Prop):Prop:=ab (α:=Int) (λd c=>(a.Blocks.length<=4611686018427387904->if decide (c < (a.Blocks.length:Int))then((0<=c/\c.toNat<a.Blocks.length)/\if decide ((a.Blocks.getD c.toNat default).Name=b)then(KK (c,true))else(d (i64.wrap (c+1))))else(KK (0,false)))) 0
def GJ(b:Lt.Func)(a:Int)(c:Int)(KK:Bool->Prop):Prop:=ab (α:=Int) (λf d=>(0<=a/\a.toNat<b.Blocks.length)/\((((b.Blocks.getD a.toNat default).End).To).length<=4611686018427387904->if decide (d < ((((b.Blocks.getD a.toNat default).End).To).length:Int))then((0<=a/\a.toNat<b.Blocks.length)/\(0<=d/\d.toNat < (((b.Blocks.getD a.toNat default).End).To).length)/\aa (α:=Bool) (λe=>if (aK b ((((b.Blocks.getD a.toNat default).End).To).getD d.toNat default)).2 then(e (decide ((aK b ((((b.Blocks.getD a.toNat default).End).To).getD d.toNat default)).1=c)))else(e false)) (λv4=>if v4 then(KK true)else(f (i64.wrap (d+1)))))else(KK false))) 0
def Pv(b:Lt.Func)(KK:(List Bool)->Prop):Prop:=have c:=(b.Blocks.length:Int);(b.Blocks.length<=4611686018427387904->((0:Int)<=c/\c<=4611686018427387904/\1*c.toNat<=281474976710656)/\((List.replicate c.toNat (dflt .bo)).length<=4611686018427387904->ab (α:=List Bool×Bool) (λk e=>if e.2 then(((0:Int)<=0/\0 < ((e.1.length:Nat):Int))/\0<e.1.length/\ab (α:=List Bool×Bool×Int) (λl v4=>(v4.1.length<=4611686018427387904->if decide (v4.2.2 < (v4.1.length:Int))then(ab (α:=List Bool×Bool×Int) (λm a=>aa (α:=Bool) (λi=>(a.1.length<=4611686018427387904->if decide (a.2.2 < (a.1.length:Int))then(((0:Int)<=v4.2.2/\v4.2.2 < ((a.1.length:Nat):Int))/\i (a.1.getD v4.2.2.toNat default))else(i false))) (λj=>if j then(aa (α:=List Bool×Bool) (λh=>aa (α:=Bool) (λd=>((0:Int)<=a.2.2/\a.2.2 < ((a.1.length:Nat):Int))/\if !(a.1.getD a.2.2.toNat default)then((kz b v4.2.2 a.2.2)/\d (ip b v4.2.2 a.2.2))else(d false)) (λg=>if g then(((0:Int)<=a.2.2/\a.2.2 < ((a.1.length:Nat):Int))/\a.2.2.toNat<a.1.length/\h ((a.1.set a.2.2.toNat true),true))else(h (a.1,a.2.1)))) (λf=>m (f.1,f.2,(i64.wrap (a.2.2+1)))))else(l (a.1,a.2.1,(i64.wrap (v4.2.2+1)))))) (v4.1,v4.2.1,0))else(k (v4.1,v4.2.1)))) ((e.1.set 0 true),false,0))else(KK e.1)) ((List.replicate c.toNat (dflt .bo)),(decide (0 < ((List.replicate c.toNat (dflt .bo)).length:Int))))))
def GY(a:Lt.Func)(KK:Bool->Prop):Prop:=ab (α:=Int) (λj d=>have c:=((a.Blocks.getD d.toNat default).End).To;(a.Blocks.length<=4611686018427387904->if decide (d < (a.Blocks.length:Int))then((0<=d/\d.toNat<a.Blocks.length)/\if !decide ((aK a ((a.Blocks.getD d.toNat default).Name)).1=d)then(KK false)else((0<=d/\d.toNat<a.Blocks.length)/\ab (α:=Int) (λl v4=>(c.length<=4611686018427387904->if decide (v4 < (c.length:Int))then((0<=v4/\v4.toNat<c.length)/\aa (α:=Bool) (λh=>if !((aK a (c.getD v4.toNat default)).2)then(h true)else(h (decide ((aK a (c.getD v4.toNat default)).1=0)))) (λk=>if k then(KK false)else(ab (α:=Int) (λi f=>if decide (f<v4)then((0<=f/\f.toNat<c.length)/\(0<=v4/\v4.toNat<c.length)/\if decide ((c.getD f.toNat default)=(c.getD v4.toNat default))then(KK false)else(i (i64.wrap (f+1))))else(l (i64.wrap (v4+1)))) 0)))else(j (i64.wrap (d+1))))) 0))else((K5 a)/\(∀e:List Bool,DV a e->ab (α:=Int) (λg b=>(e.length<=4611686018427387904->if decide (b < (e.length:Int))then((0<=b/\b.toNat<e.length)/\if !(e.getD b.toNat default)then(KK false)else(g (i64.wrap (b+1))))else((e.length<=4611686018427387904->KK (decide (0 < (e.length:Int))))))) 0)))) 0
def GO(a:List a8)(b:a8)(KK:(List a8)->Prop):Prop:=ab (α:=List a8×Int) (λj c=>have f:=([(a.getD c.2.toNat default)]:List a8);(a.length<=4611686018427387904->if decide (c.2 < (a.length:Int))then(aa (α:=List a8) (λg=>(0<=c.2/\c.2.toNat<a.length)/\if Op.bytesLess (a.getD c.2.toNat default) b then((0<=c.2/\c.2.toNat<a.length)/\(c.1.length+f.length<=4611686018427387904/\(c.1.length+f.length)*16<=140737488355328)/\g (c.1++f))else(g c.1)) (λv4=>j (v4,(i64.wrap (c.2+1)))))else((c.1.length+([b]:List a8).length<=4611686018427387904/\(c.1.length+([b]:List a8).length)*16<=140737488355328)/\ab (α:=List a8×Int) (λk d=>have e:=a.getD d.2.toNat default;(a.length<=4611686018427387904->if decide (d.2 < (a.length:Int))then(aa (α:=List a8) (λh=>(0<=d.2/\d.2.toNat<a.length)/\if !(Op.bytesLess e b||decide (e=b))then((0<=d.2/\d.2.toNat<a.length)/\(d.1.length+([e]:List a8).length<=4611686018427387904/\(d.1.length+([e]:List a8).length)*16<=140737488355328)/\h (d.1++([e]:List a8)))else(h d.1)) (λi=>k (i,(i64.wrap (d.2+1)))))else(KK d.1))) ((c.1++([b]:List a8)),0)))) ([],0)
def GN(a:List a8)(b:Lt.Arg)(KK:(List a8)->Prop):Prop:=if decide (b.Kind=1)then((YJ a b.S)/\(∀c:List a8,QT a b.S c->KK c))else(KK a)
def CN(a:Lt.Instr)(KK:(List a8)->Prop):Prop:=ab (α:=List a8×Int) (λn e=>(a.Args.length<=4611686018427387904->if decide (e.2 < (a.Args.length:Int))then((0<=e.2/\e.2.toNat<a.Args.length)/\(yw e.1 (a.Args.getD e.2.toNat default))/\(∀j:List a8,rE e.1 (a.Args.getD e.2.toNat default) j->n (j,(i64.wrap (e.2+1)))))else(ab (α:=List a8×Int) (λm v5=>have f:=(a.Frames.getD v5.2.toNat default).Vars;(a.Frames.length<=4611686018427387904->if decide (v5.2 < (a.Frames.length:Int))then(ab (α:=List a8×Int) (λl d=>(0<=v5.2/\v5.2.toNat<a.Frames.length)/\(f.length<=4611686018427387904->if decide (d.2 < (f.length:Int))then((0<=v5.2/\v5.2.toNat<a.Frames.length)/\(0<=d.2/\d.2.toNat<f.length)/\(yw d.1 ((f.getD d.2.toNat default).A))/\(∀k:List a8,rE d.1 ((f.getD d.2.toNat default).A) k->l (k,(i64.wrap (d.2+1)))))else(m (d.1,(i64.wrap (v5.2+1)))))) (v5.1,0))else(ab (α:=List a8×Int) (λo b=>have h:=(a.Objs.getD b.2.toNat default).Vals;(a.Objs.length<=4611686018427387904->if decide (b.2 < (a.Objs.length:Int))then(ab (α:=List a8×Int) (λi c=>(0<=b.2/\b.2.toNat<a.Objs.length)/\(h.length<=4611686018427387904->if decide (c.2 < (h.length:Int))then((0<=b.2/\b.2.toNat<a.Objs.length)/\(0<=c.2/\c.2.toNat<h.length)/\(yw c.1 (h.getD c.2.toNat default))/\(∀g:List a8,rE c.1 (h.getD c.2.toNat default) g->i (g,(i64.wrap (c.2+1)))))else(o (c.1,(i64.wrap (b.2+1)))))) (b.1,0))else(KK b.1))) (v5.1,0)))) (e.1,0)))) ([],0)
def yS(a:Lt.Func)(c:a8)(KK:Bool->Prop):Prop:=ab (α:=Int) (λd b=>(a.Params.length<=4611686018427387904->if decide (b < (a.Params.length:Int))then((0<=b/\b.toNat<a.Params.length)/\if decide ((a.Params.getD b.toNat default).Name=c)then(KK true)else(d (i64.wrap (b+1))))else(KK false))) 0
def CP(a:Lt.Block)(c:Int)(b:a8)(KK:Bool->Prop):Prop:=ab (α:=Int) (λf d=>if decide (d<c)then(aa (α:=Bool) (λe=>if !decide (b=([]:List UInt8))then((0<=d/\d.toNat<a.Code.length)/\e (decide ((a.Code.getD d.toNat default).Dst=b)))else(e false)) (λv4=>if v4 then(KK true)else(f (i64.wrap (d+1)))))else(KK false)) 0
def GP(a:Lt.Block)(c:a8)(KK:Bool->Prop):Prop:=ab (α:=Int) (λd b=>(a.Phis.length<=4611686018427387904->if decide (b < (a.Phis.length:Int))then((0<=b/\b.toNat<a.Phis.length)/\if decide ((a.Phis.getD b.toNat default).Dst=c)then(KK true)else(d (i64.wrap (b+1))))else(KK false))) 0
def CO(a:Lt.Func)(d:a8)(KK:(List Bool)->Prop):Prop:=have z4:=a.Blocks.getD 0 default;have e:=(a.Blocks.length:Int);have n:=((0:Int)<=0/\0 < (((List.replicate e.toNat (dflt .bo)).length:Nat):Int));(a.Blocks.length<=4611686018427387904->((0:Int)<=e/\e<=4611686018427387904/\1*e.toNat<=281474976710656)/\aa (α:=List Bool) (λp=>if !(qt a d)then(((0:Int)<=0/\0<a.Blocks.length)/\n/\0 < (List.replicate e.toNat (dflt .bo)).length/\p ((List.replicate e.toNat (dflt .bo)).set 0 (!(wI (Lt.Block.mk (z4.Name) (z4.Phis) (z4.Code) (Lt.Term.mk ((z4.End).Kind) ((z4.End).A) ((z4.End).To) ((z4.End).N))) d))))else(n/\0 < (List.replicate e.toNat (dflt .bo)).length/\p ((List.replicate e.toNat (dflt .bo)).set 0 false))) (λs=>ab (α:=List Bool×Int) (λq v4=>(a.Blocks.length<=4611686018427387904->if decide (v4.2<e)then(ab (α:=List Bool×Int) (λt c=>have f:=a.Blocks.getD c.2.toNat default;have z5:=Lt.Block.mk (f.Name) (f.Phis) (f.Code) (Lt.Term.mk ((f.End).Kind) ((f.End).A) ((f.End).To) ((f.End).N));(a.Blocks.length<=4611686018427387904->if decide (c.2<e)then(aa (α:=List Bool) (λo=>aa (α:=Bool) (λm=>((0:Int)<=c.2/\c.2 < ((c.1.length:Nat):Int))/\if !(c.1.getD c.2.toNat default)then(m true)else((0<=c.2/\c.2.toNat<a.Blocks.length)/\(0<=c.2/\c.2.toNat<a.Blocks.length)/\(yx z5 ((f.Code).length:Int) d)/\m (rG z5 ((f.Code).length:Int) d))) (λl=>if l then(o c.1)else(ab (α:=List Bool×Int) (λi b=>have z3:=a.Blocks.getD b.2.toNat default;(a.Blocks.length<=4611686018427387904->if decide (b.2<e)then(aa (α:=List Bool) (λg=>aa (α:=Bool) (λh=>(kz a c.2 b.2)/\if ip a c.2 b.2 then((0<=b.2/\b.2.toNat<a.Blocks.length)/\h (!(wI (Lt.Block.mk (z3.Name) (z3.Phis) (z3.Code) (Lt.Term.mk ((z3.End).Kind) ((z3.End).A) ((z3.End).To) ((z3.End).N))) d)))else(h false)) (λk=>if k then(((0:Int)<=b.2/\b.2 < ((b.1.length:Nat):Int))/\b.2.toNat<b.1.length/\g (b.1.set b.2.toNat true))else(g b.1))) (λj=>i (j,(i64.wrap (b.2+1)))))else(o b.1))) (c.1,0)))) (λr=>t (r,(i64.wrap (c.2+1)))))else(q (c.1,(i64.wrap (v4.2+1)))))) (v4.1,0))else(KK v4.1))) (s,0)))
def yR(b:Lt.Func)(a:Int)(d:Int)(c:a8)(KK:Bool->Prop):Prop:=(FU b c)/\(∀e:List Bool,K3 b c e->(0<=a/\a.toNat<e.length)/\if !(e.getD a.toNat default)then(KK true)else((0<=a/\a.toNat<b.Blocks.length)/\(yx (Lt.Block.mk ((b.Blocks.getD a.toNat default).Name) ((b.Blocks.getD a.toNat default).Phis) ((b.Blocks.getD a.toNat default).Code) (Lt.Term.mk (((b.Blocks.getD a.toNat default).End).Kind) (((b.Blocks.getD a.toNat default).End).A) (((b.Blocks.getD a.toNat default).End).To) (((b.Blocks.getD a.toNat default).End).N))) d c)/\KK (rG (Lt.Block.mk ((b.Blocks.getD a.toNat default).Name) ((b.Blocks.getD a.toNat default).Phis) ((b.Blocks.getD a.toNat default).Code) (Lt.Term.mk (((b.Blocks.getD a.toNat default).End).Kind) (((b.Blocks.getD a.toNat default).End).A) (((b.Blocks.getD a.toNat default).End).To) (((b.Blocks.getD a.toNat default).End).N))) d c)))
def yT(a:Lt.Func)(KK:Bool->Prop):Prop:=ab (α:=Int) (λo e=>have b:=a.Blocks.getD e.toNat default;(a.Blocks.length<=4611686018427387904->if decide (e < (a.Blocks.length:Int))then((0<=e/\e.toNat<a.Blocks.length)/\ab (α:=Int) (λp v4=>((b.Code).length<=4611686018427387904->if decide (v4 < ((b.Code).length:Int))then((0<=v4/\v4.toNat < (b.Code).length)/\(fP ((b.Code).getD v4.toNat default))/\(∀i:List a8,uW ((b.Code).getD v4.toNat default) i->ab (α:=Int) (λn h=>(i.length<=4611686018427387904->if decide (h < (i.length:Int))then((0<=h/\h.toNat<i.length)/\(qm a e v4 (i.getD h.toNat default))/\if !(gl a e v4 (i.getD h.toNat default))then(KK false)else(n (i64.wrap (h+1))))else(p (i64.wrap (v4+1))))) 0))else(aa (α:=Bool) (λj=>have z4:=((qm a e ((b.Code).length:Int) (((b.End).A).S))/\j (!(gl a e ((b.Code).length:Int) (((b.End).A).S))));if decide ((b.End).Kind=2)then(if decide (((b.End).A).Kind=1)then z4 else(j false))else(if decide ((b.End).Kind=3)then(if decide (((b.End).A).Kind=1)then z4 else(j false))else(j false))) (λv9=>if v9 then(KK false)else(ab (α:=Int) (λk c=>have z3:=((b.Phis).getD c.toNat default).Ins;((b.Phis).length<=4611686018427387904->if decide (c < ((b.Phis).length:Int))then(ab (α:=Int) (λm d=>have z5:=z3.getD d.toNat default;have g:=aK a (z5.Block);(0<=c/\c.toNat < (b.Phis).length)/\(z3.length<=4611686018427387904->if decide (d < (z3.length:Int))then((0<=c/\c.toNat < (b.Phis).length)/\(0<=d/\d.toNat<z3.length)/\aa (α:=Bool) (λf=>if g.2 then(if decide ((z5.A).Kind=1)then((kz a (g.1) e)/\if ip a (g.1) e then(((0:Int)<=g.1/\(g.1).toNat<a.Blocks.length)/\(qm a (g.1) (((a.Blocks.getD (g.1).toNat default).Code).length:Int) ((z5.A).S))/\f (!(gl a (g.1) (((a.Blocks.getD (g.1).toNat default).Code).length:Int) ((z5.A).S))))else(f false))else(f false))else(f false)) (λl=>if l then(KK false)else(m (i64.wrap (d+1)))))else(k (i64.wrap (c+1))))) 0)else(o (i64.wrap (e+1))))) 0))))) 0)else(KK true))) 0
def Rq(a:Lt.Program)(b:a8)(KK:(Lt.Class×Bool)->Prop):Prop:=ab (α:=Int) (λd c=>(a.Classes.length<=4611686018427387904->if decide (c < (a.Classes.length:Int))then((0<=c/\c.toNat<a.Classes.length)/\if decide ((a.Classes.getD c.toNat default).Name=b)then((0<=c/\c.toNat<a.Classes.length)/\KK ((a.Classes.getD c.toNat default),true))else(d (i64.wrap (c+1))))else(KK ((Lt.Class.mk ([]:List UInt8) []),false)))) 0
def Vz(a:Lt.Program)(b:a8)(KK:(Lt.Func×Bool)->Prop):Prop:=ab (α:=Int) (λd c=>(a.Funcs.length<=4611686018427387904->if decide (c < (a.Funcs.length:Int))then((0<=c/\c.toNat<a.Funcs.length)/\if decide ((a.Funcs.getD c.toNat default).Name=b)then((0<=c/\c.toNat<a.Funcs.length)/\KK ((a.Funcs.getD c.toNat default),true))else(d (i64.wrap (c+1))))else(KK ((Lt.Func.mk ([]:List UInt8) ([]:List UInt8) [] [] []),false)))) 0
def L5(a:Lt.Program)(b:a8)(KK:(Lt.Extern×Bool)->Prop):Prop:=ab (α:=Int) (λd c=>(a.Externs.length<=4611686018427387904->if decide (c < (a.Externs.length:Int))then((0<=c/\c.toNat<a.Externs.length)/\if decide ((a.Externs.getD c.toNat default).Name=b)then((0<=c/\c.toNat<a.Externs.length)/\KK ((a.Externs.getD c.toNat default),true))else(d (i64.wrap (c+1))))else(KK ((Lt.Extern.mk ([]:List UInt8) 0),false)))) 0
def afX(a:List Lt.Var)(b:a8)(KK:(Lt.Var×Bool)->Prop):Prop:=ab (α:=Int) (λd c=>(a.length<=4611686018427387904->if decide (c < (a.length:Int))then((0<=c/\c.toNat<a.length)/\if decide ((a.getD c.toNat default).Name=b)then((0<=c/\c.toNat<a.length)/\KK ((a.getD c.toNat default),true))else(d (i64.wrap (c+1))))else(KK ((Lt.Var.mk ([]:List UInt8) ([]:List UInt8)),false)))) 0
def Rr(c:Lt.Program)(a:a8)(b:a8)(KK:(Lt.Var×Bool)->Prop):Prop:=KK (((rX (((az c a).1).Fields) b).1),(rX (((az c a).1).Fields) b).2)
def L6(b:Lt.Program)(a:a8)(KK:(Lt.Var×Bool)->Prop):Prop:=KK (((rX b.Globals a).1),(rX b.Globals a).2)
def PE(b:Lt.Func)(a:a8)(KK:(Lt.Var×Bool)->Prop):Prop:=if (rX b.Params a).2 then(KK (((rX b.Params a).1),true))else(KK (((rX b.Vars a).1),(rX b.Vars a).2))
def VA(b:Lt.Func)(a:Lt.Arg)(KK:(a8×Bool)->Prop):Prop:=if decide (a.Kind=1)then(KK (((dN b a.S).1).Type_,(dN b a.S).2))else(aa (α:=Bool) (λc=>if decide (2<=a.Kind)then(c (decide (a.Kind<=4)))else(c false)) (λd=>if d then(((0:Int)<=a.Kind/\a.Kind < ((5:Nat):Int))/\a.Kind.toNat<[(([]:List UInt8):a8),(([]:List UInt8):a8),([105,110,116]:List UInt8),([102,108,111,97,116]:List UInt8),([110,117,108,108]:List UInt8)].length/\KK (([(([]:List UInt8):a8),(([]:List UInt8):a8),([105,110,116]:List UInt8),([102,108,111,97,116]:List UInt8),([110,117,108,108]:List UInt8)].getD a.Kind.toNat default),true))else(KK (([]:List UInt8),false))))
def PD(a:a8)(KK:Bool->Prop):Prop:=if !decide (a=[105,110,116])then(KK (!decide (a=[102,108,111,97,116])))else(KK false)
def GS(b:a8)(a:a8)(KK:Bool->Prop):Prop:=aa (α:=Bool) (λc=>if decide (b=a)then(c true)else(if decide (b=[110,117,108,108])then(c (gX a))else(c false))) (λd=>KK d)
def GR(a:List a8)(b:List Lt.Var)(KK:Bool->Prop):Prop:=ab (α:=Int) (λe c=>(a.length<=4611686018427387904->if decide (c < (a.length:Int))then(aa (α:=Bool) (λd=>(b.length<=4611686018427387904->if decide ((b.length:Int)<=c)then(d true)else((0<=c/\c.toNat<a.length)/\(0<=c/\c.toNat<b.length)/\d (!(bB (a.getD c.toNat default) ((b.getD c.toNat default).Type_)))))) (λv4=>if v4 then(KK false)else(e (i64.wrap (c+1)))))else((a.length<=4611686018427387904->(b.length<=4611686018427387904->KK (decide ((a.length:Int)=(b.length:Int)))))))) 0
def CS(b:Lt.Program)(f:Lt.Func)(a:Lt.Instr)(KK:Bool->Prop):Prop:=have u:=fD b a.Name;have m:=(dN f a.Dst).1;aa (α:=Bool) (λr=>if !((Lt.rOf a.Op).2)then(r true)else(if decide ((a.Args.length:Int) < ((Lt.rOf a.Op).1).Least)then(r true)else(if decide (((Lt.rOf a.Op).1).Most < (a.Args.length:Int))then(r true)else(if ((Lt.rOf a.Op).1).Dst then(r (!((dN f a.Dst).2)))else(r false))))) (λH=>if H then(KK false)else(ab (α:=List a8×Int) (λE v4=>have t:=((0:Int)<=1/\1 < ((v4.1.length:Nat):Int));have z5:=([(cw f (a.Args.getD v4.2.toNat default)).1]:List a8);have i:=((0:Int)<=0/\0 < ((v4.1.length:Nat):Int));have c:=oQ b (v4.1.getD 0 default) a.Name;(a.Args.length<=4611686018427387904->if decide (v4.2 < (a.Args.length:Int))then((0<=v4.2/\v4.2.toNat<a.Args.length)/\if !((cw f (a.Args.getD v4.2.toNat default)).2)then(KK false)else((v4.1.length+z5.length<=4611686018427387904/\(v4.1.length+z5.length)*16<=140737488355328)/\E ((v4.1++z5),(i64.wrap (v4.2+1)))))else(aa (α:=a8) (λB=>aa (α:=Bool) (λA=>if decide (15<=a.Op)then(if decide (a.Op<=21)then(A true)else(A (decide (a.Op=23))))else(A (decide (a.Op=23)))) (λG=>if G then(B [102,108,111,97,116])else(B [105,110,116]))) (λF=>aa (α:=a8) (λC=>aa (α:=Bool) (λj=>if decide (15<=a.Op)then(if decide (a.Op<=18)then(j true)else(j (decide (a.Op=22))))else(j (decide (a.Op=22)))) (λx=>if x then(C [102,108,111,97,116])else(C [105,110,116]))) (λy=>aa (α:=Unit) (λp=>if decide (a.Op=24)then(i/\KK (bB (v4.1.getD 0 default) (m.Type_)))else(if decide (a.Op=25)then(aa (α:=Bool) (λh=>if (az b a.Name).2 then(if decide (m.Type_=a.Name)then(if decide ((v4.1.length:Int)=0)then(h true)else(h (gI v4.1 (((az b a.Name).1).Fields))))else(h false))else(h false)) (λv=>KK v))else(if decide (a.Op=26)then(aa (α:=Bool×Lt.Var) (λd=>have z3:=((d (c.2,(c.1)))/\(d (c.2,(c.1))))/\(d (c.2,(c.1)));i/\(z3/\z3/\(d (c.2,(c.1))))/\(z3/\z3/\(d (c.2,(c.1))))/\(z3/\z3/\(d (c.2,(c.1))))/\(d (c.2,(c.1)))) (λs=>aa (α:=Bool) (λn=>((0:Int)<=0/\0<a.Args.length)/\if decide ((a.Args.getD 0 default).Kind=1)then(if s.1 then(n (decide (s.2.Type_=m.Type_)))else(n false))else(n false)) (λv20=>KK v20)))else(if decide (a.Op=27)then(aa (α:=Bool×Lt.Var) (λe=>have z4:=((e (c.2,(c.1)))/\(e (c.2,(c.1))))/\(e (c.2,(c.1)));i/\(z4/\z4/\(e (c.2,(c.1))))/\(z4/\z4/\(e (c.2,(c.1))))/\(z4/\z4/\(e (c.2,(c.1))))/\(e (c.2,(c.1)))) (λo=>aa (α:=Bool) (λl=>((0:Int)<=0/\0<a.Args.length)/\if decide ((a.Args.getD 0 default).Kind=1)then(if o.1 then(t/\l (bB (v4.1.getD 1 default) o.2.Type_))else(l false))else(l false)) (λv24=>KK v24)))else(if decide (a.Op=28)then(aa (α:=Bool) (λg=>if decide (m.Type_=[105,110,116])then(i/\if gX (v4.1.getD 0 default)then(t/\if gX (v4.1.getD 1 default)then(i/\t/\if decide ((v4.1.getD 0 default)=(v4.1.getD 1 default))then(g true)else(i/\if decide ((v4.1.getD 0 default)=[110,117,108,108])then(g true)else(t/\g (decide ((v4.1.getD 1 default)=[110,117,108,108])))))else(g false))else(g false))else(g false)) (λv26=>KK v26))else(if decide (a.Op=29)then(if u.2 then(KK (decide ((u.1).Type_=m.Type_)))else(KK false))else(if decide (a.Op=30)then(if u.2 then(i/\KK (bB (v4.1.getD 0 default) ((u.1).Type_)))else(KK false))else(if decide (a.Op=31)then(aa (α:=Bool) (λk=>if (ll b a.Name).2 then(if gI v4.1 (((ll b a.Name).1).Params)then(k (decide (((ll b a.Name).1).Result=m.Type_)))else(k false))else(k false)) (λv28=>KK v28))else(if decide (a.Op=33)then(i/\if decide ((v4.1.getD 0 default)=[105,110,116])then(KK true)else(i/\KK (decide ((v4.1.getD 0 default)=[102,108,111,97,116]))))else(if decide (a.Op=34)then(KK true)else(if decide (a.Op=32)then(aa (α:=Bool) (λq=>if !((gm b a.Name).2)then(q true)else(q (!decide (((gm b a.Name).1).N=(v4.1.length:Int))))) (λz=>if z then(KK false)else(p ())))else(p ())))))))))))) (λD=>ab (α:=Int) (λw v32=>(v4.1.length<=4611686018427387904->if decide (v32 < (v4.1.length:Int))then(((0:Int)<=v32/\v32 < ((v4.1.length:Nat):Int))/\if !decide ((v4.1.getD v32.toNat default)=F)then(KK false)else(w (i64.wrap (v32+1))))else(KK (decide (m.Type_=y))))) 0)))))) ([],0)))
def PC(c:Lt.Func)(a:Lt.Term)(KK:Bool->Prop):Prop:=have z3:=(cw c a.A).2;have e:=bB ((cw c a.A).1) c.Result;have d:=decide (a.Kind=4);aa (α:=Bool) (λb=>if decide (a.Kind=1)then(b true)else(if decide (a.Kind=2)then(if z3 then(if decide ((cw c a.A).1=[105,110,116])then(b true)else(if decide (a.Kind=3)then(if z3 then(if e then(b true)else(if d then(b (decide (10<=a.N)))else(b false)))else(if d then(b (decide (10<=a.N)))else(b false)))else(if d then(b (decide (10<=a.N)))else(b false))))else(if decide (a.Kind=3)then(if z3 then(if e then(b true)else(if d then(b (decide (10<=a.N)))else(b false)))else(if d then(b (decide (10<=a.N)))else(b false)))else(if d then(b (decide (10<=a.N)))else(b false))))else(if decide (a.Kind=3)then(if z3 then(if e then(b true)else(if d then(b (decide (10<=a.N)))else(b false)))else(if d then(b (decide (10<=a.N)))else(b false)))else(if d then(b (decide (10<=a.N)))else(b false))))) (λf=>KK f)
def CU(c:Lt.Program)(a:List Lt.Var)(KK:Bool->Prop):Prop:=ab (α:=Int) (λh b=>(a.length<=4611686018427387904->if decide (b < (a.length:Int))then(aa (α:=Bool) (λe=>(0<=b/\b.toNat<a.length)/\((e ((az c ((a.getD b.toNat default).Type_)).2))/\(e ((az c ((a.getD b.toNat default).Type_)).2)))/\(e ((az c ((a.getD b.toNat default).Type_)).2))) (λv4=>aa (α:=Bool) (λf=>(0<=b/\b.toNat<a.length)/\if gX ((a.getD b.toNat default).Type_)then(f (!v4))else(f false)) (λi=>if i then(KK false)else(ab (α:=Int) (λg d=>if decide (d<b)then((0<=d/\d.toNat<a.length)/\(0<=b/\b.toNat<a.length)/\if decide ((a.getD d.toNat default).Name=(a.getD b.toNat default).Name)then(KK false)else(g (i64.wrap (d+1))))else(h (i64.wrap (b+1)))) 0))))else(KK true))) 0
def CR(a:Lt.Program)(KK:Bool->Prop):Prop:=if !(cH a a.Globals)then(KK false)else(ab (α:=Int) (λo f=>(a.Classes.length<=4611686018427387904->if decide (f < (a.Classes.length:Int))then(ab (α:=Int) (λp v4=>if decide (v4<f)then((0<=v4/\v4.toNat<a.Classes.length)/\(0<=f/\f.toNat<a.Classes.length)/\if decide ((a.Classes.getD v4.toNat default).Name=(a.Classes.getD f.toNat default).Name)then(KK false)else(p (i64.wrap (v4+1))))else((0<=f/\f.toNat<a.Classes.length)/\if !(cH a ((a.Classes.getD f.toNat default).Fields))then(KK false)else(o (i64.wrap (f+1))))) 0)else(ab (α:=Int) (λq i=>(a.Externs.length<=4611686018427387904->if decide (i < (a.Externs.length:Int))then(ab (α:=Int) (λn j=>if decide (j<i)then((0<=j/\j.toNat<a.Externs.length)/\(0<=i/\i.toNat<a.Externs.length)/\if decide ((a.Externs.getD j.toNat default).Name=(a.Externs.getD i.toNat default).Name)then(KK false)else(n (i64.wrap (j+1))))else(q (i64.wrap (i+1)))) 0)else(ab (α:=Int) (λr c=>have g:=(0<=c/\c.toNat<a.Funcs.length);have d:=a.Funcs.getD c.toNat default;have z3:=(az a (d.Result)).2;(a.Funcs.length<=4611686018427387904->if decide (c < (a.Funcs.length:Int))then(ab (α:=Int) (λk e=>if decide (e<c)then((0<=e/\e.toNat<a.Funcs.length)/\g/\if decide ((a.Funcs.getD e.toNat default).Name=d.Name)then(KK false)else(k (i64.wrap (e+1))))else(g/\(([]:List Lt.Var).length+(d.Params).length<=4611686018427387904/\(([]:List Lt.Var).length+(d.Params).length)*32<=140737488355328)/\g/\((d.Params).length+(d.Vars).length<=4611686018427387904/\((d.Params).length+(d.Vars).length)*32<=140737488355328)/\aa (α:=Bool) (λb=>((g/\(b z3)/\(b z3))/\(g/\b z3))/\(g/\((b z3)/\(b z3))/\(b z3))/\(g/\b z3)) (λl=>aa (α:=Bool) (λh=>if !(cH a ((d.Params)++(d.Vars)))then(h true)else(g/\if gX (d.Result)then(h (!l))else(h false))) (λm=>if m then(KK false)else(r (i64.wrap (c+1))))))) 0)else(KK true))) 0))) 0))) 0)
theorem adM(op:Int):(Lt.rOf op).2=(Lt.Of op).2/\(Lt.rOf op).1.Dst=(Lt.Of op).1.Dst/\(Lt.rOf op).1.Least=(Lt.Of op).1.Least/\(Lt.rOf op).1.Most=(Lt.Of op).1.Most:=by
 by_cases h:1<=op/\op<=34
 .obtain⟨k,rfl⟩:=alY (show 0<=op by omega);have:∀k:Fin 35,1<=k.1->(Lt.rOf (k.1:Int)).2=(Lt.Of (k.1:Int)).2/\(Lt.rOf (k.1:Int)).1.Dst=(Lt.Of (k.1:Int)).1.Dst/\(Lt.rOf (k.1:Int)).1.Least=(Lt.Of (k.1:Int)).1.Least/\(Lt.rOf (k.1:Int)).1.Most=(Lt.Of (k.1:Int)).1.Most:=by decide +kernel
  exact this ⟨k,by omega⟩ (by grind)
 grind (splits:=20) [Lt.rOf,Lt.Of]
variable{α:Type}
theorem uw[Inhabited α](nm:α->a8)(s:a8)(l:List α)(KK:α×Bool->Prop)(h:KK (Lt.fnd nm s l)):ab (α:=Int) (λR v=>(l.length<=4611686018427387904->if decide (v < (l.length:Int))then((0<=v/\v.toNat<l.length)/\if decide (nm (l.getD v.toNat default)=s)then((0<=v/\v.toNat<l.length)/\KK (l.getD v.toNat default,true))else(R (i64.wrap (v+1))))else(KK (default,false)))) 0:=by
 refine da l (λl=>KK (Lt.fnd nm s l)) (λR i x r hi hx _ ih h hl=>?_) (λR h hl=>?_) h
 .grind [Lt.fnd]
 rw[if_neg (by simp)];exact h
theorem Kd(p:Lt.Program)(s:a8)(KK:Lt.Class×Bool->Prop)(h:KK (az p s)):Rq p s KK:=uw _ s p.Classes KK h
theorem Nx(p:Lt.Program)(s:a8)(KK:Lt.Func×Bool->Prop)(h:KK (ll p s)):Vz p s KK:=uw _ s p.Funcs KK h
theorem Fh(p:Lt.Program)(s:a8)(KK:Lt.Extern×Bool->Prop)(h:KK (gm p s)):L5 p s KK:=uw _ s p.Externs KK h
theorem XU(l:List Lt.Var)(s:a8)(KK:Lt.Var×Bool->Prop)(h:KK (rX l s)):afX l s KK:=uw _ s l KK h
theorem Ke(p:Lt.Program)(c s:a8)(KK:Lt.Var×Bool->Prop)(h:KK (oQ p c s)):Rr p c s KK:=h
theorem Fi(p:Lt.Program)(s:a8)(KK:Lt.Var×Bool->Prop)(h:KK (fD p s)):L6 p s KK:=h
theorem TJ(f:Lt.Func)(s:a8)(KK:Lt.Var×Bool->Prop)(h:KK (dN f s)):PE f s KK:=by grind [PE,dN]
theorem XV(f:Lt.Func)(a:Lt.Arg)(KK:a8×Bool->Prop)(h:KK (cw f a)):VA f a KK:=by
 unfold VA;unfold cw at h;simp only[bL,ae,decide_eq_true_eq]
 grind
theorem TI(t:List UInt8)(KK:Bool->Prop)(h:KK (gX t)):PD t KK:=by grind [PD,gX]
theorem Nw(a b:a8)(KK:Bool->Prop)(h:KK (bB a b)):GS a b KK:=by
 unfold GS;unfold bB at h;intro J c
 grind
theorem Nv(l:List a8)(v:List Lt.Var)(KK:Bool->Prop)(h:KK (gI l v)):GR l v KK:=by
 unfold GR;refine af _ l.length (λi x=>x=(i:Int)/\i<=v.length/\KK (gI (l.drop i) (v.drop i))) (λR i x hi hx ih hl=>?_) (λR x hx hl=>?_) 0 ⟨rfl,alL _,h⟩
 .obtain⟨rfl,a,h⟩:=hx;rw[if_pos (aF hi),Int.toNat_natCast];rw[dh l hi]at h;simp only[aq,bL,am,ae];intro hv;refine ifk (λhc=>?_) (λhc=>⟨by omega,by grind,?_⟩)
  .have hc:=of_decide_eq_true hc
   rw[show v.drop i=[]from List.drop_eq_nil_of_le kQ1]at h;rw[if_pos trivial];exact h
  grind [dh,gI,ac]
 obtain⟨rfl,a,h⟩:=hx;rw[if_neg (by simp)];intro _ _;rw[alZ]at h;rcases al8 l.length v.length with e|e
 .rw[dh v e]at h;rw[decide_eq_false kQ1];exact h
 rw[List.drop_eq_nil_of_le kQ1]at h;rw[decide_eq_true kQ1];exact h
theorem m9[Inhabited α]{l:List α}{nm:α->a8}{i:Nat}{A B:Prop}(hi:i<l.length)(hl:l.length<=4611686018427387904)(a:nm (l.getD i default)∈(l.take i).map nm->A)(b:nm (l.getD i default) ∉ (l.take i).map nm->B) :
  ab (α:=Int) (λR v=>if decide (v < (i:Int))then((0<=v/\v.toNat<l.length)/\((0:Int)<=(i:Int)/\i<l.length)/\if decide (nm (l.getD v.toNat default)=nm (l.getD i default))then A else(R (i64.wrap (v+1))))else B) 0:=by
 refine af _ i (λk v=>v=(k:Int)/\nm (l.getD i default) ∉ (l.take k).map nm) (λR k v hk⟨e,h⟩ih=>?_) (λR v⟨e,h⟩=>?_) _ ⟨rfl,by simp⟩
 .subst e;rw[if_pos (aF hk),Int.toNat_natCast];have hs:=aA l (i:=k) kQ1
  refine⟨by omega,by omega,ifk (λhc=>a ?_) (λhc=>ih _ ⟨ac kQ1,?_⟩)⟩
  .have:(l.take (k+1))=(l.take i).take (k+1):=by grind
   grind [amE]
  grind
 grind
theorem ru[Inhabited α]{body:(Int->Prop)->Int->Prop}(l:List α)(nm:α->a8)(ok:α->Prop)(N:Prop)
  (hs:∀R(i:Nat)x,i<l.length->l.getD i default=x->x∈l->(nm x∈(l.take i).map nm->N)->(nm x ∉ (l.take i).map nm->ok x->l.length<=4611686018427387904->R (i64.wrap ((i:Int)+1)))->body R (i:Int))
  (a:∀R,(∀x∈l,ok x)->(l.map nm).Nodup->body R (l.length:Int)) (hN:¬ (l.map nm).Nodup->N):ab body 0:=by
 refine af _ l.length (λi x=>x=(i:Int)/\(∀x∈l.take i,ok x)/\((l.take i).map nm).Nodup) (λR i x hi⟨e,h1,h2⟩ih=>?_) (λR x⟨e,h1,h2⟩=>?_) _ ⟨rfl,by simp,by simp⟩
 .grind [ac,aA]
 grind
theorem Kh(p:Lt.Program)(l:List Lt.Var)(KK:Bool->Prop)(h:KK (cH p l)):CU p l KK:=by
 unfold CU;unfold cH at h;refine ru l (·.Name) (λx=>gN p x.Type_=true) (KK false) (λR i x hi hx hm h1 h2 hl=>?_) (λR b hd _=>?_) (λhd=>by grind [mJ])
 .simp only[aF hi,Int.toNat_natCast,hx,hi,akW,and_self,true_and,if_true,ae];intro J a;have j:J (!gN p x.Type_):=a _ (by
   dsimp only;refine ifk (λhc=>?_) (λhc=>?_)
   .grind
   have:=m9 (l:=l) (nm:=(·.Name)) (A:=KK false) (B:=R (i64.wrap ((i:Int)+1))) hi hl (by grind) (by grind)
   grind)
  grind [gN]
 grind [mJ]
theorem Kf(p:Lt.Program)(hp:jy p)(KK:Bool->Prop)(h:KK (iv p)):CR p KK:=by
 unfold CR;have a:∀b1 b2 b3 d b b6:Bool,iv p=(b1&&b2&&b3&&d&&b&&b6)->(b1=false\/b2=false\/b3=false\/d=false\/b=false\/b6=false)->KK false:=by grind
 have a:=a _ _ _ _ _ _ rfl
 have u:∀x∈p.Classes,(!cH p x.Fields)=true->KK false:=λx hm hc=>by grind
 have v:∀x∈p.Funcs,(!(gN p x.Result&&cH p (x.Params++x.Vars)))=true->KK false:=λx hm hc=>by grind
 refine ifk (λhc=>a (by grind)) (λt=>?_);refine ru p.Classes (·.Name) (λc=>cH p c.Fields=true) (KK false) (λR i x hi hx hm h1 h2 hl=>?_) (λR n m _=>?_) (λhd=>a (.inl (decide_eq_false hd)))
 .rw[if_pos (aF hi)];have:=m9 (l:=p.Classes) (nm:=(·.Name)) (A:=KK false) (B:=(((0:Int)<=(i:Int)/\(i:Int).toNat<p.Classes.length)/\if !(cH p ((p.Classes.getD (i:Int).toNat default).Fields))then(KK false)else(R (i64.wrap ((i:Int)+1))))) hi hl (by grind) (by grind)
  exact this
 rw[if_neg (by simp)];refine ru p.Externs (·.Name) (λ_=>True) (KK false) (λR i x hi hx hm h1 h2 hl=>?_) (λR _ r _=>?_) (λhd=>a (.inr (.inl (decide_eq_false hd))))
 .rw[if_pos (aF hi)];exact m9 (l:=p.Externs) (nm:=(·.Name)) hi hl (by grind) (by grind)
 rw[if_neg (by simp)];refine ru p.Funcs (·.Name) (λf=>(gN p f.Result&&cH p (f.Params++f.Vars))=true) (KK false) (λR i x hi hx hm h1 h2 hl=>?_) (λR k g _=>?_) (λhd=>a (.inr (.inr (.inl (decide_eq_false hd)))))
 .rw[if_pos (aF hi)];refine m9 (l:=p.Funcs) (nm:=(·.Name)) hi hl (by grind) (λhn=>?_);rw[hx]at hn;rw[Int.toNat_natCast,hx];have hb:=hp x hm
  have e:(0:Int)<=(i:Int)/\i<p.Funcs.length:=⟨by omega,hi⟩
  refine⟨e,⟨by grind,by grind⟩,e,⟨by omega,by omega⟩,λJ o=>?_⟩;have j:J (az p x.Result).2:=o _ (by
   dsimp only;intro s q
   grind [gN])
  grind
 grind [iv,mJ]
theorem TH(f:Lt.Func)(t:Lt.Term)(KK:Bool->Prop)(h:KK (xF f t)):PC f t KK:=by
 unfold PC;dsimp only;unfold xF at h;intro J a
 grind
theorem ZU(n:Int)(h:(Lt.Of n).2=true):1<=n/\n<=34/\((n≠25/\n≠29/\n≠31/\n≠32/\n≠34)->1<=(Lt.Of n).1.Least)/\((n=27\/n=28)->2<=(Lt.Of n).1.Least)/\((n≠27/\n≠30/\n≠33/\n≠34)->(Lt.Of n).1.Dst=true):=by
 by_cases hn:1<=n/\n<=34
 .refine⟨hn.1,hn.2,?_⟩;obtain⟨k,rfl⟩:=alY (show 0<=n by omega);have:∀k:Fin 35,(((k.1:Int)≠25/\(k.1:Int)≠29/\(k.1:Int)≠31/\(k.1:Int)≠32/\(k.1:Int)≠34)->1<=(k.1:Int)->1<=(Lt.Of (k.1:Int)).1.Least)/\(((k.1:Int)=27\/(k.1:Int)=28)->2<=(Lt.Of (k.1:Int)).1.Least)/\(((k.1:Int)≠27/\(k.1:Int)≠30/\(k.1:Int)≠33/\(k.1:Int)≠34)->1<=(k.1:Int)->(Lt.Of (k.1:Int)).1.Dst=true):=by decide +kernel
  obtain⟨a,b,c⟩:=this ⟨k,by omega⟩
  grind
 unfold Lt.Of at h
 repeat rw[if_neg kQ1]at h
 cases h
theorem Kg(p:Lt.Program)(f:Lt.Func)(i:Lt.Instr)(hp:Oy p f i)(KK:Bool->Prop)(h:KK (jW p f i)):CS p f i KK:=by
 unfold CS;obtain⟨E,w,G,v⟩:=adM i.Op;rw[E,w,G,v];dsimp only;have hp:i.Args.length<=1000000:=hp
 have t:(iR f i&&i.Args.all λa=>(cw f a).2)=false->KK false:=λe=>by grind [jW,oV]
 intro J n;have j:J (!iR f i):=n _ (by
  dsimp only;refine ifk (λhc=>t (by grind)) (λhc=>?_);have hf:iR f i=true:=by grind
  refine dU i.Args (λ(q:List a8) (k:Int)=>(q,k)) (λr q=>(i.Args.all λa=>(cw f a).2)=(r.all λa=>(cw f a).2)/\q++lQ f r=lQ f i.Args) (λR q k x r hi hx _ ih hq=>?_) (λR q hq=>?_) _ ⟨rfl,rfl⟩
  .obtain⟨q2,m⟩:=hq;dsimp only;intro hl;rw[if_pos (aF hi)];refine⟨ob hi,?_⟩;rw[Int.toNat_natCast,hx]
   grind [lQ,akV]
  obtain⟨q2,m⟩:=hq;dsimp only;intro hl;rw[if_neg (by simp)];have m:q=lQ f i.Args:=by grind [lQ]
  rw[anA]at q2;unfold jW oV at h;rw[if_pos (by grind),ak9]at h;unfold iR at hf;simp only[akP,decide_eq_true_eq]at hf;obtain⟨f1,y,f3,H⟩:=hf;have D:q.length=i.Args.length:=by grind [lQ]
  rw[<- m]at h;obtain⟨o1,o2,o3,A,s⟩:=ZU _ f1;have hd:(Lt.Of i.Op).1.Dst=true->Jb f i=(dN f i.Dst).1.Type_:=λh=>by grind [Jb]
  generalize Jb f i=K at h hd;generalize(dN f i.Dst).1.Type_=d at hd|-;clear t n;refine λB l=>?_
  have M:B (if(15<=i.Op/\i.Op<=21)\/i.Op=23 then [102,108,111,97,116]else [105,110,116]):=l _ (by
   dsimp only;generalize hw:(if(15<=i.Op/\i.Op<=21)\/i.Op=23 then [102,108,111,97,116]else [105,110,116]:List UInt8)=want;refine λC g=>?_
   have L:C (if(15<=i.Op/\i.Op<=18)\/i.Op=22 then [102,108,111,97,116]else [105,110,116]):=g _ (by
    dsimp only;generalize hs:(if(15<=i.Op/\i.Op<=18)\/i.Op=22 then [102,108,111,97,116]else [105,110,116]:List UInt8)=set;refine λo b=>?_
    have F:KK (q.all (λx=>decide (x=want))&&decide (d=set))->o ():=λhk=>b _ (by
     dsimp only;refine cU q (λx=>decide (x=want)) (decide (d=set)) KK (λR k x hk hx _ ih hf hl=>?_) (λR h hl=>?_) hk
     all_goals grind [Int.toNat_natCast])
    clear b g l;unfold vC at h;dsimp only at h;simp only[decide_eq_true_eq];have hv:(i.Op≠27/\i.Op≠30/\i.Op≠33/\i.Op≠34)->K=d:=λx=>hd (s x)
    have P:(i.Op≠25/\i.Op≠29/\i.Op≠31/\i.Op≠32/\i.Op≠34)->0<q.length:=λx=>by omega
    have l1:(i.Op=27\/i.Op=28)->1<q.length:=λx=>by omega
    clear o3 A s hd f1 y f3 H q2 m;by_cases c:i.Op=24
    .grind
    by_cases c:i.Op=25
    .simp[c,BL]at h|-;refine λJ n=>?_;grind
    by_cases c:i.Op=26
    .simp[c,am,bL,ae,gy]at h|-;grind
    by_cases c:i.Op=27
    .simp[c,am,bL,ae,gy]at h|-;grind
    by_cases c:i.Op=28
    .simp[c,am,bL,ae,LC]at h|-;grind
    by_cases c:i.Op=29
    .grind [nS]
    by_cases c:i.Op=30
    .grind [nS]
    by_cases c:i.Op=31
    .simp[c,am,bL,ae]at h|-;grind
    by_cases c:i.Op=33
    .grind [gX]
    by_cases c:i.Op=34
    .grind
    by_cases c:i.Op=32
    .rw[if_neg kQ1]at hw hs;subst hw;subst hs;have e:=hv kQ1
     have h:KK ((gm p i.Name).2&&(decide ((q.length:Int)=(gm p i.Name).1.N)&&(q.all (λx=>decide (x=[105,110,116]))&&decide (d=[105,110,116])))):=by grind [lA,af3]
     simp only[c,bL,ae]
     grind
    have e:=hv kQ1
    have h:KK (q.all (λx=>decide (x=want))&&decide (d=set)):=by grind [lA,af3]
    grind)
   refine λz u=>?_
   grind)
  refine λO I=>?_
  grind)
 grind [iR]
end Go.Am
end

section
namespace Go.Am
open Go
open Lt (nmB toB Gd Rc uniq)
theorem Nq(f:Lt.Func)(s:a8)(KK:Int×Bool->Prop)(h:KK (aK f s)):GM f s KK:=by
 unfold GM;unfold aK at h;refine af _ f.Blocks.length (λi x=>x=(i:Int)/\KK (je s (f.Blocks.drop i) (i:Int))) (λR i x hi⟨e,h⟩ih hl=>?_) (λR x⟨e,h⟩hl=>?_) 0 ⟨rfl,h⟩
 .subst e;rw[dh _ hi]at h
  grind [je,ac]
 subst e;rw[if_neg (by simp)];rw[alZ]at h;exact h
theorem Nn(f:Lt.Func)(i k:Int)(hp:kz f i k)(KK:Bool->Prop)(h:KK (ip f i k)):GJ f i k KK:=by
 unfold GJ;unfold ip at h;have hb:0<=i/\i.toNat<f.Blocks.length:=by obtain⟨a,b⟩:=hp;omega
 simp only[hb,and_self,true_and];show ab _ _
 generalize hT:(f.Blocks.getD i.toNat default).End.To=T;have c:toB f.Blocks i.toNat=T:=hT
 rw[c]at h;refine af _ T.length (λj x=>x=(j:Int)/\KK ((T.drop j).any λs=>(aK f s).2&&decide ((aK f s).1=k))) (λR j x hj⟨e,h⟩ih hl=>?_) (λR x⟨e,h⟩hl=>?_) 0 ⟨rfl,h⟩
 .subst e;rw[dh _ hj,List.any_cons]at h;rw[if_pos (aF hj)];refine⟨ob hj,λJ d=>?_⟩
  grind [Int.toNat_natCast,ac]
 grind
variable{f:Lt.Func}
theorem nw(a:uniq f.Blocks)(i k:Int):ip f i k=true ↔ 0<=k/\k.toNat<f.Blocks.length/\nmB f.Blocks k.toNat∈toB f.Blocks i.toNat:=by
 unfold ip;rw[List.any_eq_true];constructor
 .grind [dK,aK]
 rintro⟨h0,h1,h2⟩
 refine⟨_,h2,?_⟩;have h3:=(dK (nmB f.Blocks k.toNat) f.Blocks 0).2 ⟨k.toNat,h1,rfl⟩
 obtain⟨j,b,d,c⟩:=(dK _ f.Blocks 0).1 h3;have e:=a j k.toNat b h1 c
 grind [aK]
def FN(f:Lt.Func)(l:List Bool):Prop:=l.length=f.Blocks.length/\∀k,l.getD k false=true->Rc f.Blocks k
theorem FN.set{l:List Bool}(h:FN f l){k:Nat}(hk:k<f.Blocks.length)(hr:Rc f.Blocks k):FN f (l.set k true):=by
 refine⟨by rw[amG];exact h.1,λj hj=>?_⟩;rw[dT (by rw[h.1];exact hk)]at hj;have:=h.2 j
 grind
def abM(f:Lt.Func)(l:List Bool)(i:Nat):Prop:=l.getD i false=true->∀k,k<f.Blocks.length->nmB f.Blocks k∈toB f.Blocks i->l.getD k false=true
theorem abP(l:List Bool)(k:Nat):iP (l.set k true)<=iP l:=by
 cases h:l.getD k true with
 |false=>grind [kS]
 |true=>
  have e:l.set k true=l:=by
   rcases al8 k l.length with h'|h'
   .refine al1 λj=>?_
    grind
   exact List.set_eq_of_length_le h'
  grind
theorem Tx(f:Lt.Func)(hp:K5 f)(KK:List Bool->Prop)(h:∀y,DV f y->KK y):Pv f KK:=by
 unfold Pv;obtain⟨hp,O⟩:=hp;dsimp only;have hn:((f.Blocks.length:Int)).toNat=f.Blocks.length:=Int.toNat_natCast _
 intro _;refine⟨⟨by omega,by omega,by omega⟩,λ_=>?_⟩;have G:FN f (List.replicate (f.Blocks.length:Int).toNat (dflt .bo)):=by
  refine⟨by simp,λk hk=>?_⟩;rw[List.getD,List.getElem?_replicate]at hk;split at hk
  .exact absurd hk (by show ¬ (default:Bool)=true;decide)
  grind
 refine mh (λx=>FN f x.1/\(x.2=true->0<f.Blocks.length)/\(x.2=false->0<f.Blocks.length->x.1.getD 0 false=true/\∀i,i<f.Blocks.length->abM f x.1 i)) (λx=>2*iP x.1+x.2.toNat) (λR x⟨hx,r,u⟩ih=>?_) _ ⟨G,λhb=>by grind,λhb h0=>by grind⟩
 obtain⟨l,b⟩:=x;dsimp only at hx r u ih|-;refine ifk (λhb=>?_) (λhb=>h l ⟨hx.1,λk hk=>⟨hx.2 k,λhr=>?_⟩⟩)
 rotate_left
 .obtain⟨h0,B⟩:=u (by grind) kQ1;induction hr with
  |first _=>exact h0
  |next i k _ hi hk hm ih=>exact B i hi (ih hi) k hk hm
 subst hb;have d:=r rfl
 have hl:=hx.1
 refine⟨⟨by omega,by omega⟩,by omega,?_⟩;have E:FN f (l.set 0 true):=hx.set d (.first d)
 have U:=abP l 0
 refine mh (λv=>FN f v.1/\v.1.getD 0 false=true/\iP v.1+v.2.1.toNat<=iP (l.set 0 true)/\0<=v.2.2/\v.2.2<=(f.Blocks.length:Int)/\(v.2.1=false->∀i:Nat,(i:Int)<v.2.2->abM f v.1 i)) (λv=>((f.Blocks.length:Int)-v.2.2).toNat) (λS v⟨h1,o,h2,h3,h4,h5⟩z=>?_) _ ⟨E,rL kQ1 _ _,by simp,by simp,by simp,λ_ i hi=>by grind⟩;obtain⟨Z,Y,i⟩:=v;dsimp only at h1 o h2 h3 h4 h5 z|-;intro _;have I:=h1.1
 rw[I];refine ifk (λhi=>?_) (λhi=>ih _ ⟨h1,λ_=>d,λhm _=>⟨o,λj hj=>h5 hm j (by grind)⟩⟩ ?_)
 rotate_left
 .grind
 have hi:i < (f.Blocks.length:Int):=by grind
 refine mh (λv=>FN f v.1/\v.1.getD 0 false=true/\iP v.1+v.2.1.toNat<=iP (l.set 0 true)/\0<=v.2.2/\v.2.2<=(f.Blocks.length:Int)/\(v.2.1=false->(∀j:Nat,(j:Int)<i->abM f v.1 j)/\(v.1.getD i.toNat false=true->∀k:Nat,(k:Int)<v.2.2->nmB f.Blocks k∈toB f.Blocks i.toNat->v.1.getD k false=true))) (λv=>((f.Blocks.length:Int)-v.2.2).toNat) (λW v⟨g1,n,g2,g3,g4,g5⟩s=>?_) _ ⟨h1,o,h2,by simp,by simp,λhm=>⟨h5 hm,λ_ k hk=>by grind⟩⟩;obtain⟨q,H,k⟩:=v;dsimp only at g1 n g2 g3 g4 g5 s|-;have N:=g1.1
 have c:(H=false->abM f q i.toNat)->S (q,H,i64.wrap (i+1)):=λB=>by
  rw[cF kQ1 kQ1];refine z _ ⟨g1,n,g2,by grind,by grind,λhm j hj=>?_⟩ (by grind);dsimp only at hj;rcases Int.lt_or_le (j:Int) i with h'|h'
  .grind
  grind (splits:=20)
 intro J7 C;rw[N];intro _;refine ifk (λhk=>⟨⟨h3,hi⟩,C _ ?_⟩) (λhk=>C _ (by dsimp only;rw[if_neg (by simp)];exact c λhm g k' A=>(g5 hm).2 g k' (by grind)))
 have hk:k < (f.Blocks.length:Int):=by grind
 dsimp only;refine ifk (λhm=>?_) (λhm=>c λ_ g=>absurd g hm);have J:Rc f.Blocks i.toNat:=g1.2 _ hm
 have on:∀p D,FN f p->p.getD 0 false=true->iP p+D.toNat<=iP (l.set 0 true)->(D=false->p=q/\H=false/\(nmB f.Blocks k.toNat∈toB f.Blocks i.toNat->q.getD k.toNat false=true))->W (p,D,i64.wrap (k+1)):=by
  intro p D k1 F k2 k3;rw[cF kQ1 kQ1];refine s _ ⟨k1,F,k2,by grind,by grind,λM=>?_⟩ (by grind);obtain⟨rfl,P,e3⟩:=k3 M;refine⟨(g5 P).1,λg k' A=>?_⟩;dsimp only at A;rcases Int.lt_or_le (k':Int) k with h'|h'
  .grind
  have:k'=k.toNat:=by omega
  grind
 intro J9 w Q m;refine⟨⟨g3,by omega⟩,?_⟩;have T:k.toNat<q.length:=by omega
 refine ifk (λK=>⟨⟨h3,hi⟩,m _ ?_⟩) (λK=>m _ ?_)
 .dsimp only;refine ifk (λa=>?_) (λa=>w _ (on _ _ g1 n g2 λL=>⟨rfl,L,λt=>absurd ((nw O i k).2 ⟨g3,by omega,t⟩) a⟩));obtain⟨_,q2,X⟩:=(nw O i k).1 a;refine⟨⟨g3,by omega⟩,by omega,w _ (on _ _ (g1.set q2 (.next i.toNat k.toNat J kQ1 q2 X)) ?_ ?_ λe=>by cases e)⟩
  .grind [dT]
  have V:q.getD k.toNat true=false:=by grind
  grind [kS]
 grind
theorem NC(f:Lt.Func)(hp:afK f)(KK:Bool->Prop)(h:KK (dF f)):GY f KK:=by
 unfold GY;have n:¬ Gd f.Blocks->KK false:=λq=>by grind [dF,As]
 have kT:Gd f.Blocks->KK true:=λq=>by grind [dF,qa]
 have hn:f.Blocks.length<=1000000:=hp
 have v:∀s z,aK f s=(z,true)->∃k:Nat,k<f.Blocks.length/\z=(k:Int)/\nmB f.Blocks k=s:=λs z e=>by grind [dK,aK]
 have r:∀i,i<f.Blocks.length->(aK f (nmB f.Blocks i)).2=true:=λi hi=>(dK _ f.Blocks 0).2 ⟨i,hi,rfl⟩
 refine af _ f.Blocks.length (λi x=>x=(i:Int)/\∀j,j<i->(aK f (nmB f.Blocks j)).1=(j:Int)/\(toB f.Blocks j).Nodup/\∀s∈toB f.Blocks j,(aK f s).2=true/\(aK f s).1≠0) (λR i x hi⟨hx,m⟩ih=>?_) (λR x⟨hx,m⟩=>?_) 0 ⟨rfl,λj hj=>by omega⟩
 .subst hx;dsimp only;intro _;rw[if_pos (aF hi)];refine⟨ob hi,?_⟩;rw[Int.toNat_natCast];refine ifk (λhc=>n λg=>?_) (λh1=>⟨⟨akW i,hi⟩,?_⟩)
  .grind [Gd.nd]
  have h1:(aK f (nmB f.Blocks i)).1=(i:Int):=by grind
  have d:Gd f.Blocks->(toB f.Blocks i).Nodup/\∀s∈toB f.Blocks i,(aK f s).2=true/\(aK f s).1≠0:=λg=>⟨g.tn i hi,λs hs=>by grind [Gd.tr,Gd.nd]⟩
  have c:∀T,T=toB f.Blocks i->T.Nodup->(∀s∈T,(aK f s).2=true/\(aK f s).1≠0)->R (i64.wrap ((i:Int)+1)):=λT e a b=>ih _ ⟨ac kQ1,λj hj=>by grind⟩
  show ab _ _
  have d:Gd f.Blocks->(f.Blocks.getD i default).End.To.Nodup/\∀s∈(f.Blocks.getD i default).End.To,(aK f s).2=true/\(aK f s).1≠0:=d
  have c:=c (f.Blocks.getD i default).End.To rfl
  generalize(f.Blocks.getD i default).End.To=T at d c;refine ru T id (λs=>(aK f s).2=true/\(aK f s).1≠0) (KK false) (λp k s hk hx hm h1 h2 hl=>?_) (λp w hd _=>?_) (λhd=>n λg=>hd (by grind [List.map_id]))
  .rw[if_pos (aF hk)];refine⟨ob hk,λJ t=>?_⟩;rw[Int.toNat_natCast,hx];have j:J (!(aK f s).2||decide ((aK f s).1=0)):=t _ (by
    dsimp only;refine ifk (λhc=>n λg=>?_) (λhc=>?_)
    .grind
    have:=m9 (l:=T) (nm:=id) (A:=KK false) (B:=p (i64.wrap ((k:Int)+1))) hk hl (by grind) (by grind)
    rw[hx]at this;rw[Int.toNat_natCast,hx];exact this)
   grind
  grind [List.map_id]
 subst hx;dsimp only;intro _;rw[if_neg (by simp)];have o:uniq f.Blocks:=λi j hi hj e=>by grind
 refine⟨⟨hn,o⟩,λy hy=>?_⟩;obtain⟨E,u⟩:=hy;refine af _ y.length (λi x=>x=(i:Int)/\∀j,j<i->y.getD j false=true) (λR i x hi⟨hx,ha⟩ih=>?_) (λR x⟨hx,ha⟩=>?_) 0 ⟨rfl,λj hj=>by omega⟩
 .subst hx;intro _;rw[if_pos (aF hi)];refine⟨ob hi,?_⟩;rw[Int.toNat_natCast];refine ifk (λhc=>n λg=>?_) (λhc=>ih _ ⟨ac kQ1,λj hj=>?_⟩)
  all_goals grind [Gd.re]
 subst hx;intro _;rw[if_neg (by simp)];intro _;by_cases h0:0<f.Blocks.length
 .rw[decide_eq_true kQ1];refine kT ⟨h0,o,λi hi=>(m i hi).2.1,λi hi s hs=>?_,λk hk=>(u k hk).1 (ha k kQ1)⟩;obtain⟨C,D⟩:=(m i hi).2.2 s hs
  grind
 rw[decide_eq_false kQ1];exact n λg=>h0 g.ps
end Go.Am
end

section
namespace Go.Am
open Go
open Lt (nmB toB Gd Rc uniq bkB phB bq Bare)
theorem Jm(s:a8):∀l:List a8,(l.filter λx=>Op.bytesLess x s).length+(l.filter λx=>!(Op.bytesLess x s||decide (x=s))).length<=l.length
 |[]=>akR _
 |x::l=>by
  have:=Jm s l
  grind
theorem Ns(l:List a8)(s:a8)(hp:YJ l s)(KK:List a8->Prop)(h:∀y,QT l s y->KK y):GO l s KK:=by
 unfold GO;have hp:l.length<=1000000:=hp
 have hf:=Jm s l
 have a:∀(p:a8->Bool)i,((l.take i).filter p).length<=l.length:=λp i=>alC (amC _ _) (amP _ _)
 refine af _ l.length (λi v=>v=((l.take i).filter (λx=>Op.bytesLess x s),(i:Int))) (λR i v hi e ih=>?_) (λR v e=>?_) _ rfl
 .subst e;have c:=a (λx=>Op.bytesLess x s) i
  dsimp only;intro _;rw[if_pos (aF hi)];refine λJ b=>⟨ob hi,?_⟩
  dsimp +instances only [Int.toNat_natCast]at b|-
  grind [ac,aA]
 subst e;rw[alI];have c:=a (λx=>Op.bytesLess x s) l.length
 rw[alI]at c;dsimp only;intro _;rw[if_neg (by simp)];refine⟨⟨by grind,by grind⟩,?_⟩;refine af _ l.length (λi v=>v=(l.filter (λx=>Op.bytesLess x s)++[s]++(l.take i).filter (λx=>!(Op.bytesLess x s||decide (x=s))),(i:Int))) (λR i v hi e ih=>?_) (λR v e=>?_) _ (by simp)
 .subst e;have d:=a (λx=>!(Op.bytesLess x s||decide (x=s))) i
  dsimp only;intro _;rw[if_pos (aF hi)];refine λJ b=>⟨ob hi,?_⟩
  dsimp +instances only [Int.toNat_natCast]at b|-
  have j:=b (l.filter (λx=>Op.bytesLess x s)++[s]++(l.take (i+1)).filter (λx=>!(Op.bytesLess x s||decide (x=s)))) (ih _ (by grind [ac]))
  rw[aA l hi,anB]at j
  grind
 subst e;dsimp only;intro _;rw[if_neg (by simp),alI];refine h _ ⟨by grind,λv=>?_⟩
 grind
theorem Nr(l:List a8)(a:Lt.Arg)(hp:yw l a)(KK:List a8->Prop)(h:∀y,rE l a y->KK y):GN l a KK:=by
 unfold GN;refine ifk (λhc=>⟨hp,λy⟨h1,h2⟩=>h y ⟨h1,λv=>?_⟩⟩) (λhc=>h l ⟨by omega,λv=>?_⟩)
 all_goals grind
def Ei(x:Lt.Instr):List Lt.Arg:=x.Args++(x.Frames.flatMap (λf=>f.Vars.map (·.A))++x.Objs.flatMap (·.Vals))
theorem UW(x:Lt.Instr):(Ei x).length=Ej x:=by grind [Ei,Ej,List.length_flatMap]
theorem UV(x:Lt.Instr)(v:a8):pG x v ↔ ∃a∈Ei x,a.Kind=1/\a.S=v:=by
 unfold Ei pG;simp only[ak3,amV,ak8]
 grind
def QU(KK:List a8->Prop)(out:List a8)(r:List Lt.Arg):Prop:=out.length+r.length<=1000000/\∀y,(∀v,v∈y ↔ v∈out\/∃a∈r,a.Kind=1/\a.S=v)->KK y
variable{KK:List a8->Prop}
theorem QU.step{out y:List a8}{a:Lt.Arg}{r:List Lt.Arg}(h:QU KK out (a::r))(hy:rE out a y):QU KK y r:=by
 obtain⟨h1,h2⟩:=h;obtain⟨h3,h4⟩:=hy;refine⟨by grind,λz hz=>h2 z λv=>?_⟩
 grind
theorem zq{α:Type}[Inhabited α]{body:(List a8×Int->Prop)->List a8×Int->Prop}{rest:List Lt.Arg}(l:List α)(ar:α->Lt.Arg)
  (hs:∀R(i:Nat)out x,i<l.length->l.getD i default=x->out.length<=1000000->(l.length<=4611686018427387904->∀y,rE out (ar x) y->R (y,i64.wrap ((i:Int)+1)))->body R (out,(i:Int)))
  (a:∀R out,QU KK out rest->body R (out,(l.length:Int))) (out:List a8) (h:QU KK out (l.map ar++rest)):ab body (out,0):=
 dU l (λq i=>(q,i)) (λr out=>QU KK out (r.map ar++rest)) (λR out i x r hi hx _ ih h=>hs R i out x hi hx (by have:=h.1;omega) λhl y hy=>ih hl y (h.step hy)) (λR out h=>a R out h) out h
theorem JZ(x:Lt.Instr)(hp:fP x)(KK:List a8->Prop)(h:∀y,uW x y->KK y):CN x KK:=by
 unfold CN;have hp:Ej x<=1000000:=hp
 have hq:QU KK [] (Ei x):=⟨by grind [UW],λy hy=>h y λv=>by grind [UV]⟩
 refine zq x.Args id (λR i out a hi hx c ih=>?_) (λR out hq=>?_) [] (rest:=x.Frames.flatMap (λf=>f.Vars.map (·.A))++x.Objs.flatMap (·.Vals)) (by simpa[Ei]using hq)
 .dsimp only;intro hl;rw[if_pos (aF hi)];refine⟨ob hi,c,λy hy=>?_⟩
  grind
 dsimp only;intro _;rw[if_neg (by simp)];refine dU x.Frames (λq i=>(q,i)) (λr out=>QU KK out (r.flatMap (λf=>f.Vars.map (·.A))++x.Objs.flatMap (·.Vals))) (λR out i f r hi hx _ ih hq=>?_) (λR out hq=>?_) out hq
 .dsimp only;intro hl;rw[if_pos (aF hi)];rw[alW,al2]at hq;rw[Int.toNat_natCast,hx];refine zq f.Vars (·.A) (λR j out a b d c e=>?_) (λR out hq=>?_) out hq
  .dsimp only;refine⟨⟨by omega,hi⟩,λg=>?_⟩;rw[if_pos (aF b)];refine⟨⟨by omega,hi⟩,ob b,c,λy hy=>?_⟩
   grind
  grind
 dsimp only;intro _;rw[if_neg (by simp)];refine dU x.Objs (λq i=>(q,i)) (λr out=>QU KK out (r.flatMap (·.Vals))) (λR out i f r hi hx _ ih hq=>?_) (λR out hq=>?_) out (by grind)
 .dsimp only;intro hl;rw[if_pos (aF hi)];rw[alW]at hq;rw[Int.toNat_natCast,hx];refine zq f.Vals id (λR j out a b d c e=>?_) (λR out hq=>?_) out (by simpa using hq)
  .dsimp only;refine⟨⟨by omega,hi⟩,λg=>?_⟩;rw[if_pos (aF b)];refine⟨⟨by omega,hi⟩,ob b,c,λy hy=>?_⟩
   grind
  grind
 dsimp only;intro _;rw[if_neg (by simp)];exact hq.2 _ λv=>by simp
end Go.Am
end

section
namespace Go.Am
open Go
open Lt (nmB toB Gd Rc uniq bkB phB bq Bare bO)
variable{body:(Int->Prop)->Int->Prop}
theorem Da{α:Type}[Inhabited α](l:List α)(p:α->Bool)(KK:Bool->Prop)
  (hs:∀R i x,i<l.length->l.getD i default=x->x∈l->(p x=true->KK true)->(l.length<=4611686018427387904->p x=false->R (i64.wrap ((i:Int)+1)))->body R (i:Int))
  (a:∀R,KK false->body R (l.length:Int)) (h:KK (l.any p)):ab body 0:=
 da l (λr=>KK (r.any p)) (λR i x r h1 h2 h3 h4 h5=>hs R i x h1 h2 h3 (λhp=>by grind) (λhl hp=>h4 hl (by grind))) (λR h=>a R (by grind)) h
theorem Fe(f:Lt.Func)(v:a8)(KK:Bool->Prop)(h:KK (qt f v)):yS f v KK:=by
 unfold yS;have e:qt f v=f.Params.any λx=>decide (x.Name=v):=by grind [qt]
 rw[e]at h;refine Da f.Params _ KK (λR i x hi hx hm h1 h2 hl=>?_) (λR h hl=>?_) h
 all_goals grind
theorem Nt(b:Lt.Block)(v:a8)(KK:Bool->Prop)(h:KK (wI b v)):GP b v KK:=by
 unfold GP;have e:wI b v=b.Phis.any λx=>decide (x.Dst=v):=by grind [wI]
 rw[e]at h;refine Da b.Phis _ KK (λR i x hi hx hm h1 h2 hl=>?_) (λR h hl=>?_) h
 all_goals grind
theorem Ka(b:Lt.Block)(n:Int)(v:a8)(hp:yx b n v)(KK:Bool->Prop)(h:KK (rG b n v)):CP b n v KK:=by
 unfold CP;unfold rG at h;obtain⟨h0,h1,h2⟩:=hp;obtain⟨n,rfl⟩:=alY h0;rw[Int.toNat_natCast]at h;have hs:∀i,i<b.Code.length->∀v,v∈bO b (i+1) ↔ v∈bO b i\/(v≠[]/\(b.Code.getD i default).Dst=v):=λi hi v=>by grind [bO,aA]
 have hm:∀i,i<n->v∈bO b (i+1)->v∈bO b n:=λi hi hv=>by
  unfold bO at hv|-;have:b.Code.take (i+1)=(b.Code.take n).take (i+1):=by grind
  grind
 refine af _ n (λi x=>x=(i:Int)/\v ∉ bO b i) (λR i x hi⟨e,hn⟩ih=>?_) (λR x⟨e,hn⟩=>?_) 0 ⟨rfl,by simp[bO]⟩
 .subst e;rw[if_pos (aF hi)];refine λJ a=>?_
  grind [Int.toNat_natCast,ac]
 grind
def CLv(f:Lt.Func)(v:a8)(o:List Bool)(i:Nat):Prop:=v ∉ bq (bkB f i)->∀k,k<f.Blocks.length->nmB f.Blocks k∈toB f.Blocks i->v ∉ phB f k->o.getD k false=true
structure BI (f:Lt.Func) (v:a8) (l o:List Bool):Prop where
 len:o.length=f.Blocks.length
 sd:∀k,o.getD k false=true->Bare f v k/\v ∉ phB f k
 mono:∀k,l.getD k false=true->o.getD k false=true
 less:o=l\/iP o<iP l
 cl:(∀i,i<f.Blocks.length->l.getD i false=true->CLv f v l i)->o=l
variable{o:List Bool}
theorem UE{k:Nat}(h:o.getD k false=true):o.set k true=o:=by
 refine al1 λj=>?_
 grind
theorem BI.set{f:Lt.Func}{v:a8}{l:List Bool}(h:BI f v l o){i k:Nat}(hi:i<f.Blocks.length)(ho:o.getD i false=true)(hs:v ∉ bq (bkB f i))(hk:k<f.Blocks.length)(he:nmB f.Blocks k∈toB f.Blocks i)(hp:v ∉ phB f k):BI f v l (o.set k true):=by
 have hl:k<o.length:=by grind [len]
 by_cases hc:o.getD k false=true
 .grind [UE]
 have hb:=h.sd i ho
 have hct:=kS o k (by grind)
 refine⟨by grind [len],λj hj=>?_,λj hj=>?_,?_,λhcl=>?_⟩
 .rw[dT hl]at hj;by_cases e:j=k
  .subst e;exact⟨.next i j hb.1 hb.2 hs hi hk he,hp⟩
  grind [sd]
 .grind [dT,mono]
 .rcases h.less with rfl|hlt
  all_goals omega
 have e:=h.cl hcl
 subst e;exact absurd (hcl i hi ho hs k hk he hp) hc
theorem J0(f:Lt.Func)(v:a8)(hp:FU f v)(KK:List Bool->Prop)(h:∀y,K3 f v y->KK y):CO f v KK:=by
 unfold CO;obtain⟨hn,B,X,d⟩:=hp;unfold wI rG qt;dsimp only;have hz:((f.Blocks.length:Int)).toNat=f.Blocks.length:=Int.toNat_natCast _
 rw[hz];intro _;have hr:(List.replicate f.Blocks.length (dflt .bo):List Bool).length=f.Blocks.length:=amI
 refine⟨⟨by omega,by omega,by omega⟩,λJ hJ=>?_⟩;have F:∀k,(List.replicate f.Blocks.length (dflt .bo):List Bool).getD k false=true->False:=λk hk=>by
  rw[List.getD,List.getElem?_replicate]at hk;split at hk
  .exact absurd hk (by show ¬ (default:Bool)=true;decide)
  grind
 have j:J ((List.replicate f.Blocks.length (dflt .bo):List Bool).set 0 (!decide (v∈f.Params.map (·.Name))&&!decide (v∈phB f 0))):=hJ _ (by
  dsimp only;generalize g:(!decide (v∈f.Params.map (·.Name))&&!decide (v∈phB f 0))=b0;have O:((List.replicate f.Blocks.length (dflt .bo):List Bool).set 0 b0).length=f.Blocks.length:=by grind
  have D:∀k,((List.replicate f.Blocks.length (dflt .bo):List Bool).set 0 b0).getD k false=true->Bare f v k/\v ∉ phB f k:=λk hk=>by
   by_cases e:k=0
   .subst e;rw[rL kQ1]at hk;subst hk;have g:v ∉ f.Params.map (·.Name)/\v ∉ phB f 0:=by grind
    exact⟨.first g.1,g.2⟩
   rw[List.getD,am0 (λe'=>e e'.symm)]at hk;exact(F k hk).elim
  have p:(∀i,i<f.Blocks.length->((List.replicate f.Blocks.length (dflt .bo):List Bool).set 0 b0).getD i false=true->CLv f v ((List.replicate f.Blocks.length (dflt .bo):List Bool).set 0 b0) i)\/iP ((List.replicate f.Blocks.length (dflt .bo):List Bool).set 0 b0)+0+1<=f.Blocks.length:=by
   cases b0 with
   |false=>
    refine .inl λi hi hl=>?_
    by_cases e:i=0
    .grind
    rw[List.getD,am0 (λe'=>e e'.symm)]at hl;exact(F i hl).elim
   |true=>
    have h1:=kS (List.replicate f.Blocks.length (dflt .bo):List Bool) 0 (by rw[List.getD,List.getElem?_replicate,if_pos B];rfl)
    grind [iP]
  refine af _ f.Blocks.length (λt x=>x.2=(t:Int)/\x.1.length=f.Blocks.length/\(∀k,x.1.getD k false=true->Bare f v k/\v ∉ phB f k)/\(b0=true->x.1.getD 0 false=true)/\((∀i,i<f.Blocks.length->x.1.getD i false=true->CLv f v x.1 i)\/iP x.1+t+1<=f.Blocks.length)) (λR3 t x ht⟨e,h1,h2,h3,h4⟩Q=>?_) (λR3 x⟨e,h1,h2,h3,h4⟩=>?_) _ ⟨rfl,O,D,λe=>by grind,p⟩
  .obtain⟨a,r⟩:=x;dsimp only at e h1 h2 h3 h4|-;subst e;intro _;rw[if_pos (aF ht)];have m:BI f v a a:=⟨h1,h2,λ_ h=>h,.inl rfl,λ_=>rfl⟩
   refine af _ f.Blocks.length (λi x=>x.2=(i:Int)/\BI f v a x.1/\∀j,j<i->a.getD j false=true->CLv f v x.1 j) (λW i x hi⟨e,g1,g2⟩I=>?_) (λW x⟨e,g1,g2⟩=>?_) _ ⟨rfl,m,λj hj=>by omega⟩
   .obtain⟨b,r⟩:=x;dsimp only at e g1 g2|-;subst e;intro _;rw[if_pos (aF hi)];rw[Int.toNat_natCast];have ae:i<b.length:=by grind [BI.len]
    have n:∀o,BI f v a o->(∀k,b.getD k false=true->o.getD k false=true)->(a.getD i false=true->CLv f v o i)->W (o,i64.wrap ((i:Int)+1)):=λo S hm hc=>I _ ⟨ac kQ1,S,λj hj hl=>by
     rcases al8 j i with h'|h'
     .exact λhs k hk z hp=>hm k (g2 j h' hl hs k hk z hp)
     grind⟩
    intro J7 C;have q:b.getD i default=b.getD i false:=rfl
    rw[q];have K:bO (bkB f i) (bkB f i).Code.length=bq (bkB f i):=by grind [bO,bq]
    have M:yx (bkB f i) ((bkB f i).Code.length:Int) v:=⟨by omega,by omega,d _ (au _ hi)⟩
    refine λJ9 N=>⟨⟨by omega,by omega⟩,?_⟩
    have V:J9 (!b.getD i false||decide (v∈bq (bkB f i))):=N _ (by
     dsimp only;refine ifk (λhc=>C _ (n _ g1 (λ_ h=>h) λhl hs=>?_)) (λhc=>?_)
     .grind [BI.mono]
     have hc:b.getD i false=true/\v ∉ bq (bkB f i):=by grind
     refine af _ f.Blocks.length (λk x=>x.2=(k:Int)/\BI f v a x.1/\(∀j,b.getD j false=true->x.1.getD j false=true)/\∀j,j<k->nmB f.Blocks j∈toB f.Blocks i->v ∉ phB f j->x.1.getD j false=true) (λl k x hk⟨e,w,q2,G⟩s=>?_) (λl x⟨e,w,q2,G⟩=>?_) _ ⟨rfl,g1,λ_ h=>h,λj hj=>by omega⟩
     .obtain⟨o,r⟩:=x;dsimp only at e w q2 G|-;subst e;intro _;rw[if_pos (aF hk)];rw[Int.toNat_natCast];have E:k<o.length:=by grind [BI.len]
      have H:=nw X (i:Int) (k:Int)
      rw[Int.toNat_natCast,Int.toNat_natCast]at H;have on:∀o',BI f v a o'->(∀j,o.getD j false=true->o'.getD j false=true)->(nmB f.Blocks k∈toB f.Blocks i->v ∉ phB f k->o'.getD k false=true)->l (o',i64.wrap ((k:Int)+1)):=λo' S hm hc=>s _ ⟨ac kQ1,S,λj hj=>hm j (q2 j hj),λj hj z hp=>by grind⟩
      intro ad c U A;refine⟨⟨by omega,by omega⟩,?_⟩;have aa:U (ip f (i:Int) (k:Int)&&!decide (v∈phB f k)):=A _ (by
       dsimp only;refine ifk (λL=>⟨⟨by omega,by omega⟩,E,c _ (on _ ?_ (λj hj=>?_) λ_ _=>rL E _ _)⟩) (λL=>c _ (on _ w (λ_ h=>h) λz hp=>?_))
       .grind [BI.set]
       .grind [dT]
       grind)
      grind
     obtain⟨o,r⟩:=x;dsimp only at e w q2 G|-;subst e;intro _;rw[if_neg (by simp)];exact C _ (n _ w q2 λ_ _ k hk=>G k hk))
    have u:decide (v∈bO (bkB f i) (bkB f i).Code.length)=decide (v∈bq (bkB f i)):=by rw[K]
    refine ifk (λhc=>?_) (λhc=>⟨⟨by omega,hi⟩,⟨by omega,hi⟩,M,?_⟩)
    .grind
    rw[show(!b.getD i false)=false from by grind,Bool.false_or,<- u]at V;exact V
   obtain⟨b,r⟩:=x;dsimp only at e g1 g2|-;subst e;intro _;rw[if_neg (by simp)];refine Q _ ⟨ac kQ1,g1.len,g1.sd,λhb=>g1.mono 0 (h3 hb),?_⟩;dsimp only;rcases g1.less with e|Z
   all_goals grind [BI.cl]
  obtain⟨a,r⟩:=x;dsimp only at e h1 h2 h3 h4|-;subst e;intro _;rw[if_neg (by simp)];have T:∀i,i<f.Blocks.length->a.getD i false=true->CLv f v a i:=h4.resolve_right kQ1
  refine h _ ⟨h1,λk hk=>⟨h2 k,λ⟨hb,R⟩=>?_⟩⟩;clear hk;induction hb with
  |first Y=>grind
  |next i k ag ab P hi hk z ih=>exact T i hi (by grind) P k hk z R)
 grind
theorem Fd(f:Lt.Func)(b n:Int)(v:a8)(hp:qm f b n v)(KK:Bool->Prop)(h:KK (gl f b n v)):yR f b n v KK:=by
 unfold yR;obtain⟨hp,h1,h2,h3,h4⟩:=hp;obtain⟨i,rfl⟩:=alY h1;have hi:i<f.Blocks.length:=by omega
 refine⟨hp,λy⟨c,a⟩=>⟨ob kQ1,?_⟩⟩;rw[Int.toNat_natCast]at h4|-;have hy:=a i hi
 unfold gl at h;rw[Int.toNat_natCast]at h;refine ifk (λhc=>?_) (λhc=>⟨⟨by omega,hi⟩,⟨h3,h4,hp.2.2.2 _ (au _ hi)⟩,?_⟩)
 all_goals grind [rG,bO,oJ]
theorem cr(n:Nat)(Q:Nat->Prop)(N:Prop)(hs:∀R (i:Nat),i<n->(¬ Q i->N)->(n<=4611686018427387904->Q i->R (i64.wrap ((i:Int)+1)))->body R (i:Int))
  (a:∀R,(∀i,i<n->Q i)->body R (n:Int)) (hN:∀i,i<n->¬ Q i->N):ab body 0:=by
 refine af _ n (λi x=>x=(i:Int)/\∀j,j<i->Q j) (λR i x hi⟨e,h⟩ih=>?_) (λR x⟨e,h⟩=>?_) 0 ⟨rfl,λj hj=>by omega⟩
 all_goals grind [ac]
def Th(f:Lt.Func)(i:Nat)(x:Lt.In):Prop:=∀k,k<f.Blocks.length->nmB f.Blocks k=x.Block->nmB f.Blocks i∈toB f.Blocks k->x.A.Kind=1->zn f k x.A.S
theorem Ff(f:Lt.Func)(hp:QW f)(KK:Bool->Prop)(h:KK (gr f)):yT f KK:=by
 unfold yT;unfold gr at h;obtain⟨⟨T,Y,ac,u⟩,M⟩:=hp;have D:uniq f.Blocks:=Y.nd
 have pre:∀v,FU f v:=λv=>⟨T.1,Y.ps,D,λb hb=>(u b hb).2⟩
 have K:¬ ((∀k,k<f.Blocks.length->lL (λv=>¬ Bare f v k\/v∈phB f k) (bkB f k))/\pz f)->KK false:=λhn=>by grind [As]
 have E:∀k,k<f.Blocks.length->¬ lL (λv=>¬ Bare f v k\/v∈phB f k) (bkB f k)->KK false:=λk hk hn=>K λa=>hn (a.1 k hk)
 have c:pz f ↔ ∀k,k<f.Blocks.length->∀x∈(bkB f k).Phis,∀i∈x.Ins,Th f k i:=by
  constructor
  .exact λa k hk x hx i hi j hj h1 h2 h3=>a _ (au _ hk) x hx i hi j hj h1 h2 h3
  intro a b hb x hx i hi j hj h1 h2 h3;obtain⟨k,hk,e⟩:=alD.1 hb;have e:bkB f k=b:=by grind
  subst e;exact a k hk x hx i hi j hj h1 h2 h3
 have kP:∀k,k<f.Blocks.length->∀x∈(bkB f k).Phis,∀i∈x.Ins,¬ Th f k i->KK false:=λk hk x hx i hi hn=>K λa=>hn (c.1 a.2 k hk x hx i hi)
 refine cr f.Blocks.length (λk=>lL (λv=>¬ Bare f v k\/v∈phB f k) (bkB f k)/\∀x∈(bkB f k).Phis,∀i∈x.Ins,Th f k i) (KK false) (λR k hk hN ih=>?_) (λR hA _=>?_) (λk hk hn=>K λa=>hn ⟨a.1 k hk,c.1 a.2 k hk⟩)
 rotate_left
 .grind [qa]
 dsimp only;intro hl;rw[if_pos (aF hk),Int.toNat_natCast];refine⟨by omega,?_⟩;have hb:=u _ (au _ hk)
 have F:=M _ (au _ hk)
 have ih:=ih hl
 have E:=E k hk
 have kP:=kP k hk
 have C:∀(n:Nat)v,gl f (k:Int) (n:Int) v=true ↔ (¬ Bare f v k\/v∈phB f k)\/v∈bO (bkB f k) n:=λn v=>by grind [gl,oJ,Int.toNat_natCast]
 have ah:∀(n:Nat)v,n<=(bkB f k).Code.length->qm f (k:Int) (n:Int) v:=λn v hn=>⟨pre v,by omega,by omega,by omega,by grind⟩
 show ab _ _
 have ag:(bkB f k).Name=nmB f.Blocks k:=rfl
 have L:bO (bkB f k) (bkB f k).Code.length=bq (bkB f k):=by grind [bO,bq]
 refine cr (bkB f k).Code.length (λj=>∀v,pG ((bkB f k).Code.getD j default) v->(¬ Bare f v k\/v∈phB f k)\/v∈bO (bkB f k) j) (KK false) (λR3 j hj O N=>?_) (λR3 U=>?_) (λj hj hn=>E λa=>hn (a.1 j hj))
 .intro P;rw[if_pos (aF hj)];refine⟨ob hj,F _ (au _ hj),λy hy=>?_⟩;rw[Int.toNat_natCast]at hy;refine cr y.length (λq=>(¬ Bare f (y.getD q default) k\/(y.getD q default)∈phB f k)\/(y.getD q default)∈bO (bkB f k) j) (KK false) (λR6 q hq ai ad af=>?_) (λR6 ae _=>?_) (λq hq hn=>O λa=>hn (a _ ((hy _).1 (au _ hq))))
  .grind [Int.toNat_natCast]
  rw[if_neg (by simp)];refine N P λv hv=>?_
  obtain⟨q,hq,e⟩:=alD.1 ((hy v).2 hv)
  grind
 intro _;rw[if_neg (by simp)];refine λJ hJ=>?_
 have p:=C (bkB f k).Code.length (bkB f k).End.A.S
 rw[L]at p;have j:J (decide (((bkB f k).End.Kind=2\/(bkB f k).End.Kind=3)/\(bkB f k).End.A.Kind=1)&&!gl f (k:Int) ((bkB f k).Code.length:Int) (bkB f k).End.A.S):=hJ _ (by
  dsimp only;refine ifk (λhc=>E λa=>?_) (λhc=>?_)
  .have:=a.2
   grind
  have t:lL (λv=>¬ Bare f v k\/v∈phB f k) (bkB f k):=⟨U,λh1 h2=>p.1 (by grind)⟩
  refine cr (bkB f k).Phis.length (λj=>∀i∈((bkB f k).Phis.getD j default).Ins,Th f k i) (KK false) (λV j hj l w=>?_) (λV z=>?_) (λj hj hn=>by grind)
  .intro Z;rw[if_pos (aF hj),Int.toNat_natCast];generalize hI:((bkB f k).Phis.getD j default).Ins=I at l w;refine cr I.length (λq=>Th f k (I.getD q default)) (KK false) (λX q hq m o=>?_) (λX aa=>?_) (λq hq hn=>l λa=>hn (a _ (au _ hq)))
   .refine⟨⟨by omega,hj⟩,λB=>?_⟩;rw[if_pos (aF hq),Int.toNat_natCast];refine⟨⟨by omega,hj⟩,⟨by omega,hq⟩,λH g=>?_⟩;generalize I.getD q default=x at m o g|-;have hn:Th f k x->H false:=λa=>g _ (by grind)
    refine ifk (λh1=>ifk (λh2=>?_) (λh2=>hn λ_ _ _ _ h3=>absurd (decide_eq_true h3) h2)) (λh1=>hn λk' d e _ _=>?_)
    rotate_left
    .exact absurd ((dK x.Block f.Blocks 0).2 ⟨k',d,e⟩) h1
    obtain⟨k',d,e1,G⟩:=(dK x.Block f.Blocks 0).1 h1;have e1:(aK f x.Block).1=(k':Int):=by grind [aK]
    rw[e1];have r:=nw D (k':Int) (k:Int)
    rw[Int.toNat_natCast,Int.toNat_natCast]at r;refine⟨⟨by omega,by omega⟩,ifk (λh3=>?_) (λh3=>hn λk2 s Q h4 _=>absurd (r.2 ⟨by omega,hk,?_⟩) h3)⟩
    rotate_left
    .rw[D k' k2 d s (G.trans Q.symm)];exact h4
    rw[Int.toNat_natCast];have W:gl f (k':Int) ((bkB f k').Code.length:Int) x.A.S=true ↔ zn f k' x.A.S:=by grind [gl,zn,bO,bq,oJ,Int.toNat_natCast]
    refine⟨⟨by omega,d⟩,⟨pre _,by omega,by omega,by omega,by grind [Int.toNat_natCast]⟩,g _ ?_⟩;dsimp only;refine ifk (λhc=>m λa=>?_) (λhc=>o B λk2 s Q h4 h5=>?_)
    .have:=W.2 (a k' d G (r.1 h3).2.2 (of_decide_eq_true h2))
     grind
    rw[<- D k' k2 d s (G.trans Q.symm)]
    grind
   grind [alD]
  intro _;rw[if_neg (by simp)];refine ih ⟨t,λx hx=>?_⟩;obtain⟨q,hq,e⟩:=alD.1 hx;have:=z q hq
  grind)
 grind
end Go.Am
end

section
namespace Go.Am
open Go
open Lt (nmB toB Gd Rc uniq bkB phB bq bO)
theorem TG(f:Lt.Func)(x:Lt.Instr)(a:Lt.Arg)(KK:a8×Bool->Prop)(h:KK (Lt.vOf f x a)):PB f x a KK:=by
 unfold PB;unfold Lt.vOf o7 at h;refine ifk (λhc=>?_) (λhc=>?_)
 .have hc:=of_decide_eq_true hc
  refine λJ c=>?_
  have j:=c (!decide (0<=a.N/\a.N < (x.Objs.length:Int))) (by
   dsimp only;refine ifk (λb=>?_) (λb=>⟨by grind,?_⟩)
   .have hn:¬ (a.Kind=5/\0<=a.N/\a.N < (x.Objs.length:Int)):=by grind
    rw[if_neg hn,if_neg (by simp)]at h;unfold cw at h;simpa[hc]using h
   have hn:a.Kind=5/\0<=a.N/\a.N < (x.Objs.length:Int):=by grind
   rw[if_pos hn,if_pos rfl]at h;exact h)
  grind
 have hn:¬ (a.Kind=5/\0<=a.N/\a.N < (x.Objs.length:Int)):=by grind
 rw[if_neg hn,if_neg (by simp)]at h;exact h
theorem Dr(f:Lt.Func)(i:Lt.Instr):∀(l:List Lt.Bind)(K:List a8),Ae f i l K=true ↔ (∀b∈l,(Lt.vOf f i b.A).2=true/\b.Name ∉ K)/\(l.map (·.Name)).Nodup
 |[],K=>by simp[Ae]
 |b::r,K=>by
  have:=Dr f i r (K++[b.Name])
  unfold Ae;rw[List.map_cons,alG];simp only[ak3,ak6,ak8,akX]at *
  grind
theorem Ek(f:Lt.Func)(i:Lt.Instr):∀(l:List Lt.Arg)(v:List Lt.Var),l.length=v.length->(xT f i l v=true ↔ ∀k,k<v.length->(Lt.vOf f i (l.getD k default)).2=true/\bB (Lt.vOf f i (l.getD k default)).1 (v.getD k default).Type_=true)
 |[],[],_=>by simp[xT]
 |a::l,x::v,h=>by
  have ih:=Ek f i l v (by simpa using h)
  unfold xT;rw[akP,akP,ih];constructor
  .rintro⟨h1,h2,h3⟩ k hk
   cases k with
   |zero=>exact⟨h1,h2⟩
   |succ k=>exact h3 k (by simpa using hk)
  intro h;exact⟨(h 0 (by simp)).1,(h 0 (by simp)).2,λk hk=>h (k+1) (by simpa using hk)⟩
theorem Fg(p:Lt.Program)(f:Lt.Func)(x:Lt.Instr)(KK:Bool->Prop)(h:KK (lE p f x)):yU p f x KK:=by
 unfold yU;unfold lE at h;have D:∀q∈x.Frames,oZ f x q=false->KK false:=λq hq e=>by rw[al9.2 ⟨q,hq,by simp[e]⟩,alX]at h;exact h
 have H:∀q∈x.Objs,sv p f x q=false->KK false:=λq hq e=>by rw[show x.Objs.all (sv p f x)=false from al9.2 ⟨q,hq,by simp[e]⟩,alX,Bool.and_false]at h;exact h
 refine cr x.Frames.length (λi=>oZ f x (x.Frames.getD i default)=true) (KK false) (λR i hi hN ih=>?_) (λR t=>?_) (λi hi hn=>D _ (au _ hi) (by simpa using hn))
 .dsimp only;intro hl;rw[if_pos (aF hi),Int.toNat_natCast];refine⟨by omega,?_⟩;have ih:=ih hl
  generalize x.Frames.getD i default=q at hN ih;have hv:oZ f x q=true ↔ _:=Dr f x q.Vars []
  refine ru q.Vars (·.Name) (λb=>(Lt.vOf f x b.A).2=true) (KK false) (λz j b hj hx hm h1 h2 c=>?_) (λz I hd c=>?_) (λhd=>hN λe=>hd (hv.1 e).2)
  .rw[if_pos (aF hj),Int.toNat_natCast,hx];refine⟨by omega,ifk (λhc=>hN λe=>?_) (λhc=>?_)⟩
   .have:=((hv.1 e).1 b hm).1
    grind
   have:=m9 (l:=q.Vars) (nm:=(·.Name)) (A:=KK false) (B:=z (i64.wrap ((j:Int)+1))) hj c (by rw[hx];exact h1) (by rw[hx];exact λhn=>h2 hn (by grind) c)
   rw[hx]at this;exact this
  rw[if_neg (by simp)];exact ih (hv.2 ⟨λb hb=>⟨I b hb,by simp⟩,hd⟩)
 dsimp only;intro _;rw[if_neg (by simp)];have v:x.Frames.all (oZ f x)=true:=ak0.2 λy hy=>by
  obtain⟨q,hq,e⟩:=alD.1 hy;have:=t q hq
  rw[List.getD,akQ hq,alK,e]at this;exact this
 rw[v,ak9]at h;refine cr x.Objs.length (λi=>sv p f x (x.Objs.getD i default)=true) (KK false) (λR i hi hN ih=>?_) (λR t=>?_) (λi hi hn=>H _ (au _ hi) (by simpa using hn))
 .try dsimp only
  intro hl;rw[if_pos (aF hi),Int.toNat_natCast];have ih:=ih hl
  generalize x.Objs.getD i default=q at hN ih;have m:(0:Int)<=(i:Int)/\i<x.Objs.length:=by omega
  unfold sv at hN ih;intro J E;have j:J ((az p q.Class).2,(az p q.Class).1):=E _ (by
   dsimp only;intro F u;have L:F (!((az p q.Class).2&&decide (((az p q.Class).1.Fields.length:Int)=(q.Vals.length:Int)))):=u _ (by
    dsimp only;refine ifk (λhc=>hN (by grind)) (λhc=>?_);have hc:(az p q.Class).2=true/\((az p q.Class).1.Fields.length:Int)=(q.Vals.length:Int):=by grind
    generalize(az p q.Class).1.Fields=V at hN ih hc;rw[hc.1,decide_eq_true hc.2,ak9,ak9,Ek f x q.Vals V kQ1]at hN ih;refine cr V.length (λk=>(Lt.vOf f x (q.Vals.getD k default)).2=true/\bB (Lt.vOf f x (q.Vals.getD k default)).1 (V.getD k default).Type_=true) (KK false) (λr k hk d o a=>?_) (λr g a=>?_) (λk hk hn=>hN λG=>hn (G k hk))
    .rw[if_pos (aF hk),Int.toNat_natCast];refine⟨m,⟨by omega,by omega⟩,λK n=>?_⟩;have C:=n (!((Lt.vOf f x (q.Vals.getD k default)).2&&bB (Lt.vOf f x (q.Vals.getD k default)).1 (V.getD k default).Type_)) (by dsimp only;exact ifk (λs=>d (by grind)) (λs=>o a (by grind)))
     grind
    rw[if_neg (by simp)];exact ih g)
   grind)
  exact⟨⟨⟨m,j,j⟩,m,j⟩,⟨m,⟨j,j⟩,j⟩,m,j⟩
 try dsimp only
 intro _;rw[if_neg (by simp)];have w:x.Objs.all (sv p f x)=true:=ak0.2 λy hy=>by
  obtain⟨q,hq,e⟩:=alD.1 hy;have:=t q hq
  rw[List.getD,akQ hq,alK,e]at this;exact this
 rw[w,ak9]at h;exact λ_=>h
theorem Lr(b:Lt.Block){i:Nat}(hi:i<b.Code.length):bO b (i+1)=bO b i++(if(b.Code.getD i default).Dst=[]then []else [(b.Code.getD i default).Dst]):=by
 unfold bO;rw[aA _ hi,al0,anB,List.map_cons,List.map_nil]
 congr 1
 rw[List.filter_cons,List.filter_nil];split<;>split<;>grind
theorem Kc(f:Lt.Func)(v:a8)(hp:rF f v)(KK:Int->Prop)(h:KK (u9 f v)):CQ f v KK:=by
 unfold CQ;obtain⟨hn,hb⟩:=hp;have r:∀i,(cx (f.Blocks.take i)).length<=2000000000000:=λi=>by
  have h1:=pY (λb:Lt.Block=>b.Phis.map (·.Dst)++bq b) 2000000 (f.Blocks.take i) (λb y=>by
   have:=hb b (amE y)
   rw[ak1,akV];have:(bq b).length<=b.Code.length:=by unfold bq;exact alC (amC _ _) (by rw[akV];exact akR _)
   omega)
  have h2:(f.Blocks.take i).length<=1000000:=alC (amP _ _) hn
  unfold cx;exact alC h1 kQ1
 refine af _ f.Blocks.length (λi x=>x=(((cx (f.Blocks.take i)).count v:Int),(i:Int))) (λR i x hi e ih=>?_) (λR x e=>?_) _ (by simp[cx])
 .subst e;dsimp only;intro _;rw[if_pos (aF hi),Int.toNat_natCast];have q:(0:Int)<=(i:Int)/\i<f.Blocks.length:=by omega
  have h0:=alC (amF (a:=v) (l:=cx (f.Blocks.take i))) (r i)
  have hs:cx (f.Blocks.take (i+1))=cx (f.Blocks.take i)++((f.Blocks.getD i default).Phis.map (·.Dst)++bq (f.Blocks.getD i default)):=by unfold cx;rw[aA _ hi,List.flatMap_append];simp
  have g:=hb _ (au _ hi)
  have m:=ih _ rfl
  rw[hs,am2,am2,<- ac (i:=i) kQ1]at m;clear ih hs;generalize(cx (f.Blocks.take i)).count v=c at h0 m|-;generalize f.Blocks.getD i default=b at m g;have o:∀n:Nat,n<=4000000000000->i64.wrap ((n:Int)+1)=((n+1:Nat):Int):=λn hn=>by rw[ac kQ1]
  refine af _ b.Phis.length (λj x=>x=(((c+((b.Phis.take j).map (·.Dst)).count v:Nat):Int),(j:Int))) (λD j x hj e s=>?_) (λD x e=>?_) _ (by simp)
  .subst e;dsimp only;refine⟨q,λ_=>?_⟩;rw[if_pos (aF hj)];refine λJ w=>⟨q,ob hj,?_⟩
   have t:((b.Phis.take j).map (·.Dst)).count v<=1000000:=alC amF (by rw[akV];exact alC (amP _ _) g.1)
   have k:=w _ (s _ (by rw[ac (i:=j) kQ1]))
   rw[aA _ hj,al0,am2,List.map_cons,List.map_nil,anE,List.count_nil]at k;rw[Int.toNat_natCast];refine ifk (λhc=>?_) (λhc=>?_)
   .rw[if_pos (by simpa using hc)]at k;rw[o _ kQ1];exact k
   rw[if_neg (by simpa using hc)]at k;exact k
  subst e;rw[alI];dsimp only;refine⟨q,λ_=>?_⟩;rw[if_neg (by simp)];have C:(b.Phis.map (·.Dst)).count v<=1000000:=alC amF (by rw[akV];exact g.1)
  rw[<- Nat.add_assoc]at m;have hd:c+(b.Phis.map (·.Dst)).count v<=3000000000000:=by omega
  generalize c+(b.Phis.map (·.Dst)).count v=d at m hd;refine af _ b.Code.length (λj x=>x=(((d+(bO b j).count v:Nat):Int),(j:Int))) (λB j x hj e u=>?_) (λB x e=>?_) _ (by simp[bO])
  .subst e;dsimp only;refine⟨q,λ_=>?_⟩;rw[if_pos (aF hj)];refine λJ w=>?_
   have t:(bO b j).count v<=1000000:=alC amF (by unfold bO;exact alC (amC _ _) (by rw[akV];exact alC (amP _ _) g.2))
   have k:=w _ (u _ (by rw[ac (i:=j) kQ1]))
   rw[Lr b hj,am2]at k;intro A p;rw[Int.toNat_natCast];have z:=p (!decide (v=[])&&decide ((b.Code.getD j default).Dst=v)) (by
    dsimp only;refine ifk (λhc=>?_) (λhc=>?_)
    .rw[o _ kQ1]
     grind
    grind)
   grind
  subst e;dsimp only;refine⟨q,λ_=>?_⟩;rw[if_neg (by simp)];have:bO b b.Code.length=bq b:=by unfold bO bq;rw[alI]
  rw[this];exact m
 subst e;rw[alI];dsimp only;intro _;rw[if_neg (by simp)];exact h
end Go.Am
end

section
namespace Go.Am
open Go
open Lt (nmB toB Gd Rc uniq)
theorem rz:(l k:List a8)->l.Nodup->(∀x∈l,x∈k)->l.length<=k.length
 |[],_,_,_=>alL _
 |x::r,k,h,hs=>by
  have hx:=hs x (by simp)
  have h2:=alG.1 h
  have ih:=rz r (k.erase x) h2.2 (λy hy=>(List.mem_erase_of_ne (λe=>h2.1 (by rw[<- e];exact hy))).2 (hs y (by simp[hy])))
  rw[List.length_erase_of_mem hx]at ih;have:=List.length_pos_of_mem hx
  simp only[akY];omega
theorem xA:(l:List a8)->(∀x,l.count x<=1)->l.Nodup
 |[],_=>List.nodup_nil
 |x::r,h=>by
  have h1:=h x
  rw[List.count_cons_self]at h1;refine alG.2 ⟨λhm=>by have:=List.count_pos_iff.2 hm;omega,xA r λy=>?_⟩;have:=h y
  rw[anE]at this;omega
theorem lY:∀{l:List a8},l.Nodup->∀x,l.count x=if x∈l then 1 else 0
 |[],_,x=>by simp
 |y::r,h,x=>by
  have h2:=alG.1 h
  rw[anE,lY h2.2 x]
  grind
theorem Eh{a:List a8}(hn:a.Nodup):∀L:List a8,(a.map λt=>L.count t).sum=(L.filter λx=>decide (x∈a)).length
 |[]=>by
  induction a with
  |nil=>rfl
  |cons t r ih=>rw[List.map_cons,amT,ih (alG.1 hn).2];simp
 |x::L=>by
  have key:∀a:List a8,(a.map λt=>(x::L).count t).sum=(a.map λt=>L.count t).sum+a.count x:=by
   intro a;induction a with
   |nil=>rfl
   |cons t r ih=>
    rw[List.map_cons,amT,ih,List.map_cons,amT,anE,anE]
    grind
  rw[key,Eh hn L,lY hn,List.filter_cons];by_cases h:x∈a<;>simp[h]
theorem Ql:∀(ins:List Lt.In)(l:List a8),sN l ins=true ↔ (ins.map (·.Block)).Nodup/\∀x∈ins,x.Block∈l
 |[],l=>by simp[sN]
 |x::r,l=>by
  have ih:=Ql r (l.filter λs=>!decide (s=x.Block))
  unfold sN;rw[akP,ih,List.map_cons,alG];simp only[anD,ak8,akX,decide_eq_true_eq,alA,decide_eq_false_iff_not]
  grind
theorem Qv(B:List Lt.Block)(s t:List UInt8):t∈Lt.frm B s ↔ ∃b∈B,b.Name=t/\s∈b.End.To:=by
 unfold Lt.frm B1;simp only[amV,ak8,anD,decide_eq_true_eq]
 grind
theorem Ds(s:a8):∀B:List Lt.Block,(B.map (·.Name)).Nodup->(∀b∈B,b.End.To.Nodup)->(Lt.frm B s).Nodup
 |[],_,_=>List.nodup_nil
 |b::r,h,d=>by
  rw[List.map_cons,alG]at h;have ih:=Ds s r h.2 λx hx=>d x (by simp[hx])
  have e:Lt.frm (b::r) s=B1 s b++Lt.frm r s:=rfl
  rw[e,List.nodup_append];refine⟨?_,ih,λx hx y hy c=>?_⟩
  .have h1:=lY (d b (by simp)) s
   have h2:(B1 s b).length<=1:=by
    unfold B1;rw[akV];have:(b.End.To.filter λn=>decide (n=s)).length=b.End.To.count s:=by
     rw[List.count_eq_countP,List.countP_eq_length_filter]
     congr 1
     exact List.filter_congr λy _=>by grind
    rw[this,h1];split<;>omega
   match hl:B1 s b,h2 with
   |[],_=>exact List.nodup_nil
   |[x],_=>simp
  subst c;have hx:x=b.Name:=by unfold B1 at hx;obtain⟨_,_,e⟩:=ak8.1 hx;exact e.symm
  obtain⟨b',a,e',_⟩:=(Qv r s x).1 hy;exact h.1 (ak8.2 ⟨b',a,by rw[e',hx]⟩)
variable{B:List Lt.Block}
theorem O5(h:uniq B):(B.map (·.Name)).Nodup:=by
 rw[List.nodup_iff_pairwise_ne,List.pairwise_iff_getElem];intro i j hi hj a e;rw[akV]at hi hj;rw[List.getElem_map,List.getElem_map]at e;have:=h i j hi hj (by unfold Lt.nmB;rw[List.getD,akQ hi,List.getD,akQ hj];exact e)
 omega
theorem adD(p:Gd B){i:Nat}(hi:i<B.length)(x:Lt.Phi)(P:Nat->Prop)(s:∀j,j<B.length->(P j ↔ nmB B i∈toB B j))[DecidablePred P] :
  ((∀j,j<B.length->(x.Ins.map (·.Block)).count (nmB B j)=if P j then 1 else 0)/\((B.map (·.Name)).map λt=>(x.Ins.map (·.Block)).count t).sum=x.Ins.length) ↔ so x (Lt.frm B (nmB B i))=true:=by
 have l:=O5 p.nd
 have q:=Ds (nmB B i) B l λb hb=>by
  obtain⟨k,hk,e⟩:=alD.1 hb;have:=p.tn k hk
  rw[show toB B k=b.End.To from by unfold Lt.toB;rw[List.getD,akQ hk,alK,e]]at this;exact this
 have hfm:∀t,t∈Lt.frm B (nmB B i) ↔ ∃j,j<B.length/\nmB B j=t/\P j:=λt=>by
  rw[Qv];constructor
  .rintro⟨b,hb,g,r⟩
   obtain⟨k,hk,e⟩:=alD.1 hb;have u:B.getD k default=b:=by rw[List.getD,akQ hk,alK,e]
   exact⟨k,hk,by unfold Lt.nmB;rw[u];exact g,(s k hk).2 (by unfold Lt.toB;rw[u];exact r)⟩
  rintro⟨k,hk,g,r⟩
  exact⟨B.getD k default,au _ hk,g,(s k hk).1 r⟩
 have h:∀t,t∈B.map (·.Name) ↔ ∃j,j<B.length/\nmB B j=t:=λt=>by
  rw[ak8];constructor
  .rintro⟨b,hb,g⟩
   obtain⟨k,hk,e⟩:=alD.1 hb;exact⟨k,hk,by unfold Lt.nmB;rw[List.getD,akQ hk,alK,e];exact g⟩
  rintro⟨k,hk,g⟩
  exact⟨_,au _ hk,g⟩
 rw[Eh l];have w:(x.Ins.map (·.Block)).length=x.Ins.length:=akV _
 have hmm:∀v∈x.Ins,v.Block∈x.Ins.map (·.Block):=λv hv=>am5 hv
 unfold so;rw[akP,decide_eq_true_eq,Ql];have n:(∀v∈x.Ins,v.Block∈Lt.frm B (nmB B i)) ↔ ∀t∈x.Ins.map (·.Block),t∈Lt.frm B (nmB B i):=by simp
 rw[n,<- w];generalize x.Ins.map (·.Block)=L at *;constructor
 .rintro⟨h1,h2⟩
  have d:∀t∈L,t∈B.map (·.Name):=λt a=>by
   have:=List.length_filter_eq_length_iff.1 h2 t a
   simpa using this
  have m:L.Nodup:=xA L λt=>by
   by_cases a:t∈L
   .obtain⟨j,hj,e⟩:=(h t).1 (d t a);rw[<- e,h1 j hj];split<;>omega
   rw[List.count_eq_zero_of_not_mem a];omega
  have f:∀t∈L,t∈Lt.frm B (nmB B i):=λt a=>by
   obtain⟨j,hj,e⟩:=(h t).1 (d t a);have hc:=List.count_pos_iff.2 a
   rw[<- e,h1 j hj]at hc;refine(hfm t).2 ⟨j,hj,e,?_⟩;by_cases hp:P j
   .exact hp
   rw[if_neg hp]at hc;omega
  have c:∀t∈Lt.frm B (nmB B i),t∈L:=λt a=>by
   obtain⟨j,hj,e,hp⟩:=(hfm t).1 a;have:=h1 j hj
   rw[if_pos hp,e]at this;exact List.count_pos_iff.1 kQ1
  have l1:=rz _ _ m f
  have l2:=rz _ _ q c
  exact⟨by omega,m,f⟩
 rintro⟨h1,h2,h3⟩
 have c:∀t∈Lt.frm B (nmB B i),t∈L:=λt a=>Classical.byContradiction λhn=>by
  have:=rz L ((Lt.frm B (nmB B i)).erase t) h2 λy hy=>(List.mem_erase_of_ne (λe=>hn (by rw[<- e];exact hy))).2 (h3 y hy)
  rw[List.length_erase_of_mem a]at this;have:=List.length_pos_of_mem a
  omega
 refine⟨λj hj=>?_,List.length_filter_eq_length_iff.2 λt a=>?_⟩
 .rw[lY h2];by_cases hp:P j
  .rw[if_pos hp,if_pos (c _ ((hfm _).2 ⟨j,hj,rfl,hp⟩))]
  rw[if_neg hp,if_neg];intro a;obtain⟨k,hk,e,o⟩:=(hfm _).1 (h3 _ a);rw[p.nd k j hk hj e]at o;exact hp o
 obtain⟨j,hj,e,_⟩:=(hfm t).1 (h3 t a);exact decide_eq_true ((h t).2 ⟨j,hj,e⟩)
end Go.Am
end

section
namespace Go.Am
open Go
open Lt (nmB toB Gd Rc uniq bkB)
theorem TF(f:Lt.Func)(hp:afJ f)(KK:Bool->Prop)(h:KK (iA f)):PA f KK:=by
 unfold PA;obtain⟨hn,P,J⟩:=hp;unfold iA at h;have G:∀i,i<f.Blocks.length->¬ tb f.Blocks i=true->KK false:=λi hi hx=>by rw[al9.2 ⟨i,am9.2 hi,hx⟩]at h;exact h
 have w:∀i:Nat,i<f.Blocks.length->(0:Int)<=(i:Int)/\i<f.Blocks.length:=λi hi=>⟨by omega,hi⟩
 refine cr f.Blocks.length (λi=>tb f.Blocks i=true) (KK false) (λR i hi hN ih=>?_) (λR U=>?_) G
 rotate_left
 .try dsimp only
  intro _;rw[if_neg (by simp)];rw[ak0.2 λi hi=>U i (am9.1 hi)]at h;exact h
 try dsimp only
 intro hl;rw[if_pos (aF hi),Int.toNat_natCast];have N:=w i hi
 have ih:=ih hl
 unfold tb at hN ih;have a:=J _ (au _ hi)
 generalize hPh:(f.Blocks.getD i default).Phis=p at hN ih a|-;have n:∀x∈p,¬ (i≠0/\so x (Lt.frm f.Blocks (nmB f.Blocks i))=true)->KK false:=λx hx hb=>hN (by
  rw[akP,ak0];rintro⟨h1,h2⟩
  refine hb ⟨λe=>?_,h2 x hx⟩;have z:=List.length_pos_of_mem hx
  rw[decide_eq_true e,decide_eq_true z]at h1;cases h1)
 refine cr p.length (λk=>i≠0/\so (p.getD k default) (Lt.frm f.Blocks (nmB f.Blocks i))=true) (KK false) (λT k hk d b=>?_) (λT v=>?_) (λk hk hx=>n _ (au _ hk) hx)
 rotate_left
 .try dsimp only
  refine⟨N,λ_=>?_⟩;rw[if_neg (by simp)];refine ih ?_;rw[akP];refine⟨?_,ak0.2 λx hx=>?_⟩
  .by_cases e:i=0
   .have:p.length=0:=by
     rcases alO p.length with h0|h0
     .exact h0
     exact absurd e (v 0 h0).1
    simp[this]
   simp[e]
  obtain⟨q,hq,e⟩:=alD.1 hx;have:=(v q hq).2
  rw[List.getD,akQ hq,alK,e]at this;exact this
 try dsimp only
 refine⟨N,λL=>?_⟩;rw[if_pos (aF hk),Int.toNat_natCast];refine⟨N,⟨by omega,hk⟩,?_⟩;have c:=a _ (au _ hk)
 have b:=b L
 generalize p.getD k default=x at d b c;have Q:∀j,j<f.Blocks.length->(ip f (j:Int) (i:Int)=true ↔ nmB f.Blocks i∈toB f.Blocks j):=λj hj=>by
  have:=nw P.nd (j:Int) (i:Int)
  rw[Int.toNat_natCast,Int.toNat_natCast]at this;rw[this];exact⟨λh=>h.2.2,λh=>⟨by omega,hi,h⟩⟩
 have m:=adD P hi x (λj=>ip f (j:Int) (i:Int)=true) Q
 rw[<- m]at d b;clear m Q n hN ih a;have O:∀t,(x.Ins.map (·.Block)).count t<=1000000:=λt=>alC amF (by rw[akV];exact c)
 refine af _ f.Blocks.length (λj y=>∃S:Nat,S=(((f.Blocks.take j).map (·.Name)).map λt=>(x.Ins.map (·.Block)).count t).sum/\S<=j*1000000/\y=((S:Int),(j:Int))/\∀j',j'<j->(x.Ins.map (·.Block)).count (nmB f.Blocks j')=if ip f (j':Int) (i:Int)=true then 1 else 0) (λW j y hj⟨S,B,E,e,o⟩D=>?_) (λW y⟨S,B,E,e,o⟩=>?_) _ ⟨0,by simp,by omega,rfl,λj' M=>by omega⟩
 .subst e
  try dsimp only
  intro _;rw[if_pos (aF hj),Int.toNat_natCast];refine af _ x.Ins.length (λq y=>y=((((x.Ins.take q).map (·.Block)).count (nmB f.Blocks j):Int),(q:Int))) (λX q y hq e H=>?_) (λX y e=>?_) _ (by simp)
  .subst e
   try dsimp only
   intro _;rw[if_pos (aF hq),Int.toNat_natCast];refine λY I=>⟨⟨by omega,hq⟩,w j hj,?_⟩
   have V:((x.Ins.take q).map (·.Block)).count (nmB f.Blocks j)<=1000000:=alC amF (by rw[akV];exact alC (amP _ _) c)
   have s:=I _ (H _ (by rw[ac (i:=q) kQ1]))
   rw[aA _ hq,al0,am2,List.map_cons,List.map_nil,anE,List.count_nil]at s;refine ifk (λhc=>?_) (λhc=>?_)
   .rw[if_pos (beq_iff_eq.2 (of_decide_eq_true hc))]at s;rw[ac kQ1];exact s
   rw[if_neg (λe=>hc (decide_eq_true (beq_iff_eq.1 e)))]at s;exact s
  subst e;rw[alI]
  try dsimp only
  intro _;rw[if_neg (by simp)];have F:kz f (j:Int) (i:Int):=⟨by omega,by omega⟩
  refine λC u=>⟨F,?_⟩
  have l:C (((if ip f (j:Int) (i:Int)=true then 1 else 0:Nat):Int)):=u _ (by
   try dsimp only
   refine ifk (λhc=>d λA=>?_) (λhc=>?_)
   .have:=A.2.1 j hj
    rw[this]at hc;simp at hc
   have hc:(x.Ins.map (·.Block)).count (nmB f.Blocks j)=if ip f (j:Int) (i:Int)=true then 1 else 0:=by
    have:=of_decide_eq_true (by simpa using hc)
    omega
   have h1:=O (nmB f.Blocks j)
   refine D _ ⟨S+(x.Ins.map (·.Block)).count (nmB f.Blocks j),?_,by omega,?_,λj' M=>?_⟩
   .rw[B,aA _ hj,al0,al0,List.sum_append];simp;rfl
   .rw[ac (i:=j) kQ1,cF kQ1 kQ1];simp
   rcases al8 j' j with h'|h'
   .exact o j' h'
   obtain rfl:j'=j:=by omega
   exact hc)
  refine ifk (λhc=>?_) (λhc=>?_)
  .rw[if_pos hc]at l;exact l
  rw[if_neg hc]at l;exact l
 subst e;rw[alI]at B
 try dsimp only
 intro _;rw[if_neg (by simp)];refine λK r=>?_
 have g:K (!decide ((S:Int)=(x.Ins.length:Int))||decide ((i:Int)=0)):=r _ (by
  try dsimp only
  refine ifk (λhc=>d λA=>?_) (λhc=>b ⟨?_,o,?_⟩)
  .have:=A.1
   have:=A.2.2
   grind
  .grind
  grind)
 intro _;refine ifk (λhc=>?_) (λhc=>?_)
 .rw[hc,Bool.true_or]at g;exact g
 rw[show(!decide ((S:Int)=(x.Ins.length:Int)))=false from by simpa using hc,Bool.false_or]at g;exact g
end Go.Am
end
