/-
  Part 20: AmRd.
-/
import Derived.Test.YthhkhcolidkemaaGreatDoorCt19
import Derived.MapFrom
set_option linter.unusedSimpArgs false
set_option linter.unusedVariables false
set_option linter.unusedSectionVars false
set_option linter.unnecessarySimpa false
open Go.Proofs.Tryz
section
namespace Go.Am
open Go Go.RowKit Go.Proofs Go.MapKept
def vi(w:List UInt8)(df:Nat):List (List UInt8×Nat)->Nat
 |[]=>df
 |(w0,f)::r=>if decide (w=w0)=true then f else vi w df r
theorem BG(w:List UInt8)(K:Nat->Prop)(df:Nat):∀a,swP w K df a=K (vi w df a)
 |[]=>rfl
 |(w0,f)::r=>by
  rw[swP,vi,BG w K df r]
  grind
variable{clock:Nat}{es:Array MapEntry}{et kt mt:TypeId}
section
variable {P:Program}
theorem Z2{o:Oper}{a:Act}{next:Act->World->Prop}{Q:Exit->Act->World->Prop}{r:Nat}{k:ByteArray}{v:Value}{w:World}
  (hm:P.underlying mt=some (.map kt et)) (hd:P.underlying kt=some .string) (hb:w.heap[r]? = some (.map es clock)) (hf:Instr.findNow .string (.string k) es.toList 0=some none)
  (h:∀w2,w2.heap[r]? = some (.map (es.push { key:=.string k,val:=v,born:=clock }) (clock+1))->Below r w w2->next (a.put o.dst undef) w2) :
  o.upon P a next Q (((Instr.mapUpdate mt (.map (some r)) (.string k) v).run P w).andThen λ_ w'=>.ok Next.skip w'):=by
 have b:(Instr.mapUpdate mt (.map (some r)) (.string k) v).run P w=.ok () { w with heap:=w.heap.setIfInBounds r (.map (es.push { key:=.string k,val:=v,born:=clock }) (clock+1)) }:=by simp[Instr.mapUpdate,run_underlying hm,MapKept.run_getObj_map hb,run_checkKey hd (k:=.string k) trivial,run_findKey hd hf,run_setObj_map _ hb,Result.andThen]
 rw[b];exact h _ (heap_set hb).1 ⟨rfl,rfl,rfl,by simp,λj hj=>(heap_set hb).2 j kQ1⟩
theorem Ja(s:ByteArray):∀(es:List MapEntry)(a:List (List UInt8×Nat))(i:Nat),es.map (λe=>(e.key,e.val))=a.map (λx=>(Value.string ⟨x.1.toArray⟩,Value.func (.func x.2) #[] #[])) ->
  (∃x∈a,(∃j,Instr.findNow .string (.string s) es i=some (some (j,.func (.func x.2) #[] #[])))/\∀df,vi s.data.toList df a=x.2)\/(Instr.findNow .string (.string s) es i=some none/\∀df,vi s.data.toList df a=df)
 |[],[],i,_=>.inr ⟨rfl,λ_=>rfl⟩
 |[],_::_,i,h=>by simp at h
 |_::_,[],i,h=>by simp at h
 |e::es,(k,f)::a,i,h=>by
  obtain⟨d,ev,g⟩:=e;simp only[akM,List.cons.injEq,Prod.mk.injEq]at h;obtain⟨⟨rfl,rfl⟩,h⟩:=h;unfold Instr.findNow;simp only[Instr.sameNow];by_cases hc:s=⟨k.toArray⟩
  .have b:(s==⟨k.toArray⟩)=true:=(bytes_beq _ _).2 hc
   simp_all[vi]
  have b:(s==⟨k.toArray⟩)=false:=by grind [bytes_beq]
  rw[b];have c:¬ s.data.toList=k:=by
   rintro rfl
   grind
  rcases Ja s es a (i+1) h with⟨x,hx,hj,hp⟩|⟨h1,h2⟩
  all_goals grind [vi]
theorem Lc{r:Nat}{s:ByteArray}{w:World}(hm:P.underlying mt=some (.map kt et))(hd:P.underlying kt=some .string)(hz:(zeroValue et).run P w=.ok .nilFunc w)
  (hb:w.heap[r]? = some (.map es clock)) {x:Option (Nat×Value)} (hf:Instr.findNow .string (.string s) es.toList 0=some x) :
  (Instr.lookup mt (.map (some r)) (.string s) false).run P w=.ok (match x with|some (_,v)=>v|none=>.nilFunc) w:=by
 cases x with
 |none=>simp[Instr.lookup,run_underlying hm,MapKept.run_getObj_map hb,run_checkKey hd (k:=.string s) trivial,run_findKey hd hf,hz,Result.andThen]
 |some y=>obtain⟨j,v⟩:=y;simp[Instr.lookup,run_underlying hm,MapKept.run_getObj_map hb,run_checkKey hd (k:=.string s) trivial,run_findKey hd hf,Result.andThen]
end
variable{a b:Array Value}{ps rs:Array TypeId}{t:TypeId}{va:Bool}
theorem acB{P:Program}{f:Fn}(h:P.underlying t=some (.func ps rs va))(w:World):(Op.equal t (.func f a b) .nilFunc).run P w=.ok false w:=by unfold Op.equal Op.maxDepth;rw[show(10000:Nat)=9999+1 from rfl];unfold Op.equalIn;simp only[Sem.run_bind,run_underlying h,Result.andThen];rfl
theorem MR{P:Program}(h:P.underlying t=some (.func ps rs va))(w:World):(Op.equal t .nilFunc .nilFunc).run P w=.ok true w:=by unfold Op.equal Op.maxDepth;rw[show(10000:Nat)=9999+1 from rfl];unfold Op.equalIn;simp only[Sem.run_bind,run_underlying h,Result.andThen];rfl
theorem YZ{P:Program}{f:Fn}(h:P.underlying t=some (.func ps rs va))(w:World):(binOp .neq t (.func f a b) .nilFunc).run P w=.ok (.bool true) w:=by
 show(do pure (.bool (!(<- Op.equal t (.func f a b) .nilFunc))):Sem Value).run P w=_
 simp only[Sem.run_bind,acB h,Result.andThen];rfl
theorem KF{P:Program}(h:P.underlying t=some (.func ps rs va))(w:World):(binOp .neq t .nilFunc .nilFunc).run P w=.ok (.bool false) w:=by
 show(do pure (.bool (!(<- Op.equal t .nilFunc .nilFunc))):Sem Value).run P w=_
 simp only[Sem.run_bind,MR h,Result.andThen];rfl
theorem af3{a:Array MapEntry}{b:Nat}{f:Option Obj}(hb:f=some (.map a b)){L:List (Value×Value)}(d:a.toList.map (λe=>(e.key,e.val))=L):∃es c,f=some (.map es c)/\es.toList.map (λe=>(e.key,e.val))=L:=⟨a,b,hb,d⟩
def ZA:List (List UInt8×Nat):=[([115,115,97],132),([99,108,97,115,115],133),([102,105,101,108,100],134),([103,108,111,98,97,108],135),([101,120,116,101,114,110],136),([102,117,110,99],137),([112,97,114,97,109],138),([118,97,114],139),([98,108,111,99,107],140),([112,104,105],141),([97,116],142),([111,98,106],143),([106,117,109,112],144),([98,114,97,110,99,104],144),([114,101,116],144),([116,114,97,112],144)]
set_option maxRecDepth 100000 in
theorem FT(s:ByteArray)(w:World) :
  Calls prog 78 #[.string s] w λe w'=>e=.returned (.func (.func (vi s.data.toList 79 ZA)) #[] #[])/\Below w.heap.size w w':=by
 have hmm:=@run_makeMap prog
 have hm:=underlying199
 have hd:=underlying9
 have hz:∀w,(zeroValue 132).run prog w=.ok .nilFunc w:=zeroValue132
 have hb:(w.alloc (.map #[] 0)).heap[w.heap.size]? = some (.map #[] 0):=(heap_alloc w _).1
 have d:Below w.heap.size w (w.alloc (.map #[] 0)):=(Below.refl _ w).alloc (akK _) _
 go_enter func78,Tryz.ntmps78
 go_wp2
 iterate 16
  refine Z2 hm hd hb (by rfl) (λw2 a b=>?_)
  replace d:=d.trans b
  replace hb:=a
  clear b a
  go_wp2
 obtain⟨es,c,hb,f⟩:=af3 hb (L:=ZA.map (λx=>(Value.string ⟨x.1.toArray⟩,Value.func (.func x.2) #[] #[]))) (by rfl);rcases Ja s es.toList ZA 0 f with⟨x,hx,⟨j,hj⟩,hp⟩|⟨h1,hp⟩
 .rw[Lc hm hd (hz _) hb hj];simp only[Result.andThen];rw[Oper.upon_value]
  go_wp2
  rw[YZ underlying132];simp only[Result.andThen];rw[Oper.upon_value]
  go_wp2
  go_ret
  simp_all
 rw[Lc hm hd (hz _) hb h1];simp only[Result.andThen];rw[Oper.upon_value]
 go_wp2
 rw[KF underlying132];simp only[Result.andThen];rw[Oper.upon_value]
 go_wp2
 go_ret
 simp_all
theorem agU{v:At}{x:List UInt8}(h:dw [.s] [v]=some x):v.noRf=true/\v.toV.isFz=true/\v.toV.map T.canon=.one (.c (.d (.str x))):=by
 obtain⟨h1,h2,h3⟩:=jL h;refine⟨by grind,by grind,?_⟩;have:[v.toV.map T.canon]=[AV.one (.c (.d (.str x)))]:=h3
 grind
def sO:CKt:=swT ZA 79
theorem MK:Cont prog 78 sO:=by
 refine⟨iU (fn:=f78) kQ0 (by rfl) (by rfl),λpk s ops k k' hk hc=>?_,λg pk s a w H γ F1 ops k A u hc=>?_⟩
 .unfold sO swT at hc|-
  grind [BG,fa]
 unfold sO swT at hc;dsimp only at hc;obtain⟨H1,f,h1⟩:=je (ops.map (evA s)) s H F1 A;generalize eJ s (ops.map (evA s))=s1 at hc h1;split at hc
 .rename_i x hx;rw[BG]at hc
  match ops,hx with
  |[],hx=>grind [dw]
  |[o],hx=>
   obtain⟨_,hz,p⟩:=agU hx;have hop:aH o=true:=by grind
   have hv:=aJ h1 hop
   rw[aj hop]at hv;have j:=iF fw (xl (w':=w) (γ':=γ) (m':=[]) (λ_ _ _ h=>h) hz hv)
   rw[p]at j;obtain⟨z,_⟩:=lX j;show Calls _ _ #[a.eval o] w _
   rw[z];refine(FT ⟨x.toArray⟩ w).mono ?_;rintro e w' ⟨rfl,hb⟩
   rw[ra];have d:∀b,tot f s1.toS.m b≠0->w'.heap[b]? = w.heap[b]? := λb c=>hb.block b (h1.mem.lt b c)
   have n:=fK (w':=w') h1.mem d
   have l:Mem w' H1 γ s1.toS.m f:=by
    refine⟨λb o y hy=>?_,λx hx=>bm n (λ_ _ _ h=>h) rfl (λb c=>d b (by grind [bV])) (h1.mem.roots x hx),h1.mem.keys,h1.mem.le1,λb c=>by have:=h1.mem.lt b c;grind,h1.mem.nofz⟩;have q:b<w.heap.size:=(h1.mem.agree b o y hy).lt
    exact(h1.mem.agree b o y hy).frame (hb.block b q)
   have r:Fr w H1 (tot f s1.toS.m) w' H1 (tot f s1.toS.m):=⟨hb.size,hb.os,hb.tape,hb.output,λb c _=>hb.block b c,λ_ _ _ h=>h,λb o h2 h3=>absurd h3 h2,λb hb=>.inl hb,λb h0=>h0.of_block (hb.block b h0.lt),o8.2⟩
   exact .inl ⟨_,s1,sct (.v (.func (.func (vi x 79 ZA)) #[] #[])),H1,γ,f,rfl,hc,⟨λ_=>rfl,0,rfl,rfl⟩,kl h1 l r (λi=>dK n (λ_ _ _ h=>h) (h1.t i)) (λ_=>rfl)⟩
  |_::_::_,hx=>grind [dw]
 grind
end Go.Am
end
