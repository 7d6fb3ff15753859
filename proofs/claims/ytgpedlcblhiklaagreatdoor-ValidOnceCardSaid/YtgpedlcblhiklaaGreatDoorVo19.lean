/-
  Part 19: AmRd.
-/
import Derived.Test.YtgpedlcblhiklaaGreatDoorVo18
import Derived.MapFrom
set_option linter.unusedSimpArgs false
set_option linter.unusedVariables false
set_option linter.unusedSectionVars false
set_option linter.unnecessarySimpa false
open Go.Proofs.Tryz
section
namespace Go.Am
open Go Go.RowKit Go.Proofs Go.MapKept
def uL(w:List UInt8)(df:Nat):List (List UInt8×Nat)->Nat
 |[]=>df
 |(w0,f)::r=>if decide (w=w0)=true then f else uL w df r
theorem Bz(w:List UInt8)(K:Nat->Prop)(df:Nat):∀a,swP w K df a=K (uL w df a)
 |[]=>rfl
 |(w0,f)::r=>by
  rw[swP,uL,Bz w K df r]
  grind
variable{clock:Nat}{es:Array MapEntry}{et kt mt:TypeId}
section
variable {P:Program}
theorem YY{o:Oper}{a:Act}{next:Act->World->Prop}{Q:Exit->Act->World->Prop}{r:Nat}{k:ByteArray}{v:Value}{w:World}
  (c:P.underlying mt=some (.map kt et)) (hd:P.underlying kt=some .string) (hb:w.heap[r]? = some (.map es clock)) (hf:Instr.findNow .string (.string k) es.toList 0=some none)
  (h:∀w2,w2.heap[r]? = some (.map (es.push { key:=.string k,val:=v,born:=clock }) (clock+1))->Below r w w2->next (a.put o.dst undef) w2) :
  o.upon P a next Q (((Instr.mapUpdate mt (.map (some r)) (.string k) v).run P w).andThen fun _ w'=>.ok Next.skip w'):=by
 have b:(Instr.mapUpdate mt (.map (some r)) (.string k) v).run P w=.ok () { w with heap:=w.heap.setIfInBounds r (.map (es.push { key:=.string k,val:=v,born:=clock }) (clock+1)) }:=by
  simp[Instr.mapUpdate,run_underlying c,MapKept.run_getObj_map hb,run_checkKey hd (k:=.string k) trivial,run_findKey hd hf,run_setObj_map _ hb,Result.andThen]
 rw[b];exact h _ (heap_set hb).1 ⟨rfl,rfl,rfl,by simp,fun j hj=>(heap_set hb).2 j kQ1⟩
theorem Jh(s:ByteArray):∀(es:List MapEntry)(a:List (List UInt8×Nat))(i:Nat),es.map (fun e=>(e.key,e.val))=a.map (fun x=>(Value.string ⟨x.1.toArray⟩,Value.func (.func x.2) #[] #[])) ->
  (∃x∈a,(∃j,Instr.findNow .string (.string s) es i=some (some (j,.func (.func x.2) #[] #[])))/\∀df,uL s.data.toList df a=x.2)\/(Instr.findNow .string (.string s) es i=some none/\∀df,uL s.data.toList df a=df)
 |[],[],i,_=>.inr ⟨rfl,fun _=>rfl⟩
 |[],_::_,i,h=>by simp at h
 |_::_,[],i,h=>by simp at h
 |e::es,(k,f)::a,i,h=>by
  obtain⟨c,ev,g⟩:=e;simp only[aiZ,List.cons.injEq,Prod.mk.injEq]at h;obtain⟨⟨rfl,rfl⟩,h⟩:=h;unfold Instr.findNow;simp only[Instr.sameNow];by_cases hc:s=⟨k.toArray⟩
  ·have b:(s==⟨k.toArray⟩)=true:=(bytes_beq _ _).2 hc
   simp_all[uL]
  ·have b:(s==⟨k.toArray⟩)=false:=by
    grind [bytes_beq]
   rw[b];have d:¬ s.data.toList=k:=by
    rintro rfl
    grind
   rcases Jh s es a (i+1) h with⟨x,hx,hj,hp⟩|⟨h1,h2⟩
   all_goals grind [uL]
theorem Lb{r:Nat}{s:ByteArray}{w:World}(a:P.underlying mt=some (.map kt et))(hd:P.underlying kt=some .string)(hz:(zeroValue et).run P w=.ok .nilFunc w)
  (hb:w.heap[r]? = some (.map es clock)) {x:Option (Nat×Value)} (hf:Instr.findNow .string (.string s) es.toList 0=some x) :
  (Instr.lookup mt (.map (some r)) (.string s) false).run P w=.ok (match x with|some (_,v)=>v|none=>.nilFunc) w:=by
 cases x with
 |none=>simp[Instr.lookup,run_underlying a,MapKept.run_getObj_map hb,run_checkKey hd (k:=.string s) trivial,run_findKey hd hf,hz,Result.andThen]
 |some y=>obtain⟨j,v⟩:=y;simp[Instr.lookup,run_underlying a,MapKept.run_getObj_map hb,run_checkKey hd (k:=.string s) trivial,run_findKey hd hf,Result.andThen]
end
variable{a b:Array Value}{ps rs:Array TypeId}{t:TypeId}{va:Bool}
theorem aaJ{P:Program}{f:Fn}(h:P.underlying t=some (.func ps rs va))(w:World):(Op.equal t (.func f a b) .nilFunc).run P w=.ok false w:=by
 unfold Op.equal Op.maxDepth;rw[show(10000:Nat)=9999+1 from rfl];unfold Op.equalIn;simp only[Sem.run_bind,run_underlying h,Result.andThen];rfl
theorem MO{P:Program}(h:P.underlying t=some (.func ps rs va))(w:World):(Op.equal t .nilFunc .nilFunc).run P w=.ok true w:=by
 unfold Op.equal Op.maxDepth;rw[show(10000:Nat)=9999+1 from rfl];unfold Op.equalIn;simp only[Sem.run_bind,run_underlying h,Result.andThen];rfl
theorem XS{P:Program}{f:Fn}(h:P.underlying t=some (.func ps rs va))(w:World):(binOp .neq t (.func f a b) .nilFunc).run P w=.ok (.bool true) w:=by
 show(do pure (.bool (!(<- Op.equal t (.func f a b) .nilFunc))):Sem Value).run P w=_
 simp only[Sem.run_bind,aaJ h,Result.andThen];rfl
theorem KA{P:Program}(h:P.underlying t=some (.func ps rs va))(w:World):(binOp .neq t .nilFunc .nilFunc).run P w=.ok (.bool false) w:=by
 show(do pure (.bool (!(<- Op.equal t .nilFunc .nilFunc))):Sem Value).run P w=_
 simp only[Sem.run_bind,MO h,Result.andThen];rfl
theorem aeL{a:Array MapEntry}{b:Nat}{f:Option Obj}(hb:f=some (.map a b)){L:List (Value×Value)}(he:a.toList.map (fun e=>(e.key,e.val))=L):∃es c,f=some (.map es c)/\es.toList.map (fun e=>(e.key,e.val))=L:=⟨a,b,hb,he⟩
def Yr:List (List UInt8×Nat):=[([115,115,97],139),([99,108,97,115,115],140),([102,105,101,108,100],141),([103,108,111,98,97,108],142),([101,120,116,101,114,110],143),([102,117,110,99],144),([112,97,114,97,109],145),([118,97,114],146),([98,108,111,99,107],147),([112,104,105],148),([97,116],149),([111,98,106],150),([106,117,109,112],151),([98,114,97,110,99,104],151),([114,101,116],151),([116,114,97,112],151)]
set_option maxRecDepth 100000 in
theorem FZ(s:ByteArray)(w:World) :
  Calls prog 89 #[.string s] w fun e w'=>e=.returned (.func (.func (uL s.data.toList 90 Yr)) #[] #[])/\Below w.heap.size w w':=by
 have hmm:=@run_makeMap prog
 have d:=underlying214
 have hd:=underlying9
 have hz:∀w,(zeroValue 170).run prog w=.ok .nilFunc w:=zeroValue170
 have hb:(w.alloc (.map #[] 0)).heap[w.heap.size]? = some (.map #[] 0):=(heap_alloc w _).1
 have f:Below w.heap.size w (w.alloc (.map #[] 0)):=(Below.refl _ w).alloc (ai0 _) _
 go_enter func89,Tryz.ntmps89
 go_wp2
 iterate 16
  refine YY d hd hb (by rfl) (fun w2 a b=>?_)
  replace f:=f.trans b
  replace hb:=a
  clear b a
  go_wp2
 obtain⟨es,c,hb,he⟩:=aeL hb (L:=Yr.map (fun x=>(Value.string ⟨x.1.toArray⟩,Value.func (.func x.2) #[] #[]))) (by rfl);rcases Jh s es.toList Yr 0 he with⟨x,hx,⟨j,hj⟩,hp⟩|⟨h1,hp⟩
 ·rw[Lb d hd (hz _) hb hj];simp only[Result.andThen];rw[Oper.upon_value]
  go_wp2
  rw[XS underlying170];simp only[Result.andThen];rw[Oper.upon_value]
  go_wp2
  go_ret
  simp_all
 ·rw[Lb d hd (hz _) hb h1];simp only[Result.andThen];rw[Oper.upon_value]
  go_wp2
  rw[KA underlying170];simp only[Result.andThen];rw[Oper.upon_value]
  go_wp2
  go_ret
  simp_all
theorem afE{v:At}{x:List UInt8}(h:dc [.s] [v]=some x):v.noRf=true/\v.toV.isFz=true/\v.toV.map T.canon=.one (.c (.d (.str x))):=by
 obtain⟨h1,h2,h3⟩:=kq h;refine⟨by grind,by grind,?_⟩;have:[v.toV.map T.canon]=[AV.one (.c (.d (.str x)))]:=h3
 grind
def r8:CKt:=swT Yr 90
theorem MI:Cont prog 89 r8:=by
 refine⟨fi (fn:=f89) kQ0 (by rfl) (by rfl),fun pk s ops k k' hk hc=>?_,fun g pk s a w H γ F1 ops k hX u hc=>?_⟩
 ·unfold r8 swT at hc⊢
  grind [Bz,fo]
 ·unfold r8 swT at hc;dsimp only at hc;obtain⟨H1,j,h1⟩:=km (ops.map (evA s)) s H F1 hX;generalize fb s (ops.map (evA s))=s1 at hc h1;split at hc
  ·rename_i x hx;rw[Bz]at hc
   match ops,hx with
   |[],hx=>grind [dc]
   |[o],hx=>
    obtain⟨_,hz,q⟩:=afE hx;have hop:aH o=true:=by grind
    have hv:=aL h1 hop
    rw[ah hop]at hv;have l:=iK fu (yN (w':=w) (γ':=γ) (m':=[]) (fun _ _ _ h=>h) hz hv)
    rw[q]at l;obtain⟨z,_⟩:=lg l;show Calls _ _ #[a.eval o] w _
    rw[z];refine(FZ ⟨x.toArray⟩ w).mono ?_;rintro e w' ⟨rfl,hb⟩
    rw[qy];have d:∀b,tot j s1.toS.m b≠0->w'.heap[b]? = w.heap[b]? := fun b c=>hb.block b (h1.mem.lt b c)
    have n:=gH (w':=w') h1.mem d
    have f:Mem w' H1 γ s1.toS.m j:=by
     refine⟨fun b o y hy=>?_,fun x hx=>bh n (fun _ _ _ h=>h) rfl (fun b c=>d b (by grind [bX])) (h1.mem.roots x hx),h1.mem.keys,h1.mem.le1,fun b c=>by have:=h1.mem.lt b c;grind,h1.mem.nofz⟩;have p:b<w.heap.size:=(h1.mem.agree b o y hy).lt
     exact(h1.mem.agree b o y hy).frame (hb.block b p)
    have r:Fr w H1 (tot j s1.toS.m) w' H1 (tot j s1.toS.m):=
     ⟨hb.size,hb.os,hb.tape,hb.output,fun b c _=>hb.block b c,fun _ _ _ h=>h,fun b o h2 h3=>absurd h3 h2,fun b hb=>.inl hb,fun b h0=>h0.of_block (hb.block b h0.lt),qY.2⟩
    exact .inl ⟨_,s1,sct (.v (.func (.func (uL x 90 Yr)) #[] #[])),H1,γ,j,rfl,hc,⟨fun _=>rfl,0,rfl,rfl⟩,jR h1 f r (fun i=>dy n (fun _ _ _ h=>h) (h1.t i)) (fun _=>rfl)⟩
   |_::_::_,hx=>grind [dc]
  grind
end Go.Am
end
