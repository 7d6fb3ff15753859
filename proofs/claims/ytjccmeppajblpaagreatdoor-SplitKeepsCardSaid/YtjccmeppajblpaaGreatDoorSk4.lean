/-
  Part 4: AmBin · AmVal.
-/
import Derived.Test.YtjccmeppajblpaaGreatDoorSk3
import Derived.OpenShut
import Derived.Laws.StructEq
set_option linter.unusedSimpArgs false
set_option linter.unusedVariables false
set_option linter.unusedSectionVars false
set_option linter.unnecessarySimpa false
section
namespace Go.Am
theorem str_append (a b:List UInt8):(⟨a.toArray⟩:ByteArray)++⟨b.toArray⟩=⟨(a++b).toArray⟩:=by
 rw [ByteArray.ext_iff]; simp [ByteArray.data_append]
theorem mkI {H:FH} {k:IntKind} {n:Int} (h:(Lit.int k n).wf=true):FDx H (.int k n) (.int k n):=⟨0,rfl,h⟩
theorem mkB {H:FH} {b:Bool}:FDx H (.bool b) (.bool b):=⟨0,rfl⟩
theorem mkS {H:FH} {l:List UInt8} (h:l.length<=BIG):FDx H (.str l) (.string ⟨l.toArray⟩):=⟨0,rfl,h⟩
theorem beq_dec {α:Type} [BEq α] [LawfulBEq α] [DecidableEq α] (a b:α):(a==b)=decide (a=b):=by
 by_cases h:a=b
 ·subst h; simp
 ·simp [h]
theorem binD_ok {P:Program} {H:FH} {op:BinOp} {t:TypeId} {x y:D} {K:D->Prop} {u v:Value} (hx:FDx H x u) (hy:FDx H y v) (h:binD op x y K) :
  ∃ z d,(∀ w:World,(binOp op t u v).run P w=.ok z w)/\FDx H d z/\K d:=by
 cases x with
 | int k a=>
  obtain ⟨rfl,ha⟩:=FDx_int hx
  cases y with
  | int k' b=>
   obtain ⟨rfl,hb⟩:=FDx_int hy
   cases op <;> simp only [binD] at h
   case add=>obtain ⟨rfl,h⟩:=h; exact ⟨_,_,fun w=>by simp only [binOp,Op.intArith,ne_eq,not_true_eq_false,if_false]; rfl,mkI (wf_wrap _ _),h⟩
   case sub=>obtain ⟨rfl,h⟩:=h; exact ⟨_,_,fun w=>by simp only [binOp,Op.intArith,ne_eq,not_true_eq_false,if_false]; rfl,mkI (wf_wrap _ _),h⟩
   case mul=>obtain ⟨rfl,h⟩:=h; exact ⟨_,_,fun w=>by simp only [binOp,Op.intArith,ne_eq,not_true_eq_false,if_false]; rfl,mkI (wf_wrap _ _),h⟩
   case quo=>obtain ⟨rfl,h0,h⟩:=h; exact ⟨_,_,fun w=>by simp only [binOp,Op.intDiv,ne_eq,not_true_eq_false,if_false,h0]; rfl,mkI (wf_wrap _ _),h⟩
   case rem=>obtain ⟨rfl,h0,h⟩:=h; exact ⟨_,_,fun w=>by simp only [binOp,Op.intDiv,ne_eq,not_true_eq_false,if_false,h0]; rfl,mkI (wf_tmod ha),h⟩
   case and=>obtain ⟨rfl,h⟩:=h; exact ⟨_,_,fun w=>by simp only [binOp,Op.intBits,ne_eq,not_true_eq_false,if_false]; rfl,mkI (wf_wrap _ _),h⟩
   case or=>obtain ⟨rfl,h⟩:=h; exact ⟨_,_,fun w=>by simp only [binOp,Op.intBits,ne_eq,not_true_eq_false,if_false]; rfl,mkI (wf_wrap _ _),h⟩
   case xor=>obtain ⟨rfl,h⟩:=h; exact ⟨_,_,fun w=>by simp only [binOp,Op.intBits,ne_eq,not_true_eq_false,if_false]; rfl,mkI (wf_wrap _ _),h⟩
   case andNot=>obtain ⟨rfl,h⟩:=h; exact ⟨_,_,fun w=>by simp only [binOp,Op.intBits,ne_eq,not_true_eq_false,if_false]; rfl,mkI (wf_wrap _ _),h⟩
   case shl=>obtain ⟨h0,h⟩:=h; exact ⟨_,_,fun w=>by simp only [binOp,Op.shift]; rw [if_neg (by omega)]; rfl,mkI (wf_wrap _ _),h⟩
   case shr=>obtain ⟨h0,h⟩:=h; exact ⟨_,_,fun w=>by simp only [binOp,Op.shift]; rw [if_neg (by omega)]; rfl,mkI (wf_fdiv ha),h⟩
   case eql=>obtain ⟨rfl,h⟩:=h; exact ⟨_,_,fun w=>by simp only [binOp,Op.intCmp,ne_eq,not_true_eq_false,if_false]; rfl,mkB,by rw [beq_dec]; exact h⟩
   case neq=>obtain ⟨rfl,h⟩:=h; exact ⟨_,_,fun w=>by simp only [binOp,Op.intCmp,ne_eq,not_true_eq_false,if_false]; rfl,mkB,by rw [bne,beq_dec]; exact h⟩
   case lss=>obtain ⟨rfl,h⟩:=h; exact ⟨_,_,fun w=>by simp only [binOp,Op.intCmp,ne_eq,not_true_eq_false,if_false]; rfl,mkB,h⟩
   case leq=>obtain ⟨rfl,h⟩:=h; exact ⟨_,_,fun w=>by simp only [binOp,Op.intCmp,ne_eq,not_true_eq_false,if_false]; rfl,mkB,h⟩
   case gtr=>obtain ⟨rfl,h⟩:=h; exact ⟨_,_,fun w=>by simp only [binOp,Op.intCmp,ne_eq,not_true_eq_false,if_false]; rfl,mkB,h⟩
   case geq=>obtain ⟨rfl,h⟩:=h; exact ⟨_,_,fun w=>by simp only [binOp,Op.intCmp,ne_eq,not_true_eq_false,if_false]; rfl,mkB,h⟩
  | _=>exact h.elim
 | str a=>
  obtain ⟨rfl,ha⟩:=FDx_str hx
  cases y with
  | str b=>
   obtain ⟨rfl,hb⟩:=FDx_str hy
   cases op <;> simp only [binD] at h
   case add=>
    obtain ⟨h0,h⟩:=h
    refine ⟨_,_,?_,mkS (l:=a++b) (by rw [List.length_append]; exact h0),h⟩
    intro w
    simp only [binOp,Op.stringOp]
    rw [if_neg (by
     have e:IntKind.i64.max=9223372036854775807:=by decide
     rw [e]
     simp only [ByteArray.size,List.size_toArray]
     omega)]
    rw [str_append]; rfl
   case eql=>exact ⟨_,_,fun w=>by simp only [binOp,Op.stringOp]; rfl,mkB,by simpa [beq_dec] using h⟩
   case neq=>exact ⟨_,_,fun w=>by simp only [binOp,Op.stringOp]; rfl,mkB,by simpa [beq_dec] using h⟩
   case lss=>exact ⟨_,_,fun w=>by simp only [binOp,Op.stringOp]; rfl,mkB,by simpa using h⟩
   case leq=>exact ⟨_,_,fun w=>by simp only [binOp,Op.stringOp]; rfl,mkB,by simpa [beq_dec] using h⟩
   case gtr=>exact ⟨_,_,fun w=>by simp only [binOp,Op.stringOp]; rfl,mkB,by simpa [beq_dec] using h⟩
   case geq=>exact ⟨_,_,fun w=>by simp only [binOp,Op.stringOp]; rfl,mkB,by simpa using h⟩
  | _=>exact h.elim
 | _=>cases y <;> exact h.elim
inductive CK where
 | i | s | b
 deriving DecidableEq
def eqL (P:Program):Nat->TypeId->Option (List (Nat×CK))
 | 0,_=>none
 | d+1,t=>match P.underlying t with
  | some (.int _)=>some [(0,.i)]
  | some .string=>some [(0,.s)]
  | some .bool=>some [(0,.b)]
  | some (.struct fs)=>if P.stoodInHeld t then none else fs.toList.foldr (fun f acc=>match eqL P d f.type,acc with
    | some l,some r=>if f.name = "_" \/ l.all (fun x=>decide (x.1<P.cellsOf f.type))=false then none else some (l.map (fun x=>(x.1+f.offset,x.2))++r)
    | _,_=>none) (some [])
  | _=>none
def eqD (ck:CK) (x y:D):Option Bool:=
 match ck,x,y with
 | .i,.int k a,.int k' b=>if k=k' then some (decide (a=b)) else none
 | .s,.str a,.str b=>some (decide (a=b))
 | .b,.bool a,.bool b=>some (a==b)
 | _,_,_=>none
def eqDs:List (Nat×CK)->List D->List D->Option Bool
 | [],_,_=>some true
 | (o,ck)::l,xs,ys=>match xs[o]?,ys[o]? with
  | some x,some y=>match eqD ck x y,l with
   | some b,[]=>some b
   | some b,l=>(eqDs l xs ys).map (b&&·)
   | none,_=>none
  | _,_=>none
theorem eqDs_cons {o:Nat} {ck:CK} {l:List (Nat×CK)} {xs ys:List D} {r:Bool} (h:eqDs ((o,ck)::l) xs ys=some r) :
  ∃ x y b c,xs[o]? = some x/\ys[o]? = some y/\eqD ck x y=some b/\eqDs l xs ys=some c/\r=(b&&c):=by
 simp only [eqDs] at h
 cases hx:xs[o]? with
 | none=>simp [hx] at h
 | some x=>
  cases hy:ys[o]? with
  | none=>simp [hx,hy] at h
  | some y=>
   simp only [hx,hy] at h
   cases hb:eqD ck x y with
   | none=>simp [hb] at h
   | some b=>
    simp only [hb] at h
    cases l with
    | nil=>simp only [Option.some.injEq] at h; exact ⟨x,y,b,true,rfl,rfl,hb,rfl,by simp [h]⟩
    | cons z l=>
     dsimp only at h
     cases hc:eqDs (z::l) xs ys with
     | none=>simp [hc] at h
     | some c=>simp [hc] at h; exact ⟨x,y,b,c,rfl,rfl,hb,rfl,h.symm⟩
theorem eqDs_app:∀ {l r:List (Nat×CK)} {xs ys:List D} {b:Bool},eqDs (l++r) xs ys=some b->∃ c d,eqDs l xs ys=some c/\eqDs r xs ys=some d/\b=(c&&d)
 | [],r,xs,ys,b,h=>⟨true,b,rfl,h,by simp⟩
 | (o,ck)::l,r,xs,ys,b,h=>by
  obtain ⟨x,y,b1,c1,h1,h2,h3,h4,rfl⟩:=eqDs_cons (l:=l++r) h
  obtain ⟨c,d,h5,h6,rfl⟩:=eqDs_app h4
  refine ⟨b1&&c,d,?_,h6,by rw [Bool.and_assoc]⟩
  simp only [eqDs,h1,h2,h3]
  cases l with
  | nil=>simp only [eqDs,Option.some.injEq] at h5; simp [<- h5]
  | cons z l=>dsimp only; rw [h5]; rfl
theorem eqDs_off:∀ {l:List (Nat×CK)} {xs ys:List D} {n k:Nat} {b:Bool},eqDs (l.map (fun x=>(x.1+n,x.2))) xs ys=some b->(∀ x∈l,x.1<k) ->
  eqDs l ((xs.drop n).take k) ((ys.drop n).take k)=some b
 | [],_,_,_,_,_,h,_=>h
 | (o,ck)::l,xs,ys,n,k,b,h,hk=>by
  obtain ⟨x,y,b1,c1,h1,h2,h3,h4,rfl⟩:=eqDs_cons h
  have h5:=eqDs_off h4 (fun x hx=>hk x (List.mem_cons_of_mem _ hx))
  have ho:o<k:=hk (o,ck) (by simp)
  have e1:((xs.drop n).take k)[o]? = some x:=by rw [List.getElem?_take_of_lt ho,List.getElem?_drop,Nat.add_comm]; exact h1
  have e2:((ys.drop n).take k)[o]? = some y:=by rw [List.getElem?_take_of_lt ho,List.getElem?_drop,Nat.add_comm]; exact h2
  simp only [eqDs,e1,e2,h3]
  cases l with
  | nil=>simp only [List.map_nil,eqDs,Option.some.injEq] at h4; simp [<- h4]
  | cons z l=>dsimp only; rw [h5]; rfl
def Cells (H:FH) (xs:List D) (us:List Value):Prop:=∀ (i:Nat) (x:D),xs[i]? = some x->∃ u,us[i]? = some u/\FDx H x u
theorem Cells_sub {H:FH} {xs:List D} {us:List Value} (h:Cells H xs us) (n k:Nat):Cells H ((xs.drop n).take k) ((us.drop n).take k):=by
 intro i x hx
 have hi:i<k:=by have:=lt_of_get hx; simp at this; omega
 rw [List.getElem?_take_of_lt hi,List.getElem?_drop] at hx
 obtain ⟨u,hu,hf⟩:=h _ _ hx
 exact ⟨u,by rw [List.getElem?_take_of_lt hi,List.getElem?_drop]; exact hu,hf⟩
def packed (P:Program) (t:TypeId) (us:List Value) (u:Value):Prop:=
 match P.underlying t with
 | some (.struct _)=>u=.agg us.toArray
 | _=>us[0]? = some u
theorem info_of {P:Program} {t:TypeId} {d:TypeDesc} (h:P.underlying t=some d):∃ i,P.info? t=some i:=by
 unfold Program.underlying at h
 cases hi:P.info? t with
 | none=>rw [hi] at h; simp at h
 | some i=>exact ⟨i,rfl⟩
theorem eq_run {P:Program} {w:World} {H:FH}:∀ (d n:Nat) (t:TypeId) (offs:List (Nat×CK)) (xs ys:List D) (us vs:List Value) (u v:Value) (b:Bool),d<=n ->
  eqL P d t=some offs->eqDs offs xs ys=some b->Cells H xs us->Cells H ys vs->packed P t us u->packed P t vs v ->
  (Op.equalIn n t u v).run P w=.ok b w:=by
 intro d
 induction d with
 | zero=>intro n t offs xs ys us vs u v b _ h; simp [eqL] at h
 | succ d ih=>
  intro n t offs xs ys us vs u v b hn h hb hx hy hu hv
  cases n with
  | zero=>omega
  | succ n=>
  simp only [eqL] at h
  cases ht:P.underlying t with
  | none=>rw [ht] at h; simp at h
  | some td=>
   rw [ht] at h
   have one:∀ ck,offs=[(0,ck)]->∃ x y,eqD ck x y=some b/\(∃ u',us[0]? = some u'/\FDx H x u')/\(∃ v',vs[0]? = some v'/\FDx H y v'):=by
    intro ck e
    subst e
    obtain ⟨x,y,b1,c1,h1,h2,h3,h4,rfl⟩:=eqDs_cons hb
    simp only [eqDs,Option.some.injEq] at h4
    exact ⟨x,y,by rw [h3,<- h4]; simp,hx _ _ h1,hy _ _ h2⟩
   cases td with
   | int k0=>
    simp only [Option.some.injEq] at h
    obtain ⟨x,y,h1,⟨u',h2,h3⟩,⟨v',h4,h5⟩⟩:=one .i h.symm
    simp only [packed,ht] at hu hv
    rw [hu] at h2; rw [hv] at h4
    simp only [Option.some.injEq] at h2 h4
    subst h2; subst h4
    cases x <;> cases y <;> simp only [eqD,reduceCtorEq] at h1
    obtain ⟨rfl,_⟩:=FDx_int h3
    obtain ⟨rfl,_⟩:=FDx_int h5
    split at h1
    ·rename_i e
     subst e
     simp only [Option.some.injEq] at h1
     rw [run_equalIn_int w n t _ k0 _ _ ht,beq_dec,h1]
    ·simp at h1
   | string=>
    simp only [Option.some.injEq] at h
    obtain ⟨x,y,h1,⟨u',h2,h3⟩,⟨v',h4,h5⟩⟩:=one .s h.symm
    simp only [packed,ht] at hu hv
    rw [hu] at h2; rw [hv] at h4
    simp only [Option.some.injEq] at h2 h4
    subst h2; subst h4
    cases x <;> cases y <;> simp only [eqD,reduceCtorEq] at h1
    obtain ⟨rfl,_⟩:=FDx_str h3
    obtain ⟨rfl,_⟩:=FDx_str h5
    simp only [Option.some.injEq] at h1
    rw [run_equalIn_string w n t _ _ ht,<- h1]
    simp [beq_dec]
   | bool=>
    simp only [Option.some.injEq] at h
    obtain ⟨x,y,h1,⟨u',h2,h3⟩,⟨v',h4,h5⟩⟩:=one .b h.symm
    simp only [packed,ht] at hu hv
    rw [hu] at h2; rw [hv] at h4
    simp only [Option.some.injEq] at h2 h4
    subst h2; subst h4
    cases x <;> cases y <;> simp only [eqD,reduceCtorEq] at h1
    obtain rfl:=FDx_bool h3
    obtain rfl:=FDx_bool h5
    simp only [Option.some.injEq] at h1
    rw [run_equalIn_bool' w n t _ _ ht,h1]
   | struct fs=>
    dsimp only at h
    split at h
    ·simp at h
    ·rename_i hst
     simp only [packed,ht] at hu hv
     subst hu; subst hv
     have hf:P.fieldsOf t=fs:=by simp only [Program.fieldsOf,ht]
     rw [run_equalIn_struct w n t _ _ (by rw [hf]; exact ht) (by simpa using hst),hf]
     generalize fs.toList=l at h
     clear ht hf one fs
     induction l generalizing offs b with
     | nil=>
      simp only [List.foldr_nil,Option.some.injEq] at h
      subst h
      simp only [eqDs,Option.some.injEq] at hb
      subst hb
      simp [Op.eqFields]
     | cons f l ihl=>
      simp only [List.foldr_cons] at h
      cases hf:eqL P d f.type with
      | none=>simp [hf] at h
      | some l1=>
       generalize hr:List.foldr (fun f acc=>match eqL P d f.type,acc with
        | some l,some r=>if f.name = "_" \/ l.all (fun x=>decide (x.1<P.cellsOf f.type))=false then none else some (l.map (fun x=>(x.1+f.offset,x.2))++r)
        | _,_=>none) (some []) l=acc at h ihl
       cases acc with
       | none=>simp [hf] at h
       | some r=>
        rw [hf] at h
        dsimp only at h
        split at h
        ·simp at h
        ·rename_i hcond
         simp only [not_or,Bool.not_eq_false] at hcond
         obtain ⟨hname,hall⟩:=hcond
         simp only [Option.some.injEq] at h
         subst h
         obtain ⟨b1,b2,h1,h2,rfl⟩:=eqDs_app hb
         have hall':∀ x∈l1,x.1<P.cellsOf f.type:=by simpa using hall
         have h1':=eqDs_off h1 hall'
         have rest:=ihl r b2 h2 rfl
         have parts:∃ a c,(part f.type us.toArray f.offset).run P w=.ok a w/\(part f.type vs.toArray f.offset).run P w=.ok c w/\(Op.equalIn n f.type a c).run P w=.ok b1 w:=by
          cases d with
          | zero=>simp [eqL] at hf
          | succ d0=>
          have hund:∃ td,P.underlying f.type=some td:=by
           simp only [eqL] at hf
           cases hu:P.underlying f.type with
           | none=>rw [hu] at hf; simp at hf
           | some td=>exact ⟨td,rfl⟩
          obtain ⟨td,hund⟩:=hund
          obtain ⟨i,hi⟩:=info_of hund
          have hsz:P.cellsOf f.type=i.size:=by simp [Program.cellsOf,hi]
          by_cases hs:∃ fs',td=.struct fs'
          ·obtain ⟨fs',rfl⟩:=hs
           refine ⟨.agg ((us.drop f.offset).take (P.cellsOf f.type)).toArray,.agg ((vs.drop f.offset).take (P.cellsOf f.type)).toArray,?_,?_,?_⟩
           ·exact runs_part_agg hund rfl hi us f.offset
           ·exact runs_part_agg hund rfl hi vs f.offset
           ·exact ih n f.type l1 _ _ _ _ _ _ b1 (by omega) hf h1' (Cells_sub hx _ _) (Cells_sub hy _ _) (by simp only [packed,hund]) (by simp only [packed,hund])
          · -- one cell
           have hsc:∃ ck,l1=[(0,ck)]:=by
            simp only [eqL,hund] at hf
            cases td <;> simp only [Option.some.injEq,reduceCtorEq] at hf
            ·exact ⟨_,hf.symm⟩
            ·exact ⟨_,hf.symm⟩
            ·exact ⟨_,hf.symm⟩
            ·exact absurd ⟨_,rfl⟩ hs
           obtain ⟨ck,rfl⟩:=hsc
           obtain ⟨x,y,b3,c3,g1,g2,g3,g4,g5⟩:=eqDs_cons h1'
           have hagg:aggD td=false:=by
            cases td <;> first | rfl | (exact absurd ⟨_,rfl⟩ hs) | (simp only [eqL,hund] at hf; simp at hf)
           have hpk:∀ (zs:List Value) (z:Value),packed P f.type zs z ↔ zs[0]? = some z:=by
            intro zs z
            simp only [packed,hund]
            cases td <;> first | exact Iff.rfl | (exact absurd ⟨_,rfl⟩ hs)
           have hcx:=Cells_sub hx f.offset (P.cellsOf f.type)
           have hcy:=Cells_sub hy f.offset (P.cellsOf f.type)
           obtain ⟨a,ha,_⟩:=hcx _ _ g1
           obtain ⟨c,hc,_⟩:=hcy _ _ g2
           have h0:0<P.cellsOf f.type:=hall' (0,ck) (by simp)
           have ha':us[f.offset]? = some a:=by
            rw [List.getElem?_take_of_lt h0,List.getElem?_drop] at ha; simpa using ha
           have hc':vs[f.offset]? = some c:=by
            rw [List.getElem?_take_of_lt h0,List.getElem?_drop] at hc; simpa using hc
           refine ⟨a,c,?_,?_,ih n f.type [(0,ck)] _ _ _ _ _ _ b1 (by omega) hf h1' hcx hcy ((hpk _ _).2 ha) ((hpk _ _).2 hc)⟩
           ·exact runs_part_one hund hagg ha'
           ·exact runs_part_one hund hagg hc'
         obtain ⟨a,c,p1,p2,p3⟩:=parts
         simp only [Op.eqFields,ne_eq,hname,not_false_eq_true,if_true,Sem.run_bind,p1,p2,p3,Result.andThen_ok]
         cases b1 with
         | true=>simpa using rest
         | false=>simp
   | _=>simp at h
end Go.Am
end

section
namespace Go.Am
inductive TK where
 | int (k:IntKind)
 | bool
 | str
 | sl (e:TypeId)
 | st (fs:List (Nat×Nat×Option Bool))
 | ar (n:Nat) (e:TypeId)
 | pt (e:TypeId)
 | mp (k e:TypeId)
 | fn
 | ot
 deriving DecidableEq
structure TyI where
 ok:Bool
 agg:Bool
 size:Nat
 bytes:Nat
 k:TK
 deriving DecidableEq
def aggT (P:Program) (t:TypeId):Option Bool:=(P.underlying t).map aggD
def tkOf (P:Program):TypeDesc->TK
 | .int k=>.int k
 | .bool=>.bool
 | .string=>.str
 | .slice e=>.sl e
 | .struct fs=>.st (fs.toList.map fun f=>(f.offset,P.cellsOf f.type,aggT P f.type))
 | .array n e=>.ar n e
 | .pointer e=>.pt e
 | .map k e=>.mp k e
 | .func _ _ _=>.fn
 | _=>.ot
def ty (P:Program) (t:TypeId):TyI:=
 match P.info? t,P.underlying t with
 | some i,some d=>⟨true,aggD d,i.size,i.bytes,tkOf P d⟩
 | _,_=>⟨false,false,0,0,.ot⟩
theorem ty_ok {P:Program} {t:TypeId} (h:(ty P t).ok=true):∃ i d,P.info? t=some i/\P.underlying t=some d/\(ty P t).agg=aggD d/\(ty P t).size=i.size/\(ty P t).bytes=i.bytes/\(ty P t).k=tkOf P d:=by
 unfold ty at h ⊢
 cases hi:P.info? t with
 | none=>rw [hi] at h; simp at h
 | some i=>
  cases hd:P.underlying t with
  | none=>rw [hi,hd] at h; simp at h
  | some d=>exact ⟨i,d,rfl,rfl,rfl,rfl,rfl,rfl⟩
theorem ty_size {P:Program} {t:TypeId} (h:(ty P t).ok=true):(ty P t).size=P.cellsOf t:=by
 obtain ⟨i,d,h1,_,_,h4,_⟩:=ty_ok h
 rw [h4]; simp [Program.cellsOf,h1]
theorem ty_und {P:Program} {t:TypeId} {κ:TK} (h:(ty P t).k=κ) (h0:κ≠.ot):∃ i d,P.info? t=some i/\P.underlying t=some d/\tkOf P d=κ/\(ty P t).ok=true:=by
 by_cases hok:(ty P t).ok=true
 ·obtain ⟨i,d,h1,h2,_,_,_,h6⟩:=ty_ok hok
  exact ⟨i,d,h1,h2,by rw [<- h6]; exact h,hok⟩
 ·exfalso
  unfold ty at h hok
  cases hi:P.info? t with
  | none=>rw [hi] at h; exact h0 h.symm
  | some i=>
   cases hd:P.underlying t with
   | none=>rw [hi,hd] at h; exact h0 h.symm
   | some d=>rw [hi,hd] at hok; simp at hok
theorem tk_int {P:Program} {d:TypeDesc} {k:IntKind} (h:tkOf P d=.int k):d=.int k:=by
 cases d <;> simp [tkOf] at h; subst h; rfl
theorem tk_bool {P:Program} {d:TypeDesc} (h:tkOf P d=.bool):d=.bool:=by cases d <;> simp [tkOf] at h; rfl
theorem tk_str {P:Program} {d:TypeDesc} (h:tkOf P d=.str):d=.string:=by cases d <;> simp [tkOf] at h; rfl
theorem tk_sl {P:Program} {d:TypeDesc} {e:TypeId} (h:tkOf P d=.sl e):d=.slice e:=by cases d <;> simp [tkOf] at h; subst h; rfl
theorem tk_ar {P:Program} {d:TypeDesc} {n:Nat} {e:TypeId} (h:tkOf P d=.ar n e):d=.array n e:=by cases d <;> simp [tkOf] at h; obtain ⟨rfl,rfl⟩:=h; rfl
theorem tk_st {P:Program} {d:TypeDesc} {l:List (Nat×Nat×Option Bool)} (h:tkOf P d=.st l):∃ fs,d=.struct fs/\l=fs.toList.map fun f=>(f.offset,P.cellsOf f.type,aggT P f.type):=by
 cases d <;> simp [tkOf] at h; exact ⟨_,rfl,h.symm⟩
def okv:D->Prop
 | .int .i64 n=>-9223372036854775808<=n/\n<=9223372036854775807
 | .int .i32 n=>-2147483648<=n/\n<=2147483647
 | .int .i16 n=>-32768<=n/\n<=32767
 | .int .i8 n=>-128<=n/\n<=127
 | .int .u64 n=>0<=n/\n<=18446744073709551615
 | .int .u32 n=>0<=n/\n<=4294967295
 | .int .u16 n=>0<=n/\n<=65535
 | .int .u8 n=>0<=n/\n<=255
 | .str l=>l.length<=4611686018427387904
 | .li l=>l.length<=4611686018427387904
 | _=>True
theorem okv_of {H:FH} {x:D} {y:Value} (h:FDx H x y):okv x:=by
 cases x with
 | int k n=>
  obtain ⟨_,hw⟩:=FDx_int h
  simp only [Lit.wf,Bool.and_eq_true,decide_eq_true_eq] at hw
  obtain ⟨h1,h2⟩:=hw
  cases k <;> simp only [okv]
  ·exact ⟨Int.le_trans (by decide) h1,Int.le_trans h2 (by decide)⟩
  ·exact ⟨Int.le_trans (by decide) h1,Int.le_trans h2 (by decide)⟩
  ·exact ⟨Int.le_trans (by decide) h1,Int.le_trans h2 (by decide)⟩
  ·exact ⟨Int.le_trans (by decide) h1,Int.le_trans h2 (by decide)⟩
  ·exact ⟨Int.le_trans (by decide) h1,Int.le_trans h2 (by decide)⟩
  ·exact ⟨Int.le_trans (by decide) h1,Int.le_trans h2 (by decide)⟩
  ·exact ⟨Int.le_trans (by decide) h1,Int.le_trans h2 (by decide)⟩
  ·exact ⟨Int.le_trans (by decide) h1,Int.le_trans h2 (by decide)⟩
 | str l=>exact (FDx_str h).2
 | li l=>
  obtain ⟨m,h⟩:=h
  cases m with
  | zero=>exact h.elim
  | succ m=>obtain ⟨a,c,_,_,hb,_⟩:=FD_li.1 h; exact hb
 | _=>trivial
def okvs:List D->Prop
 | []=>True
 | x::xs=>okv x/\okvs xs
def gsel (c want:Bool) (A B:Prop):Prop:=
 match c,want with
 | true,true=>A
 | false,false=>A
 | true,false=>B
 | false,true=>B
theorem gsel_dest {c want:Bool} {A B:Prop} (h:gsel c want A B):(c=want->A)/\(c=(!want)->B):=by
 cases c <;> cases want <;> (constructor <;> intro e <;> first | exact h | (cases e; done))
def pickK (c x y:AV) (k:AV->Prop):Prop:=
 match c with
 | .one (.c (.d (.bool b)))=>gsel b true (k x) (k y)
 | _=>False
def TD:T->D
 | .d x=>x
 | _=>.any
def eqArr (P:Program) (t:TypeId):Option (List (Nat×CK)):=match P.underlying t with
 | some (.array n e)=>match eqL P 1 e with
  | some [(0,ck)]=>if P.cellsOf e=1 then some ((List.range n).map fun i=>(i,ck)) else none
  | _=>none
 | _=>none
def eqTab (P:Program) (t:TypeId):Option (List (Nat×CK)):=if P.eqGuardType P.depth t=false/\(ty P t).agg=true then (match eqL P 20 t with
 | some l=>some l
 | none=>eqArr P t) else none
def binK (P:Program) (op:BinOp) (t:TypeId) (x y:AV) (k:AV->Prop):Prop:=
 match x,y with
 | .one (.c (.d (.bool a))),.one (.c (.d (.bool b)))=>(ty P t).k=.bool/\match op with
  | .eql=>k (sc (.bool (a==b)))
  | .neq=>k (sc (.bool (!(a==b))))
  | _=>False
 | .one (.c (.d a)),.one (.c (.d b))=>binD op a b fun d=>k (sc d)
 | .one (.agg xs),.one (.agg ys)=>match eqTab P t with
  | some l=>match eqDs l (xs.map TD) (ys.map TD),op with
   | some b,.eql=>k (sc (.bool b))
   | some b,.neq=>k (sc (.bool (!b)))
   | _,_=>False
  | none=>False
 | _,_=>False
def unK (op:UnOp) (x:AV) (k:AV->Prop):Prop:=
 match op,x with
 | .not,.one (.c (.d (.bool b)))=>k (sc (.bool (!b)))
 | .neg,.one (.c (.d (.int κ n)))=>k (sc (.int κ (κ.wrap (0-n))))
 | .xor,.one (.c (.d (.int κ n)))=>k (sc (.int κ (κ.wrap (BitVec.ofInt κ.bits (if κ.signed then -1 else κ.max) ^^^ BitVec.ofInt κ.bits n).toNat)))
 | _,_=>False
def extractK (x:AV) (i:Nat) (k:AV->Prop):Prop:=
 match x with
 | .tup vs=>match vs[i]? with
  | some v=>k (.one v)
  | none=>False
 | _=>False
def mkT:Sh->D->T
 | .fr,x=>.d x
 | .ow s,.li l=>.ow s l
 | .ow _,_=>.any
def inK (sub:List Sh) (l:List (List D)) (n:Nat):List Step->(List T->Prop)->Prop
 | [],_=>False
 | [st],k=>st.off+n<=sub.length/\match l[st.idx]? with
  | some x=>k (List.zipWith mkT ((sub.drop st.off).take n) ((x.drop st.off).take n))
  | none=>False
 | st::st'::r,k=>match l[st.idx]? with
  | some x=>match sub[st.off]?,x[st.off]? with
   | some (.ow s),some (.li l')=>inK s l' n (st'::r) k
   | _,_=>False
  | none=>False
def atK (m:Mm) (p:Pl) (n:Nat) (k:List T->Prop):Prop:=
 match getR m p.root with
 | none=>False
 | some r=>match p.path,r.cells[p.off]? with
  | [],_=>p.off+n<=r.cells.length/\k ((r.cells.drop p.off).take n)
  | st::q,some (.ow sub l)=>inK sub l n (st::q) k
  | _,_=>False
def lenK (m:Mm) (x:AV) (k:Nat->Prop):Prop:=
 match x with
 | .one (.c (.d (.str l)))=>l.length<=4611686018427387904->k l.length
 | .one (.c (.d (.li l)))=>l.length<=4611686018427387904->k l.length
 | .one (.c .nil)=>k 0
 | .one (.c (.rf p))=>atK m p 1 fun
  | [.ow _ l]=>l.length<=4611686018427387904->k l.length
  | _=>False
 | _=>False
def strAtK (x i:AV) (k:AV->Prop):Prop:=
 match x,i with
 | .one (.c (.d (.str l))),.one (.c (.d (.int _ n)))=>0<=n/\match l[n.toNat]? with
  | some b=>k (sc (.int .u8 b.toNat))
  | none=>False
 | _,_=>False
def boundK (x:Option AV) (d:Nat) (k:Nat->Prop):Prop:=
 match x with
 | none=>k d
 | some (.one (.c (.d (.int _ n))))=>0<=n/\k n.toNat
 | _=>False
def sliceK (P:Program) (t:TypeId) (x:AV) (lo hi:Option AV) (k:AV->Prop):Prop:=
 match x with
 | .one (.c (.d (.str l)))=>(ty P t).k=.str/\boundK lo 0 fun a=>boundK hi l.length fun b=>(a<=b/\b<=l.length)/\k (sc (.str ((l.drop a).take (b-a))))
 | .one (.c (.d (.li l)))=>match (ty P t).k with
  | .sl e=>(ty P e).ok=true/\(∀ x∈l,x.length=(ty P e).size)/\boundK lo 0 fun a=>boundK hi l.length fun b=>(a<=b/\b<=l.length)/\k (sc (.li ((l.drop a).take (b-a))))
  | _=>False
 | .one (.c .nil)=>match (ty P t).k with
  | .sl e=>(ty P e).ok=true/\boundK lo 0 fun a=>boundK hi 0 fun b=>a<=b/\b<=0/\k (.one (.c .nil))
  | _=>False
 | .one (.c (.el row o))=>match (ty P t).k with
  | .ar N e=>(ty P e).ok=true/\(ty P e).size=1/\o+N<=row.length/\N<=4611686018427387904/\boundK lo 0 fun a=>boundK hi N fun b=>(a<=b/\b<=N)/\k (sc (.li (((((row.drop o).take N).drop a).take (b-a)).map fun x=>[x])))
  | _=>False
 | _=>False
def addLast:List Step->Nat->List Step
 | [],_=>[]
 | [st],n=>[{ st with off:=st.off+n }]
 | st::st'::r,n=>st::addLast (st'::r) n
def Pl.add (p:Pl) (n:Nat):Pl:=
 match p.path with
 | []=>{ p with off:=p.off+n }
 | st::r=>{ p with path:=addLast (st::r) n }
def roomO (sub:List Sh):List Step->Option Nat
 | []=>none
 | [st]=>some (sub.length-st.off)
 | st::st'::r=>match sub[st.off]? with
  | some (.ow s)=>roomO s (st'::r)
  | _=>none
def room (m:Mm) (p:Pl):Option Nat:=
 match getR m p.root with
 | none=>none
 | some r=>match p.path,r.cells[p.off]? with
  | [],_=>some (r.cells.length-p.off)
  | st::q,some (.ow sub _)=>roomO sub (st::q)
  | _,_=>none
def hasRoom (m:Mm) (p:Pl) (n:Nat):Prop:=
 match room m p with
 | some k=>n<k
 | none=>False
end Go.Am
end
