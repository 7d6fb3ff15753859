/-
  Part 3: AmBin · AmVal · AmValOk · AmPtr · AmPlace · AmLoad.
-/
import Derived.Test.YtlikflolhhlgjaaGreatDoorPa2
import Derived.OpenShut
import Derived.Laws.StructEq
set_option linter.unusedSimpArgs false
set_option linter.unusedVariables false
set_option linter.unusedSectionVars false
set_option linter.unnecessarySimpa false
section
namespace Go.Am
theorem str_append (a b:List UInt8):(⟨a.toArray⟩:ByteArray)++⟨b.toArray⟩=⟨(a++b).toArray⟩:=by
 rw [ByteArray.ext_iff]; simp [ByteArray.data_append]
theorem mkI {H:FH} {k:IntKind} {n:Int} (h:(Lit.int k n).wf=true):FDx H (.int k n) (.int k n):=⟨0,rfl,h⟩
theorem mkB {H:FH} {b:Bool}:FDx H (.bool b) (.bool b):=⟨0,rfl⟩
theorem mkS {H:FH} {l:List UInt8} (h:l.length<=BIG):FDx H (.str l) (.string ⟨l.toArray⟩):=⟨0,rfl,h⟩
theorem beq_dec {α:Type} [BEq α] [LawfulBEq α] [DecidableEq α] (a b:α):(a==b)=decide (a=b):=by
 by_cases h:a=b
 ·subst h; simp
 ·simp [h]
theorem binD_ok {P:Program} {H:FH} {op:BinOp} {t:TypeId} {x y:D} {K:D->Prop} {u v:Value} (hx:FDx H x u) (hy:FDx H y v) (h:binD op x y K) :
  ∃ z d,(∀ w:World,(binOp op t u v).run P w=.ok z w)/\FDx H d z/\K d:=by
 cases x with
 | int k a=>
  obtain ⟨rfl,ha⟩:=FDx_int hx
  cases y with
  | int k' b=>
   obtain ⟨rfl,hb⟩:=FDx_int hy
   cases op <;> simp only [binD] at h
   case add=>obtain ⟨rfl,h⟩:=h; exact ⟨_,_,fun w=>by simp only [binOp,Op.intArith,ne_eq,not_true_eq_false,if_false]; rfl,mkI (wf_wrap _ _),h⟩
   case sub=>obtain ⟨rfl,h⟩:=h; exact ⟨_,_,fun w=>by simp only [binOp,Op.intArith,ne_eq,not_true_eq_false,if_false]; rfl,mkI (wf_wrap _ _),h⟩
   case mul=>obtain ⟨rfl,h⟩:=h; exact ⟨_,_,fun w=>by simp only [binOp,Op.intArith,ne_eq,not_true_eq_false,if_false]; rfl,mkI (wf_wrap _ _),h⟩
   case quo=>obtain ⟨rfl,h0,h⟩:=h; exact ⟨_,_,fun w=>by simp only [binOp,Op.intDiv,ne_eq,not_true_eq_false,if_false,h0]; rfl,mkI (wf_wrap _ _),h⟩
   case rem=>obtain ⟨rfl,h0,h⟩:=h; exact ⟨_,_,fun w=>by simp only [binOp,Op.intDiv,ne_eq,not_true_eq_false,if_false,h0]; rfl,mkI (wf_tmod ha),h⟩
   case and=>obtain ⟨rfl,h⟩:=h; exact ⟨_,_,fun w=>by simp only [binOp,Op.intBits,ne_eq,not_true_eq_false,if_false]; rfl,mkI (wf_wrap _ _),h⟩
   case or=>obtain ⟨rfl,h⟩:=h; exact ⟨_,_,fun w=>by simp only [binOp,Op.intBits,ne_eq,not_true_eq_false,if_false]; rfl,mkI (wf_wrap _ _),h⟩
   case xor=>obtain ⟨rfl,h⟩:=h; exact ⟨_,_,fun w=>by simp only [binOp,Op.intBits,ne_eq,not_true_eq_false,if_false]; rfl,mkI (wf_wrap _ _),h⟩
   case andNot=>obtain ⟨rfl,h⟩:=h; exact ⟨_,_,fun w=>by simp only [binOp,Op.intBits,ne_eq,not_true_eq_false,if_false]; rfl,mkI (wf_wrap _ _),h⟩
   case shl=>obtain ⟨h0,h⟩:=h; exact ⟨_,_,fun w=>by simp only [binOp,Op.shift]; rw [if_neg (by omega)]; rfl,mkI (wf_wrap _ _),h⟩
   case shr=>obtain ⟨h0,h⟩:=h; exact ⟨_,_,fun w=>by simp only [binOp,Op.shift]; rw [if_neg (by omega)]; rfl,mkI (wf_fdiv ha),h⟩
   case eql=>obtain ⟨rfl,h⟩:=h; exact ⟨_,_,fun w=>by simp only [binOp,Op.intCmp,ne_eq,not_true_eq_false,if_false]; rfl,mkB,by rw [beq_dec]; exact h⟩
   case neq=>obtain ⟨rfl,h⟩:=h; exact ⟨_,_,fun w=>by simp only [binOp,Op.intCmp,ne_eq,not_true_eq_false,if_false]; rfl,mkB,by rw [bne,beq_dec]; exact h⟩
   case lss=>obtain ⟨rfl,h⟩:=h; exact ⟨_,_,fun w=>by simp only [binOp,Op.intCmp,ne_eq,not_true_eq_false,if_false]; rfl,mkB,h⟩
   case leq=>obtain ⟨rfl,h⟩:=h; exact ⟨_,_,fun w=>by simp only [binOp,Op.intCmp,ne_eq,not_true_eq_false,if_false]; rfl,mkB,h⟩
   case gtr=>obtain ⟨rfl,h⟩:=h; exact ⟨_,_,fun w=>by simp only [binOp,Op.intCmp,ne_eq,not_true_eq_false,if_false]; rfl,mkB,h⟩
   case geq=>obtain ⟨rfl,h⟩:=h; exact ⟨_,_,fun w=>by simp only [binOp,Op.intCmp,ne_eq,not_true_eq_false,if_false]; rfl,mkB,h⟩
  | _=>exact h.elim
 | str a=>
  obtain ⟨rfl,ha⟩:=FDx_str hx
  cases y with
  | str b=>
   obtain ⟨rfl,hb⟩:=FDx_str hy
   cases op <;> simp only [binD] at h
   case add=>
    obtain ⟨h0,h⟩:=h
    refine ⟨_,_,?_,mkS (l:=a++b) (by rw [List.length_append]; exact h0),h⟩
    intro w
    simp only [binOp,Op.stringOp]
    rw [if_neg (by
     have e:IntKind.i64.max=9223372036854775807:=by decide
     rw [e]
     simp only [ByteArray.size,List.size_toArray]
     omega)]
    rw [str_append]; rfl
   case eql=>exact ⟨_,_,fun w=>by simp only [binOp,Op.stringOp]; rfl,mkB,by simpa [beq_dec] using h⟩
   case neq=>exact ⟨_,_,fun w=>by simp only [binOp,Op.stringOp]; rfl,mkB,by simpa [beq_dec] using h⟩
   case lss=>exact ⟨_,_,fun w=>by simp only [binOp,Op.stringOp]; rfl,mkB,by simpa using h⟩
   case leq=>exact ⟨_,_,fun w=>by simp only [binOp,Op.stringOp]; rfl,mkB,by simpa [beq_dec] using h⟩
   case gtr=>exact ⟨_,_,fun w=>by simp only [binOp,Op.stringOp]; rfl,mkB,by simpa [beq_dec] using h⟩
   case geq=>exact ⟨_,_,fun w=>by simp only [binOp,Op.stringOp]; rfl,mkB,by simpa using h⟩
  | _=>exact h.elim
 | _=>cases y <;> exact h.elim
inductive CK where
 | i | s | b
 deriving DecidableEq
def eqL (P:Program):Nat->TypeId->Option (List (Nat×CK))
 | 0,_=>none
 | d+1,t=>match P.underlying t with
  | some (.int _)=>some [(0,.i)]
  | some .string=>some [(0,.s)]
  | some .bool=>some [(0,.b)]
  | some (.struct fs)=>if P.stoodInHeld t then none else fs.toList.foldr (fun f acc=>match eqL P d f.type,acc with
    | some l,some r=>if f.name = "_" \/ l.all (fun x=>decide (x.1<P.cellsOf f.type))=false then none else some (l.map (fun x=>(x.1+f.offset,x.2))++r)
    | _,_=>none) (some [])
  | _=>none
def eqD (ck:CK) (x y:D):Option Bool:=
 match ck,x,y with
 | .i,.int k a,.int k' b=>if k=k' then some (decide (a=b)) else none
 | .s,.str a,.str b=>some (decide (a=b))
 | .b,.bool a,.bool b=>some (a==b)
 | _,_,_=>none
def eqDs:List (Nat×CK)->List D->List D->Option Bool
 | [],_,_=>some true
 | (o,ck)::l,xs,ys=>match xs[o]?,ys[o]? with
  | some x,some y=>match eqD ck x y,l with
   | some b,[]=>some b
   | some b,l=>(eqDs l xs ys).map (b&&·)
   | none,_=>none
  | _,_=>none
theorem eqDs_cons {o:Nat} {ck:CK} {l:List (Nat×CK)} {xs ys:List D} {r:Bool} (h:eqDs ((o,ck)::l) xs ys=some r) :
  ∃ x y b c,xs[o]? = some x/\ys[o]? = some y/\eqD ck x y=some b/\eqDs l xs ys=some c/\r=(b&&c):=by
 simp only [eqDs] at h
 cases hx:xs[o]? with
 | none=>simp [hx] at h
 | some x=>
  cases hy:ys[o]? with
  | none=>simp [hx,hy] at h
  | some y=>
   simp only [hx,hy] at h
   cases hb:eqD ck x y with
   | none=>simp [hb] at h
   | some b=>
    simp only [hb] at h
    cases l with
    | nil=>simp only [Option.some.injEq] at h; exact ⟨x,y,b,true,rfl,rfl,hb,rfl,by simp [h]⟩
    | cons z l=>
     dsimp only at h
     cases hc:eqDs (z::l) xs ys with
     | none=>simp [hc] at h
     | some c=>simp [hc] at h; exact ⟨x,y,b,c,rfl,rfl,hb,rfl,h.symm⟩
theorem eqDs_app:∀ {l r:List (Nat×CK)} {xs ys:List D} {b:Bool},eqDs (l++r) xs ys=some b->∃ c d,eqDs l xs ys=some c/\eqDs r xs ys=some d/\b=(c&&d)
 | [],r,xs,ys,b,h=>⟨true,b,rfl,h,by simp⟩
 | (o,ck)::l,r,xs,ys,b,h=>by
  obtain ⟨x,y,b1,c1,h1,h2,h3,h4,rfl⟩:=eqDs_cons (l:=l++r) h
  obtain ⟨c,d,h5,h6,rfl⟩:=eqDs_app h4
  refine ⟨b1&&c,d,?_,h6,by rw [Bool.and_assoc]⟩
  simp only [eqDs,h1,h2,h3]
  cases l with
  | nil=>simp only [eqDs,Option.some.injEq] at h5; simp [<- h5]
  | cons z l=>dsimp only; rw [h5]; rfl
theorem eqDs_off:∀ {l:List (Nat×CK)} {xs ys:List D} {n k:Nat} {b:Bool},eqDs (l.map (fun x=>(x.1+n,x.2))) xs ys=some b->(∀ x∈l,x.1<k) ->
  eqDs l ((xs.drop n).take k) ((ys.drop n).take k)=some b
 | [],_,_,_,_,_,h,_=>h
 | (o,ck)::l,xs,ys,n,k,b,h,hk=>by
  obtain ⟨x,y,b1,c1,h1,h2,h3,h4,rfl⟩:=eqDs_cons h
  have h5:=eqDs_off h4 (fun x hx=>hk x (List.mem_cons_of_mem _ hx))
  have ho:o<k:=hk (o,ck) (by simp)
  have e1:((xs.drop n).take k)[o]? = some x:=by rw [List.getElem?_take_of_lt ho,List.getElem?_drop,Nat.add_comm]; exact h1
  have e2:((ys.drop n).take k)[o]? = some y:=by rw [List.getElem?_take_of_lt ho,List.getElem?_drop,Nat.add_comm]; exact h2
  simp only [eqDs,e1,e2,h3]
  cases l with
  | nil=>simp only [List.map_nil,eqDs,Option.some.injEq] at h4; simp [<- h4]
  | cons z l=>dsimp only; rw [h5]; rfl
def Cells (H:FH) (xs:List D) (us:List Value):Prop:=∀ (i:Nat) (x:D),xs[i]? = some x->∃ u,us[i]? = some u/\FDx H x u
theorem Cells_sub {H:FH} {xs:List D} {us:List Value} (h:Cells H xs us) (n k:Nat):Cells H ((xs.drop n).take k) ((us.drop n).take k):=by
 intro i x hx
 have hi:i<k:=by have:=lt_of_get hx; simp at this; omega
 rw [List.getElem?_take_of_lt hi,List.getElem?_drop] at hx
 obtain ⟨u,hu,hf⟩:=h _ _ hx
 exact ⟨u,by rw [List.getElem?_take_of_lt hi,List.getElem?_drop]; exact hu,hf⟩
def packed (P:Program) (t:TypeId) (us:List Value) (u:Value):Prop:=
 match P.underlying t with
 | some (.struct _)=>u=.agg us.toArray
 | _=>us[0]? = some u
theorem info_of {P:Program} {t:TypeId} {d:TypeDesc} (h:P.underlying t=some d):∃ i,P.info? t=some i:=by
 unfold Program.underlying at h
 cases hi:P.info? t with
 | none=>rw [hi] at h; simp at h
 | some i=>exact ⟨i,rfl⟩
theorem eq_run {P:Program} {w:World} {H:FH}:∀ (d n:Nat) (t:TypeId) (offs:List (Nat×CK)) (xs ys:List D) (us vs:List Value) (u v:Value) (b:Bool),d<=n ->
  eqL P d t=some offs->eqDs offs xs ys=some b->Cells H xs us->Cells H ys vs->packed P t us u->packed P t vs v ->
  (Op.equalIn n t u v).run P w=.ok b w:=by
 intro d
 induction d with
 | zero=>intro n t offs xs ys us vs u v b _ h; simp [eqL] at h
 | succ d ih=>
  intro n t offs xs ys us vs u v b hn h hb hx hy hu hv
  cases n with
  | zero=>omega
  | succ n=>
  simp only [eqL] at h
  cases ht:P.underlying t with
  | none=>rw [ht] at h; simp at h
  | some td=>
   rw [ht] at h
   have one:∀ ck,offs=[(0,ck)]->∃ x y,eqD ck x y=some b/\(∃ u',us[0]? = some u'/\FDx H x u')/\(∃ v',vs[0]? = some v'/\FDx H y v'):=by
    intro ck e
    subst e
    obtain ⟨x,y,b1,c1,h1,h2,h3,h4,rfl⟩:=eqDs_cons hb
    simp only [eqDs,Option.some.injEq] at h4
    exact ⟨x,y,by rw [h3,<- h4]; simp,hx _ _ h1,hy _ _ h2⟩
   cases td with
   | int k0=>
    simp only [Option.some.injEq] at h
    obtain ⟨x,y,h1,⟨u',h2,h3⟩,⟨v',h4,h5⟩⟩:=one .i h.symm
    simp only [packed,ht] at hu hv
    rw [hu] at h2; rw [hv] at h4
    simp only [Option.some.injEq] at h2 h4
    subst h2; subst h4
    cases x <;> cases y <;> simp only [eqD,reduceCtorEq] at h1
    obtain ⟨rfl,_⟩:=FDx_int h3
    obtain ⟨rfl,_⟩:=FDx_int h5
    split at h1
    ·rename_i e
     subst e
     simp only [Option.some.injEq] at h1
     rw [run_equalIn_int w n t _ k0 _ _ ht,beq_dec,h1]
    ·simp at h1
   | string=>
    simp only [Option.some.injEq] at h
    obtain ⟨x,y,h1,⟨u',h2,h3⟩,⟨v',h4,h5⟩⟩:=one .s h.symm
    simp only [packed,ht] at hu hv
    rw [hu] at h2; rw [hv] at h4
    simp only [Option.some.injEq] at h2 h4
    subst h2; subst h4
    cases x <;> cases y <;> simp only [eqD,reduceCtorEq] at h1
    obtain ⟨rfl,_⟩:=FDx_str h3
    obtain ⟨rfl,_⟩:=FDx_str h5
    simp only [Option.some.injEq] at h1
    rw [run_equalIn_string w n t _ _ ht,<- h1]
    simp [beq_dec]
   | bool=>
    simp only [Option.some.injEq] at h
    obtain ⟨x,y,h1,⟨u',h2,h3⟩,⟨v',h4,h5⟩⟩:=one .b h.symm
    simp only [packed,ht] at hu hv
    rw [hu] at h2; rw [hv] at h4
    simp only [Option.some.injEq] at h2 h4
    subst h2; subst h4
    cases x <;> cases y <;> simp only [eqD,reduceCtorEq] at h1
    obtain rfl:=FDx_bool h3
    obtain rfl:=FDx_bool h5
    simp only [Option.some.injEq] at h1
    rw [run_equalIn_bool' w n t _ _ ht,h1]
   | struct fs=>
    dsimp only at h
    split at h
    ·simp at h
    ·rename_i hst
     simp only [packed,ht] at hu hv
     subst hu; subst hv
     have hf:P.fieldsOf t=fs:=by simp only [Program.fieldsOf,ht]
     rw [run_equalIn_struct w n t _ _ (by rw [hf]; exact ht) (by simpa using hst),hf]
     generalize fs.toList=l at h
     clear ht hf one fs
     induction l generalizing offs b with
     | nil=>
      simp only [List.foldr_nil,Option.some.injEq] at h
      subst h
      simp only [eqDs,Option.some.injEq] at hb
      subst hb
      simp [Op.eqFields]
     | cons f l ihl=>
      simp only [List.foldr_cons] at h
      cases hf:eqL P d f.type with
      | none=>simp [hf] at h
      | some l1=>
       generalize hr:List.foldr (fun f acc=>match eqL P d f.type,acc with
        | some l,some r=>if f.name = "_" \/ l.all (fun x=>decide (x.1<P.cellsOf f.type))=false then none else some (l.map (fun x=>(x.1+f.offset,x.2))++r)
        | _,_=>none) (some []) l=acc at h ihl
       cases acc with
       | none=>simp [hf] at h
       | some r=>
        rw [hf] at h
        dsimp only at h
        split at h
        ·simp at h
        ·rename_i hcond
         simp only [not_or,Bool.not_eq_false] at hcond
         obtain ⟨hname,hall⟩:=hcond
         simp only [Option.some.injEq] at h
         subst h
         obtain ⟨b1,b2,h1,h2,rfl⟩:=eqDs_app hb
         have hall':∀ x∈l1,x.1<P.cellsOf f.type:=by simpa using hall
         have h1':=eqDs_off h1 hall'
         have rest:=ihl r b2 h2 rfl
         have parts:∃ a c,(part f.type us.toArray f.offset).run P w=.ok a w/\(part f.type vs.toArray f.offset).run P w=.ok c w/\(Op.equalIn n f.type a c).run P w=.ok b1 w:=by
          cases d with
          | zero=>simp [eqL] at hf
          | succ d0=>
          have hund:∃ td,P.underlying f.type=some td:=by
           simp only [eqL] at hf
           cases hu:P.underlying f.type with
           | none=>rw [hu] at hf; simp at hf
           | some td=>exact ⟨td,rfl⟩
          obtain ⟨td,hund⟩:=hund
          obtain ⟨i,hi⟩:=info_of hund
          have hsz:P.cellsOf f.type=i.size:=by simp [Program.cellsOf,hi]
          by_cases hs:∃ fs',td=.struct fs'
          ·obtain ⟨fs',rfl⟩:=hs
           refine ⟨.agg ((us.drop f.offset).take (P.cellsOf f.type)).toArray,.agg ((vs.drop f.offset).take (P.cellsOf f.type)).toArray,?_,?_,?_⟩
           ·exact runs_part_agg hund rfl hi us f.offset
           ·exact runs_part_agg hund rfl hi vs f.offset
           ·exact ih n f.type l1 _ _ _ _ _ _ b1 (by omega) hf h1' (Cells_sub hx _ _) (Cells_sub hy _ _) (by simp only [packed,hund]) (by simp only [packed,hund])
          · -- one cell
           have hsc:∃ ck,l1=[(0,ck)]:=by
            simp only [eqL,hund] at hf
            cases td <;> simp only [Option.some.injEq,reduceCtorEq] at hf
            ·exact ⟨_,hf.symm⟩
            ·exact ⟨_,hf.symm⟩
            ·exact ⟨_,hf.symm⟩
            ·exact absurd ⟨_,rfl⟩ hs
           obtain ⟨ck,rfl⟩:=hsc
           obtain ⟨x,y,b3,c3,g1,g2,g3,g4,g5⟩:=eqDs_cons h1'
           have hagg:aggD td=false:=by
            cases td <;> first | rfl | (exact absurd ⟨_,rfl⟩ hs) | (simp only [eqL,hund] at hf; simp at hf)
           have hpk:∀ (zs:List Value) (z:Value),packed P f.type zs z ↔ zs[0]? = some z:=by
            intro zs z
            simp only [packed,hund]
            cases td <;> first | exact Iff.rfl | (exact absurd ⟨_,rfl⟩ hs)
           have hcx:=Cells_sub hx f.offset (P.cellsOf f.type)
           have hcy:=Cells_sub hy f.offset (P.cellsOf f.type)
           obtain ⟨a,ha,_⟩:=hcx _ _ g1
           obtain ⟨c,hc,_⟩:=hcy _ _ g2
           have h0:0<P.cellsOf f.type:=hall' (0,ck) (by simp)
           have ha':us[f.offset]? = some a:=by
            rw [List.getElem?_take_of_lt h0,List.getElem?_drop] at ha; simpa using ha
           have hc':vs[f.offset]? = some c:=by
            rw [List.getElem?_take_of_lt h0,List.getElem?_drop] at hc; simpa using hc
           refine ⟨a,c,?_,?_,ih n f.type [(0,ck)] _ _ _ _ _ _ b1 (by omega) hf h1' hcx hcy ((hpk _ _).2 ha) ((hpk _ _).2 hc)⟩
           ·exact runs_part_one hund hagg ha'
           ·exact runs_part_one hund hagg hc'
         obtain ⟨a,c,p1,p2,p3⟩:=parts
         simp only [Op.eqFields,ne_eq,hname,not_false_eq_true,if_true,Sem.run_bind,p1,p2,p3,Result.andThen_ok]
         cases b1 with
         | true=>simpa using rest
         | false=>simp
   | _=>simp at h
end Go.Am
end

section
namespace Go.Am
inductive TK where
 | int (k:IntKind)
 | bool
 | str
 | sl (e:TypeId)
 | st (fs:List (Nat×Nat×Option Bool))
 | ar (n:Nat) (e:TypeId)
 | pt (e:TypeId)
 | mp (k e:TypeId)
 | fn
 | ot
 deriving DecidableEq
structure TyI where
 ok:Bool
 agg:Bool
 size:Nat
 bytes:Nat
 k:TK
 deriving DecidableEq
def aggT (P:Program) (t:TypeId):Option Bool:=(P.underlying t).map aggD
def tkOf (P:Program):TypeDesc->TK
 | .int k=>.int k
 | .bool=>.bool
 | .string=>.str
 | .slice e=>.sl e
 | .struct fs=>.st (fs.toList.map fun f=>(f.offset,P.cellsOf f.type,aggT P f.type))
 | .array n e=>.ar n e
 | .pointer e=>.pt e
 | .map k e=>.mp k e
 | .func _ _ _=>.fn
 | _=>.ot
def ty (P:Program) (t:TypeId):TyI:=
 match P.info? t,P.underlying t with
 | some i,some d=>⟨true,aggD d,i.size,i.bytes,tkOf P d⟩
 | _,_=>⟨false,false,0,0,.ot⟩
theorem ty_ok {P:Program} {t:TypeId} (h:(ty P t).ok=true):∃ i d,P.info? t=some i/\P.underlying t=some d/\(ty P t).agg=aggD d/\(ty P t).size=i.size/\(ty P t).bytes=i.bytes/\(ty P t).k=tkOf P d:=by
 unfold ty at h ⊢
 cases hi:P.info? t with
 | none=>rw [hi] at h; simp at h
 | some i=>
  cases hd:P.underlying t with
  | none=>rw [hi,hd] at h; simp at h
  | some d=>exact ⟨i,d,rfl,rfl,rfl,rfl,rfl,rfl⟩
theorem ty_size {P:Program} {t:TypeId} (h:(ty P t).ok=true):(ty P t).size=P.cellsOf t:=by
 obtain ⟨i,d,h1,_,_,h4,_⟩:=ty_ok h
 rw [h4]; simp [Program.cellsOf,h1]
theorem ty_und {P:Program} {t:TypeId} {κ:TK} (h:(ty P t).k=κ) (h0:κ≠.ot):∃ i d,P.info? t=some i/\P.underlying t=some d/\tkOf P d=κ/\(ty P t).ok=true:=by
 by_cases hok:(ty P t).ok=true
 ·obtain ⟨i,d,h1,h2,_,_,_,h6⟩:=ty_ok hok
  exact ⟨i,d,h1,h2,by rw [<- h6]; exact h,hok⟩
 ·exfalso
  unfold ty at h hok
  cases hi:P.info? t with
  | none=>rw [hi] at h; exact h0 h.symm
  | some i=>
   cases hd:P.underlying t with
   | none=>rw [hi,hd] at h; exact h0 h.symm
   | some d=>rw [hi,hd] at hok; simp at hok
theorem tk_int {P:Program} {d:TypeDesc} {k:IntKind} (h:tkOf P d=.int k):d=.int k:=by
 cases d <;> simp [tkOf] at h; subst h; rfl
theorem tk_bool {P:Program} {d:TypeDesc} (h:tkOf P d=.bool):d=.bool:=by cases d <;> simp [tkOf] at h; rfl
theorem tk_str {P:Program} {d:TypeDesc} (h:tkOf P d=.str):d=.string:=by cases d <;> simp [tkOf] at h; rfl
theorem tk_sl {P:Program} {d:TypeDesc} {e:TypeId} (h:tkOf P d=.sl e):d=.slice e:=by cases d <;> simp [tkOf] at h; subst h; rfl
theorem tk_ar {P:Program} {d:TypeDesc} {n:Nat} {e:TypeId} (h:tkOf P d=.ar n e):d=.array n e:=by cases d <;> simp [tkOf] at h; obtain ⟨rfl,rfl⟩:=h; rfl
theorem tk_st {P:Program} {d:TypeDesc} {l:List (Nat×Nat×Option Bool)} (h:tkOf P d=.st l):∃ fs,d=.struct fs/\l=fs.toList.map fun f=>(f.offset,P.cellsOf f.type,aggT P f.type):=by
 cases d <;> simp [tkOf] at h; exact ⟨_,rfl,h.symm⟩
def okv:D->Prop
 | .int .i64 n=>-9223372036854775808<=n/\n<=9223372036854775807
 | .int .i32 n=>-2147483648<=n/\n<=2147483647
 | .int .i16 n=>-32768<=n/\n<=32767
 | .int .i8 n=>-128<=n/\n<=127
 | .int .u64 n=>0<=n/\n<=18446744073709551615
 | .int .u32 n=>0<=n/\n<=4294967295
 | .int .u16 n=>0<=n/\n<=65535
 | .int .u8 n=>0<=n/\n<=255
 | .str l=>l.length<=4611686018427387904
 | .li l=>l.length<=4611686018427387904
 | _=>True
theorem okv_of {H:FH} {x:D} {y:Value} (h:FDx H x y):okv x:=by
 cases x with
 | int k n=>
  obtain ⟨_,hw⟩:=FDx_int h
  simp only [Lit.wf,Bool.and_eq_true,decide_eq_true_eq] at hw
  obtain ⟨h1,h2⟩:=hw
  cases k <;> simp only [okv]
  ·exact ⟨Int.le_trans (by decide) h1,Int.le_trans h2 (by decide)⟩
  ·exact ⟨Int.le_trans (by decide) h1,Int.le_trans h2 (by decide)⟩
  ·exact ⟨Int.le_trans (by decide) h1,Int.le_trans h2 (by decide)⟩
  ·exact ⟨Int.le_trans (by decide) h1,Int.le_trans h2 (by decide)⟩
  ·exact ⟨Int.le_trans (by decide) h1,Int.le_trans h2 (by decide)⟩
  ·exact ⟨Int.le_trans (by decide) h1,Int.le_trans h2 (by decide)⟩
  ·exact ⟨Int.le_trans (by decide) h1,Int.le_trans h2 (by decide)⟩
  ·exact ⟨Int.le_trans (by decide) h1,Int.le_trans h2 (by decide)⟩
 | str l=>exact (FDx_str h).2
 | li l=>
  obtain ⟨m,h⟩:=h
  cases m with
  | zero=>exact h.elim
  | succ m=>obtain ⟨a,c,_,_,hb,_⟩:=FD_li.1 h; exact hb
 | _=>trivial
def okvs:List D->Prop
 | []=>True
 | x::xs=>okv x/\okvs xs
def gsel (c want:Bool) (A B:Prop):Prop:=
 match c,want with
 | true,true=>A
 | false,false=>A
 | true,false=>B
 | false,true=>B
theorem gsel_dest {c want:Bool} {A B:Prop} (h:gsel c want A B):(c=want->A)/\(c=(!want)->B):=by
 cases c <;> cases want <;> (constructor <;> intro e <;> first | exact h | (cases e; done))
def pickK (c x y:AV) (k:AV->Prop):Prop:=
 match c with
 | .one (.c (.d (.bool b)))=>gsel b true (k x) (k y)
 | _=>False
def TD:T->D
 | .d x=>x
 | _=>.any
def eqTab (P:Program) (t:TypeId):Option (List (Nat×CK)):=if P.eqGuardType P.depth t=false/\(ty P t).agg=true then eqL P 20 t else none
def binK (P:Program) (op:BinOp) (t:TypeId) (x y:AV) (k:AV->Prop):Prop:=
 match x,y with
 | .one (.c (.d (.bool a))),.one (.c (.d (.bool b)))=>(ty P t).k=.bool/\match op with
  | .eql=>k (sc (.bool (a==b)))
  | .neq=>k (sc (.bool (!(a==b))))
  | _=>False
 | .one (.c (.d a)),.one (.c (.d b))=>binD op a b fun d=>k (sc d)
 | .one (.agg xs),.one (.agg ys)=>match eqTab P t with
  | some l=>match eqDs l (xs.map TD) (ys.map TD),op with
   | some b,.eql=>k (sc (.bool b))
   | some b,.neq=>k (sc (.bool (!b)))
   | _,_=>False
  | none=>False
 | _,_=>False
def unK (op:UnOp) (x:AV) (k:AV->Prop):Prop:=
 match op,x with
 | .not,.one (.c (.d (.bool b)))=>k (sc (.bool (!b)))
 | .neg,.one (.c (.d (.int κ n)))=>k (sc (.int κ (κ.wrap (0-n))))
 | .xor,.one (.c (.d (.int κ n)))=>k (sc (.int κ (κ.wrap (BitVec.ofInt κ.bits (if κ.signed then -1 else κ.max) ^^^ BitVec.ofInt κ.bits n).toNat)))
 | _,_=>False
def extractK (x:AV) (i:Nat) (k:AV->Prop):Prop:=
 match x with
 | .tup vs=>match vs[i]? with
  | some v=>k (.one v)
  | none=>False
 | _=>False
def mkT:Sh->D->T
 | .fr,x=>.d x
 | .ow s,.li l=>.ow s l
 | .ow _,_=>.any
def inK (sub:List Sh) (l:List (List D)) (n:Nat):List Step->(List T->Prop)->Prop
 | [],_=>False
 | [st],k=>st.off+n<=sub.length/\match l[st.idx]? with
  | some x=>k (List.zipWith mkT ((sub.drop st.off).take n) ((x.drop st.off).take n))
  | none=>False
 | st::st'::r,k=>match l[st.idx]? with
  | some x=>match sub[st.off]?,x[st.off]? with
   | some (.ow s),some (.li l')=>inK s l' n (st'::r) k
   | _,_=>False
  | none=>False
def atK (m:Mm) (p:Pl) (n:Nat) (k:List T->Prop):Prop:=
 match getR m p.root with
 | none=>False
 | some r=>match p.path,r.cells[p.off]? with
  | [],_=>p.off+n<=r.cells.length/\k ((r.cells.drop p.off).take n)
  | st::q,some (.ow sub l)=>inK sub l n (st::q) k
  | _,_=>False
def lenK (m:Mm) (x:AV) (k:Nat->Prop):Prop:=
 match x with
 | .one (.c (.d (.str l)))=>l.length<=4611686018427387904->k l.length
 | .one (.c (.d (.li l)))=>l.length<=4611686018427387904->k l.length
 | .one (.c .nil)=>k 0
 | .one (.c (.rf p))=>atK m p 1 fun
  | [.ow _ l]=>l.length<=4611686018427387904->k l.length
  | _=>False
 | _=>False
def strAtK (x i:AV) (k:AV->Prop):Prop:=
 match x,i with
 | .one (.c (.d (.str l))),.one (.c (.d (.int _ n)))=>0<=n/\match l[n.toNat]? with
  | some b=>k (sc (.int .u8 b.toNat))
  | none=>False
 | _,_=>False
def boundK (x:Option AV) (d:Nat) (k:Nat->Prop):Prop:=
 match x with
 | none=>k d
 | some (.one (.c (.d (.int _ n))))=>0<=n/\k n.toNat
 | _=>False
def sliceK (P:Program) (t:TypeId) (x:AV) (lo hi:Option AV) (k:AV->Prop):Prop:=
 match x with
 | .one (.c (.d (.str l)))=>(ty P t).k=.str/\boundK lo 0 fun a=>boundK hi l.length fun b=>(a<=b/\b<=l.length)/\k (sc (.str ((l.drop a).take (b-a))))
 | .one (.c (.d (.li l)))=>match (ty P t).k with
  | .sl e=>(ty P e).ok=true/\(∀ x∈l,x.length=(ty P e).size)/\boundK lo 0 fun a=>boundK hi l.length fun b=>(a<=b/\b<=l.length)/\k (sc (.li ((l.drop a).take (b-a))))
  | _=>False
 | .one (.c .nil)=>match (ty P t).k with
  | .sl e=>(ty P e).ok=true/\boundK lo 0 fun a=>boundK hi 0 fun b=>a<=b/\b<=0/\k (.one (.c .nil))
  | _=>False
 | .one (.c (.el row o))=>match (ty P t).k with
  | .ar N e=>(ty P e).ok=true/\(ty P e).size=1/\o+N<=row.length/\N<=4611686018427387904/\boundK lo 0 fun a=>boundK hi N fun b=>(a<=b/\b<=N)/\k (sc (.li (((((row.drop o).take N).drop a).take (b-a)).map fun x=>[x])))
  | _=>False
 | _=>False
def addLast:List Step->Nat->List Step
 | [],_=>[]
 | [st],n=>[{ st with off:=st.off+n }]
 | st::st'::r,n=>st::addLast (st'::r) n
def Pl.add (p:Pl) (n:Nat):Pl:=
 match p.path with
 | []=>{ p with off:=p.off+n }
 | st::r=>{ p with path:=addLast (st::r) n }
def roomO (sub:List Sh):List Step->Option Nat
 | []=>none
 | [st]=>some (sub.length-st.off)
 | st::st'::r=>match sub[st.off]? with
  | some (.ow s)=>roomO s (st'::r)
  | _=>none
def room (m:Mm) (p:Pl):Option Nat:=
 match getR m p.root with
 | none=>none
 | some r=>match p.path,r.cells[p.off]? with
  | [],_=>some (r.cells.length-p.off)
  | st::q,some (.ow sub _)=>roomO sub (st::q)
  | _,_=>none
def hasRoom (m:Mm) (p:Pl) (n:Nat):Prop:=
 match room m p with
 | some k=>n<k
 | none=>False
end Go.Am
end

section
namespace Go.Am
section
variable {P:Program} {w:World} {H:FH} {γ:Gam} {m:Mm}
theorem pickK_ok {c x y:AV} {k:AV->Prop} {vc vx vy:Value} (h:pickK c x y k) (hc:AR w H γ m c vc) (hx:AR w H γ m x vx) (hy:AR w H γ m y vy) :
  ∃ b v,vc=.bool b/\AR w H γ m v (if b then vx else vy)/\k v:=by
 match c,h with
 | .one (.c (.d (.bool b))),h=>
  obtain rfl:=AR_bool hc
  cases b with
  | true=>exact ⟨true,x,rfl,hx,h⟩
  | false=>exact ⟨false,y,rfl,hy,h⟩
theorem Cells_TD:∀ {ts:List T} {f:Fp} {us:List Value},Ts (TR w H γ m) ts f us->Cells H (ts.map TD) us:=by
 intro ts f us h i x hx
 simp only [List.getElem?_map,Option.map_eq_some_iff] at hx
 obtain ⟨t,ht,rfl⟩:=hx
 obtain ⟨_,v,g,_,h2,h3,_⟩:=Cs_get h ht
 refine ⟨v,h2,?_⟩
 cases t with
 | d x=>exact h3.2
 | _=>exact ⟨0,trivial⟩
theorem binK_ok {op:BinOp} {t:TypeId} {xo yo:Operand} {x y:AV} {k:AV->Prop} {u v:Value} (h:binK P op t x y k) (hx:AR w H γ m x u) (hy:AR w H γ m y v) :
  ∃ z d,(∀ w:World,(do eqGuard op t xo yo u v; binOp op t u v:Sem Value).run P w=.ok z w)/\AR w H γ m d z/\k d:=by
 have two:∀ (a b:D),x=sc a->y=sc b->binD op a b (fun d=>k (sc d))->∃ z d,(∀ w:World,(do eqGuard op t xo yo u v; binOp op t u v:Sem Value).run P w=.ok z w)/\AR w H γ m d z/\k d:=by
  intro a b ha hb hD
  subst ha; subst hb
  obtain ⟨z,d,h1,h2,h3⟩:=binD_ok (P:=P) (t:=t) hx.2 hy.2 hD
  refine ⟨z,sc d,?_,⟨fun _=>rfl,h2⟩,h3⟩
  intro w
  have hg:(eqGuard op t xo yo u v).run P w=.ok () w:=by
   cases a with
   | int κ n=>
    obtain ⟨rfl,_⟩:=FDx_int hx.2
    unfold eqGuard
    cases op <;> rfl
   | str l=>
    obtain ⟨rfl,_⟩:=FDx_str hx.2
    unfold eqGuard
    cases op <;> rfl
   | _=>exact hD.elim
  rw [Sem.run_bind,hg,Result.andThen_ok,h1]
 match x,y,h with
 | .one (.c (.d (.bool a))),.one (.c (.d (.bool b))),h=>
  obtain ⟨hk,h⟩:=h
  obtain rfl:=AR_bool hx
  obtain rfl:=AR_bool hy
  obtain ⟨i,d,hi,hd,he,_⟩:=ty_und hk (by simp)
  obtain rfl:=tk_bool he
  cases op <;> first | exact h.elim | skip
  ·refine ⟨.bool (a==b),_,?_,AR_mk_bool,h⟩
   intro w
   rw [Sem.run_bind]
   have hg:(eqGuard .eql t xo yo (.bool a) (.bool b)).run P w=.ok () w:=rfl
   rw [hg,Result.andThen_ok]
   simp only [binOp]
   simp [Op.equal,Op.maxDepth,run_equalIn_bool' w 9999 t a b hd]
  ·refine ⟨.bool (!(a==b)),_,?_,AR_mk_bool,h⟩
   intro w
   rw [Sem.run_bind]
   have hg:(eqGuard .neq t xo yo (.bool a) (.bool b)).run P w=.ok () w:=rfl
   rw [hg,Result.andThen_ok]
   simp only [binOp]
   simp [Op.equal,Op.maxDepth,run_equalIn_bool' w 9999 t a b hd]
 | .one (.agg xs),.one (.agg ys),h=>
  simp only [binK] at h
  cases hl:eqTab P t with
  | none=>rw [hl] at h; exact h.elim
  | some l=>
   rw [hl] at h
   dsimp only at h
   cases hb:eqDs l (xs.map TD) (ys.map TD) with
   | none=>rw [hb] at h; exact h.elim
   | some b=>
    rw [hb] at h
    obtain ⟨us,rfl,hus,hxs⟩:=hx
    obtain ⟨vs,rfl,hvs,hys⟩:=hy
    unfold eqTab at hl
    split at hl
    ·rename_i hc
     obtain ⟨hgt,hag⟩:=hc
     have hty:∃ fs,P.underlying t=some (.struct fs):=by
      have hok:(ty P t).ok=true:=by
       unfold ty at hag ⊢
       split at hag
       ·rfl
       ·simp at hag
      obtain ⟨i,d,h1,h2,h3,_⟩:=ty_ok hok
      rw [hag] at h3
      cases d with
      | struct fs=>exact ⟨fs,h2⟩
      | array n e=>simp [eqL,h2] at hl
      | _=>simp [aggD] at h3
     obtain ⟨fs,hfs⟩:=hty
     have hrun:=fun w:World=>eq_run (P:=P) (w:=w) (H:=H) 20 10000 t l _ _ us.toList vs.toList (.agg us) (.agg vs) b (by omega) hl hb (Cells_TD hxs) (Cells_TD hys) (by simp [packed,hfs]) (by simp [packed,hfs])
     cases op with
     | eql=>
      refine ⟨.bool b,_,?_,AR_mk_bool,h⟩
      intro w
      rw [Sem.run_bind,run_eqGuard_agg w _ t xo yo us vs hgt,Result.andThen_ok,run_eql_struct,hrun,Result.andThen_ok]
     | neq=>
      refine ⟨.bool (!b),_,?_,AR_mk_bool,h⟩
      intro w
      rw [Sem.run_bind,run_eqGuard_agg w _ t xo yo us vs hgt,Result.andThen_ok,run_neq_struct,hrun,Result.andThen_ok]
     | _=>exact h.elim
    ·simp at hl
 | .one (.c (.d (.int _ _))),.one (.c (.d _)),h=>exact two _ _ rfl rfl h
 | .one (.c (.d (.str _))),.one (.c (.d _)),h=>exact two _ _ rfl rfl h
theorem unK_ok {op:UnOp} {x:AV} {k:AV->Prop} {u:Value} (h:unK op x k) (hx:AR w H γ m x u):∃ z d,(∀ w:World,(Op.unary op u).run P w=.ok z w)/\AR w H γ m d z/\k d:=by
 match op,x,h with
 | .not,.one (.c (.d (.bool b))),h=>obtain rfl:=AR_bool hx; exact ⟨_,_,fun _=>rfl,AR_mk_bool,h⟩
 | .neg,.one (.c (.d (.int κ n))),h=>obtain ⟨rfl,_⟩:=AR_int hx; exact ⟨_,_,fun _=>rfl,AR_mk_int (wf_wrap _ _),h⟩
 | .xor,.one (.c (.d (.int κ n))),h=>obtain ⟨rfl,_⟩:=AR_int hx; exact ⟨_,_,fun _=>rfl,AR_mk_int (wf_wrap _ _),h⟩
theorem ARs_get:∀ {xs:List AV1} {ys:List Value} {i:Nat} {x:AV1},ARs w H γ m xs ys->xs[i]? = some x->∃ y,ys[i]? = some y/\AR1 w H γ m x y
 | x::xs,y::ys,0,z,h,hz=>by
  simp only [List.getElem?_cons_zero,Option.some.injEq] at hz; subst hz; exact ⟨y,rfl,h.1⟩
 | x::xs,y::ys,i+1,z,h,hz=>by
  simp only [List.getElem?_cons_succ] at hz ⊢
  exact ARs_get h.2 hz
 | [],[],i,z,_,hz=>by simp at hz
 | [],_::_,_,_,h,_=>h.elim
 | _::_,[],_,_,h,_=>h.elim
theorem extractK_ok {x:AV} {i:Nat} {k:AV->Prop} {u:Value} (h:extractK x i k) (hx:AR w H γ m x u):∃ z d,(∀ w:World,(Instr.extract u i).run P w=.ok z w)/\AR w H γ m d z/\k d:=by
 match x,h with
 | .tup vs,h=>
  obtain ⟨l,rfl,hl⟩:=hx
  simp only [extractK] at h
  cases hv:vs[i]? with
  | none=>rw [hv] at h; exact h.elim
  | some v=>
   rw [hv] at h
   obtain ⟨y,hy,hr⟩:=ARs_get hl hv
   refine ⟨y,.one v,?_,hr,h⟩
   intro w
   have hy':l[i]? = some y:=by simpa using hy
   simp [Instr.extract,hy']
theorem FDx_li_inv {l:List (List D)} {y:Value} (h:FDx H (.li l) y):∃ a c,y=.slice a l.length c/\l.length<=c/\l.length<=BIG/\(l=[]\/∃ b o e k,a=some ⟨b,o,none⟩/\FEl H k l b o e):=by
 obtain ⟨n,h⟩:=h
 cases n with
 | zero=>exact h.elim
 | succ n=>
  obtain ⟨a,c,h1,h2,h3,h4⟩:=FD_li.1 h
  refine ⟨a,c,h1,h2,h3,?_⟩
  rcases h4 with h4 | ⟨b,o,e,h5,h6⟩
  ·exact .inl h4
  ·exact .inr ⟨b,o,e,n,h5,h6⟩
theorem strAtK_ok {t:TypeId} {x i:AV} {k:AV->Prop} {u v:Value} (ht:(ty P t).k=.str) (h:strAtK x i k) (hx:AR w H γ m x u) (hi:AR w H γ m i v) :
  ∃ z d,(∀ w:World,(Instr.index t u v).run P w=.ok z w)/\AR w H γ m d z/\k d:=by
 match x,i,h with
 | .one (.c (.d (.str l))),.one (.c (.d (.int κ n))),h=>
  obtain ⟨h0,h⟩:=h
  have hn:n.toNat<l.length:=by
   rcases Nat.lt_or_ge n.toNat l.length with h' | h'
   ·exact h'
   ·rw [List.getElem?_eq_none h'] at h; exact h.elim
  have h:∀ b,l[n.toNat]? = some b->k (sc (.int .u8 b.toNat)):=fun b hb=>by rw [hb] at h; exact h
  obtain ⟨rfl,_⟩:=AR_str hx
  obtain ⟨rfl,_⟩:=AR_int hi
  obtain ⟨_,d,_,hd,he,_⟩:=ty_und ht (by simp)
  obtain rfl:=tk_str he
  obtain ⟨b,hb⟩:∃ b,l[n.toNat]? = some b:=⟨_,List.getElem?_eq_getElem hn⟩
  refine ⟨.int .u8 b.toNat,_,?_,AR_mk_int ?_,h b hb⟩
  ·have hget:(⟨l.toArray⟩:ByteArray)[n.toNat]? = some b:=by
    have hs:n.toNat < (⟨l.toArray⟩:ByteArray).size:=by
     show n.toNat<l.toArray.size
     simpa using hn
    refine (getElem?_pos (⟨l.toArray⟩:ByteArray) n.toNat hs).trans ?_
    rw [List.getElem?_eq_getElem hn] at hb
    simp only [Option.some.injEq] at hb
    rw [<- hb]; rfl
   intro w
   simp only [Instr.index,asIntOf,Sem.run_bind,run_underlying hd,Sem.run_pure,Result.andThen_ok]
   rw [if_pos h0,hget]; rfl
  ·have:=b.toNat_lt
   simp only [Lit.wf,Bool.and_eq_true,decide_eq_true_eq]
   have h1:IntKind.u8.min=0:=by decide
   have h2:IntKind.u8.max=255:=by decide
   rw [h1,h2]; omega
end
end Go.Am
end

section
namespace Go.Am
def OptR (w:World) (H:FH) (γ:Gam) (m:Mm):Option AV->Option Value->Prop
 | none,none=>True
 | some x,some v=>AR w H γ m x v
 | _,_=>False
section
variable {P:Program} {w:World} {H:FH} {γ:Gam} {m:Mm}
theorem bound_run {x:Value} {κ:IntKind} {n:Int} {y:Nat} {code:BoundsCode} (hx:x=.int κ n) (h0:0<=n) (h1:n.toNat<=y):(Instr.sliceBound x y code).run P w=.ok n.toNat w:=by
 subst hx
 simp only [Instr.sliceBound,asIntOf,Sem.run_bind,Sem.run_pure,Result.andThen_ok]
 rw [if_pos ⟨h0,by omega⟩]; rfl
theorem bounds_run {isS:Bool} {len cap:Nat} {lo hi:Option AV} {vlo vhi:Option Value} {k:Nat->Nat->Prop}
  (hlo:OptR w H γ m lo vlo)
  (hhi:OptR w H γ m hi vhi)
  (hlc:len<=cap)
  (h:boundK lo 0 fun a=>boundK hi len fun b=>k a b) (hk:∀ a b,k a b->a<=b/\b<=len) :
  ∃ a b,k a b/\∀ w:World,(Instr.sliceBounds isS len cap vlo vhi none).run P w=.ok (a,b,cap) w:=by
 have up:∀ a,boundK hi len (fun b=>k a b)->∃ b,k a b/\∀ code1 code2 (w:World),(match vhi,(none:Option Value) with
   | some v,some _=>Instr.sliceBound v cap .slice3B
   | some v,none=>Instr.sliceBound v cap (if isS then code1 else code2)
   | none,none=>pure len
   | none,some _=>stuck "Slice: max without high").run P w=.ok b w:=by
  intro a ha
  cases hi with
  | none=>
   cases vhi with
   | none=>exact ⟨len,ha,fun _ _ _=>rfl⟩
   | some _=>exact hhi.elim
  | some y=>
   cases vhi with
   | none=>exact hhi.elim
   | some v=>
    match y,ha with
    | .one (.c (.d (.int κ n))),ha=>
     obtain ⟨rfl,_⟩:=AR_int (w:=w) (H:=H) (γ:=γ) (m:=m) hhi
     have:=hk _ _ ha.2
     exact ⟨n.toNat,ha.2,fun _ _ _=>bound_run rfl ha.1 (by omega)⟩
 cases lo with
 | none=>
  cases vlo with
  | some _=>exact hlo.elim
  | none=>
   obtain ⟨b,h1,h2⟩:=up 0 h
   refine ⟨0,b,h1,?_⟩
   intro w
   have h3:=h2 .sliceAcap .sliceAlen w
   cases vhi with
   | none=>
    simp only [Instr.sliceBounds,Sem.run_bind,Sem.run_pure,Result.andThen_ok]
    simp only [Sem.run_pure,Result.ok.injEq,and_true] at h3
    rw [h3]
   | some v=>
    dsimp only at h3
    simp only [Instr.sliceBounds,Sem.run_bind,Sem.run_pure,Result.andThen_ok,h3]
 | some x=>
  cases vlo with
  | none=>exact hlo.elim
  | some v=>
   match x,h with
   | .one (.c (.d (.int κ n))),h=>
    obtain ⟨rfl,_⟩:=AR_int (w:=w) (H:=H) (γ:=γ) (m:=m) hlo
    obtain ⟨h0,h⟩:=h
    obtain ⟨b,h1,h2⟩:=up n.toNat h
    have hb:=hk _ _ h1
    refine ⟨n.toNat,b,h1,?_⟩
    intro w
    have h3:=h2 .sliceAcap .sliceAlen w
    have h4:∀ code,(Instr.sliceBound (.int κ n) b code).run P w=.ok n.toNat w:=fun code=>bound_run rfl h0 hb.1
    cases vhi with
    | none=>
     simp only [Sem.run_pure,Result.ok.injEq,and_true] at h3
     subst h3
     simp only [Instr.sliceBounds,Sem.run_bind,Sem.run_pure,Result.andThen_ok,h4]
    | some v=>
     dsimp only at h3
     simp only [Instr.sliceBounds,Sem.run_bind,Sem.run_pure,Result.andThen_ok,h3,h4]
theorem FDx_drop {l:List (List D)} {a0:Option Addr} {n c e a b:Nat} (h:FDx H (.li l) (.slice a0 n c)) (he:∀ x∈l,x.length=e) (hab:a<=b) (hb:b<=l.length) :
  FDx H (.li ((l.drop a).take (b-a))) (.slice (if c=a then a0 else a0.map (·.add (a*e))) (b-a) (c-a)):=by
 obtain ⟨a1,c1,h1,h2,h3,h4⟩:=FDx_li_inv h
 simp only [Value.slice.injEq] at h1
 obtain ⟨rfl,rfl,rfl⟩:=h1
 have hlen:((l.drop a).take (b-a)).length=b-a:=by simp; omega
 by_cases hz:b-a=0
 ·have:(l.drop a).take (b-a)=[]:=List.eq_nil_of_length_eq_zero (by rw [hlen]; exact hz)
  rw [this]
  exact ⟨1,FD_li.2 ⟨_,_,by rw [hz]; rfl,by simp,by simp,.inl rfl⟩⟩
 ·rcases h4 with h4 | ⟨b0,o,e0,k,rfl,h5⟩
  ·subst h4; simp at hb; omega
  ·have hca:c≠a:=by omega
   have he0:e0=e:=by
    have:=(h5 0 (by omega)).1
    have h0:l.getD 0 []=l[0]'(by omega):=by rw [List.getD,List.getElem?_eq_getElem (by omega)]; rfl
    rw [h0,he _ (List.getElem_mem _)] at this; exact this.symm
   subst he0
   refine ⟨k+1,FD_li.2 ⟨_,_,by rw [hlen,if_neg hca],by rw [hlen]; omega,by rw [hlen]; omega,.inr ⟨b0,o+a*e0,e0,by simp [addr_add],fun i hi=>?_⟩⟩⟩
   rw [hlen] at hi
   have hg:((l.drop a).take (b-a)).getD i []=l.getD (a+i) []:=by
    simp only [List.getD]
    rw [List.getElem?_take_of_lt hi,List.getElem?_drop]
   rw [hg]
   obtain ⟨g1,g2⟩:=h5 (a+i) (by omega)
   refine ⟨g1,fun j hj=>?_⟩
   obtain ⟨y,hy,hf⟩:=g2 j hj
   refine ⟨y,?_,hf⟩
   rw [<- hy]; congr 1; rw [Nat.add_mul]; first | omega | rfl
theorem sliceK_ok {t:TypeId} {x:AV} {lo hi:Option AV} {vlo vhi:Option Value} {k:AV->Prop} {u:Value} (h:sliceK P t x lo hi k) (hx:AR w H γ m x u)
  (hlo:OptR w H γ m lo vlo)
  (hhi:OptR w H γ m hi vhi) :
  ∃ z d,(∀ w:World,(Instr.sliceAt t u vlo vhi none).run P w=.ok z w)/\AR w H γ m d z/\k d:=by
 match x,h with
 | .one (.c (.d (.str l))),h=>
  obtain ⟨hk,h⟩:=h
  obtain ⟨rfl,hl⟩:=AR_str hx
  obtain ⟨_,d,_,hd,he,_⟩:=ty_und hk (by simp)
  obtain rfl:=tk_str he
  have hs:(⟨l.toArray⟩:ByteArray).size=l.length:=by show l.toArray.size=_; simp
  obtain ⟨a,b,⟨⟨h1,h2⟩,h3⟩,h4⟩:=bounds_run (P:=P) (isS:=false) (len:=l.length) (cap:=l.length) (k:=fun a b=>(a<=b/\b<=l.length)/\k (sc (.str ((l.drop a).take (b-a))))) hlo hhi (Nat.le_refl _) h (fun a b h=>h.1)
  refine ⟨.string ⟨((l.drop a).take (b-a)).toArray⟩,_,?_,AR_mk_str ?_,h3⟩
  ·intro w
   simp only [Instr.sliceAt,Sem.run_bind,run_underlying hd,Result.andThen_ok]
   simp only [Instr.slice,Sem.run_bind,run_underlying hd,Result.andThen_ok,Option.isSome_none,Bool.false_eq_true,if_false]
   rw [hs,h4,Result.andThen_ok]
   simp only [Sem.run_pure]
   congr 2
   rw [ByteArray.ext_iff]
   simp [ByteArray.data_extract,List.extract_eq_take_drop]
  ·simp; omega
 | .one (.c (.d (.li l))),h=>
  simp only [sliceK] at h
  cases hk:(ty P t).k with
  | sl e=>
   rw [hk] at h
   obtain ⟨hok,hlen,h⟩:=h
   obtain ⟨_,d,_,hd,he,_⟩:=ty_und hk (by simp)
   obtain rfl:=tk_sl he
   obtain ⟨i,de,hi,_⟩:=ty_ok hok
   obtain ⟨b0,c,rfl,hc,hb,_⟩:=FDx_li_inv hx.2
   obtain ⟨a,b,⟨⟨h1,h2⟩,h3⟩,h4⟩:=bounds_run (P:=P) (isS:=true) (len:=l.length) (cap:=c) (k:=fun a b=>(a<=b/\b<=l.length)/\k (sc (.li ((l.drop a).take (b-a))))) hlo hhi hc h (fun a b h=>h.1)
   refine ⟨_,sc _,?_,⟨fun _=>rfl,FDx_drop hx.2 hlen h1 h2⟩,h3⟩
   intro w
   simp only [Instr.sliceAt,Sem.run_bind,run_underlying hd,Result.andThen_ok]
   simp only [Instr.slice,Sem.run_bind,run_underlying hd,Result.andThen_ok,h4,runs_sizeOf hi,Sem.run_pure,ty_size hok]
  | _=>rw [hk] at h; exact h.elim
 | .one (.c .nil),h=>
  simp only [sliceK] at h
  cases hk:(ty P t).k with
  | sl e=>
   rw [hk] at h
   obtain ⟨hok,h⟩:=h
   obtain ⟨_,d,_,hd,he,_⟩:=ty_und hk (by simp)
   obtain rfl:=tk_sl he
   obtain ⟨i,de,hi,_⟩:=ty_ok hok
   obtain ⟨h0,rfl⟩:=hx
   obtain ⟨a,b,⟨h1,h2,h3⟩,h4⟩:=bounds_run (P:=P) (isS:=true) (len:=0) (cap:=0) (k:=fun a b=>a<=b/\b<=0/\k (.one (.c .nil))) hlo hhi (Nat.le_refl _) h (fun a b h=>⟨h.1,h.2.1⟩)
   obtain rfl:b=0:=by omega
   obtain rfl:a=0:=by omega
   refine ⟨.slice none 0 0,.one (.c .nil),?_,⟨fun _=>rfl,rfl⟩,h3⟩
   intro w
   simp only [Instr.sliceAt,Sem.run_bind,run_underlying hd,Result.andThen_ok]
   simp only [Instr.slice,Sem.run_bind,run_underlying hd,Result.andThen_ok,h4,runs_sizeOf hi,Sem.run_pure]
   rfl
  | _=>rw [hk] at h; exact h.elim
 | .one (.c (.el row o)),h=>
  simp only [sliceK] at h
  cases hk:(ty P t).k with
  | ar N e=>
   rw [hk] at h
   obtain ⟨hok,hsz,hN,hN2,h⟩:=h
   obtain ⟨_,d,_,hd,he,_⟩:=ty_und hk (by simp)
   obtain rfl:=tk_ar he
   obtain ⟨i,de,hi,_⟩:=ty_ok hok
   obtain ⟨_,b0,o0,kk,rfl,hrow⟩:=hx
   obtain ⟨a,b,⟨⟨h1,h2⟩,h3⟩,h4⟩:=bounds_run (P:=P) (isS:=false) (len:=N) (cap:=N) (k:=fun a b=>(a<=b/\b<=N)/\k (sc (.li (((((row.drop o).take N).drop a).take (b-a)).map fun x=>[x])))) hlo hhi (Nat.le_refl _) h (fun a b h=>h.1)
   have hlen:(((((row.drop o).take N).drop a).take (b-a)).map fun x=>[x]).length=b-a:=by simp; omega
   refine ⟨.slice (some (if N=a then ⟨b0,o0+o,none⟩ else (⟨b0,o0+o,none⟩:Addr).add (a*1))) (b-a) (N-a),sc _,?_,⟨fun _=>rfl,?_⟩,h3⟩
   ·intro w
    have hce:P.cellsOf e=1:=by first | (rw [<- ty_size hok]; exact hsz) | (rw [ty_size hok]; exact hsz)
    simp only [Instr.sliceAt,Sem.run_bind,run_underlying hd,Result.andThen_ok,Instr.sureAddr,Sem.run_pure,h4,runs_sizeOf hi,hce]
   ·by_cases hz:b-a=0
    ·have:(((((row.drop o).take N).drop a).take (b-a)).map fun x=>[x])=[]:=List.eq_nil_of_length_eq_zero (by rw [hlen]; exact hz)
     rw [this,hz]
     exact ⟨1,FD_li.2 ⟨_,_,rfl,by simp,by simp,.inl rfl⟩⟩
    ·have hca:N≠a:=by omega
     refine ⟨kk+1,FD_li.2 ⟨_,_,by rw [hlen,if_neg hca],by rw [hlen]; omega,by rw [hlen]; unfold BIG; omega,.inr ⟨b0,o0+o+a,1,by simp [addr_add],fun i hi=>?_⟩⟩⟩
     rw [hlen] at hi
     have hlt:o+(a+i)<row.length:=by omega
     have hg:(((((row.drop o).take N).drop a).take (b-a)).map fun x=>[x]).getD i []=[row.getD (o+(a+i)) default]:=by
      simp only [List.getD,List.getElem?_map]
      rw [List.getElem?_take_of_lt hi,List.getElem?_drop,List.getElem?_take_of_lt (by omega),List.getElem?_drop,List.getElem?_eq_getElem hlt]
      rfl
     rw [hg]
     refine ⟨rfl,fun j hj=>?_⟩
     obtain rfl:j=0:=by omega
     obtain ⟨y,hy,hf⟩:=hrow (o+(a+i)) hlt
     refine ⟨y,?_,hf⟩
     rw [<- hy]; congr 1; omega
  | _=>rw [hk] at h; exact h.elim
end
end Go.Am
end

section
namespace Go.Am
def refT (q:Pl):T->T
 | .ow _ _=>.rf q
 | t=>t
def refTs (p:Pl) (ts:List T):List T:=ts.zipIdx.map fun x=>refT (p.add x.2) x.1
theorem addLast_map:∀ (p:List Step) (n:Nat),p≠[]->addLast p n≠[]:=by
 intro p n h
 cases p with
 | nil=>exact absurd rfl h
 | cons st r=>cases r <;> simp [addLast]
section
variable {P:Program} {w:World} {H:FH} {γ:Gam} {m:Mm}
theorem TR_zero {t:T} {f:Fp} {y:Value} (h:TR w H γ m t f y) (hn:t.owned=false):TR w H γ m t (fun _=>0) y/\∀ b,f b=0:=by
 cases t with
 | d x=>exact ⟨⟨fun _=>rfl,h.2⟩,h.1⟩
 | nil=>exact ⟨⟨fun _=>rfl,h.2⟩,h.1⟩
 | ow sub l=>simp [T.owned] at hn
 | el row off=>exact ⟨⟨fun _=>rfl,h.2⟩,h.1⟩
 | pl p=>exact ⟨⟨fun _=>rfl,h.2⟩,h.1⟩
 | rf p=>exact ⟨⟨fun _=>rfl,h.2⟩,h.1⟩
 | any=>exact ⟨fun _=>rfl,h⟩
theorem place_val {F:Nm->Fp} (hm:Mem w H γ m F) {q:Pl} (hq:okPl m q) {t:T} (hg:getPl m q=some t) :
  ∃ v,plV w γ q=some v/\(∀ a,plA w γ q=some a->w.cell? a=some v)/\TR w H γ m (refT q t) (fun _=>0) v/\∃ f,TR w H γ m t f v:=by
 obtain ⟨r,hr,hc⟩:=okPl_iff.1 hq
 have hroot:=hm.roots _ (getR_mem hr)
 obtain ⟨n,off,path⟩:=q
 dsimp only at hr hc
 have hle0:∀ c,F n c<=1:=fun c=>by have:=hm.le1 c; have:=tot_ge (F:=F) (getR_mem hr) c; dsimp only at this; omega
 unfold getPl at hg
 rw [hr] at hg
 dsimp only at hg
 have fin:∀ (v:Value) (f:Fp),plV w γ ⟨n,off,path⟩=some v->TR w H γ m t f v->(t.owned=true->okRf m ⟨n,off,path⟩)->TR w H γ m (refT ⟨n,off,path⟩ t) (fun _=>0) v:=by
  intro v f hv hT ho
  by_cases hown:t.owned=true
  ·cases t with
   | ow sub l=>exact ⟨fun _=>rfl,ho rfl,hv⟩
   | _=>simp [T.owned] at hown
  ·have e:refT ⟨n,off,path⟩ t=t:=by cases t <;> first | rfl | (simp [T.owned] at hown)
   rw [e]
   exact (TR_zero hT (by simpa using hown)).1
 cases path with
 | nil=>
  dsimp only at hg
  obtain ⟨v,g,c1,c2,_⟩:=RootR_cell hroot hg
  dsimp only at c1
  refine ⟨v,c1,fun a ha=>?_,fin v g c1 c2 (fun ho=>?_),g,c2⟩
  ·simp only [plA] at ha
   cases hgm:γ n with
   | gh u=>rw [hgm] at ha; simp at ha
   | blk b=>rw [hgm] at ha c1; simp only [Option.some.injEq] at ha; subst ha; exact c1
  ·rw [okRf_iff]
   refine ⟨r,hr,?_⟩
   cases t with
   | ow sub l=>simp only [okRfCells,hg]
   | _=>simp [T.owned] at ho
 | cons st u=>
  dsimp only [okCells] at hc
  dsimp only at hg
  cases ht:r.cells[off]? with
  | none=>rw [ht] at hc; exact hc.elim
  | some tt=>
   rw [ht] at hc hg
   cases tt with
   | ow sub l=>
    dsimp only at hg hc
    obtain ⟨v0,g,c1,⟨k,c2⟩,c3⟩:=RootR_cell hroot ht
    dsimp only at c1 c3
    obtain ⟨b,k',z,s,x,cs,ty,fz,f1,f2,d1,d2,d3,d4,d5,d6,d7,d8,_⟩:=OD_path (st::u) k sub l g v0 c2 (fun b=>by have:=c3 b; have:=hle0 b; omega) hc
    have hz:w.cell? ⟨b,k',none⟩=some z:=by simp [World.cell?,d2,d4]
    have hpv:plV w γ ⟨n,off,st::u⟩=some z:=by simp only [plV,c1,Option.bind_some,d1,hz]
    rw [d5] at hg
    have hT:TR w H γ m t f1 z/\(t.owned=true->∃ s' l',s=.ow s'/\x=.li l'):=by
     cases s with
     | fr=>
      simp only [Option.some.injEq] at hg; subst hg
      exact ⟨OD_fr.1 d8,fun h=>by simp [T.owned] at h⟩
     | ow s'=>cases x with
      | li l'=>
       simp only [Option.some.injEq] at hg; subst hg
       exact ⟨⟨k,d8⟩,fun _=>⟨s',l',rfl,rfl⟩⟩
      | any=>
       simp only [Option.some.injEq] at hg; subst hg
       refine ⟨?_,fun h=>by simp [T.owned] at h⟩
       show ∀ b,f1 b=0
       cases k <;> simpa [OD] using d8
      | _=>cases k <;> simp [OD] at d8
    refine ⟨z,hpv,fun a ha=>?_,fin z f1 hpv hT.1 (fun ho=>?_),f1,hT.1⟩
    ·simp only [plA,c1,Option.bind_some,d1,Option.some.injEq] at ha
     subst ha; exact hz
    ·obtain ⟨s',l',rfl,rfl⟩:=hT.2 ho
     rw [okRf_iff]
     refine ⟨r,hr,?_⟩
     simp only [okRfCells,ht,d5]
     exact ⟨hc,trivial⟩
   | _=>exact hc.elim
theorem okO_add:∀ (p:List Step) (sub:List Sh) (l:List (List D)) (n k:Nat),okO sub l p->roomO sub p=some k->n<k->okO sub l (addLast p n):=by
 intro p
 induction p with
 | nil=>intro sub l n k h; exact h.elim
 | cons st r ih=>
  intro sub l n k h hr hn
  cases r with
  | nil=>
   obtain ⟨h1,h2,h3⟩:=h
   simp only [roomO,Option.some.injEq] at hr
   exact ⟨h1,h2,by dsimp only; omega⟩
  | cons t u=>
   obtain ⟨h1,h2⟩:=h
   cases hs:sub[st.off]? with
   | none=>rw [hs] at h2; exact h2.elim
   | some s=>
    rw [hs] at h2
    cases s with
    | fr=>exact h2.elim
    | ow s=>
     cases hd:(l.getD st.idx []).getD st.off default with
     | li l'=>
      rw [hd] at h2
      simp only [roomO,hs] at hr
      have:=ih s l' n k h2 hr hn
      cases u with
      | nil=>simp only [addLast,okO,hs,hd] at this ⊢; exact ⟨h1,this⟩
      | cons _ _=>simp only [addLast,okO,hs,hd] at this ⊢; exact ⟨h1,this⟩
     | _=>rw [hd] at h2; exact h2.elim
theorem okPl_add {p:Pl} {n:Nat} (h:okPl m p) (hr:hasRoom m p n):okPl m (p.add n):=by
 obtain ⟨r,h1,h2⟩:=okPl_iff.1 h
 obtain ⟨nm,off,path⟩:=p
 dsimp only at h1 h2
 unfold hasRoom room at hr
 rw [h1] at hr
 dsimp only at hr
 rw [okPl_iff]
 cases path with
 | nil=>
  refine ⟨r,by simpa [Pl.add] using h1,?_⟩
  simp only [Pl.add,okCells]
  dsimp only at hr; omega
 | cons st u=>
  refine ⟨r,by simpa [Pl.add] using h1,?_⟩
  dsimp only [okCells] at h2
  simp only [Pl.add]
  cases ht:r.cells[off]? with
  | none=>rw [ht] at h2; exact h2.elim
  | some t=>
   rw [ht] at h2 hr
   cases t with
   | ow sub l=>
    dsimp only at h2 hr
    cases hro:roomO sub (st::u) with
    | none=>rw [hro] at hr; exact hr.elim
    | some k=>
     rw [hro] at hr
     have:=okO_add (st::u) sub l n k h2 hro hr
     cases hal:addLast (st::u) n with
     | nil=>exact absurd hal (addLast_map _ _ (by simp))
     | cons a b=>rw [hal] at this; simp only [okCells,ht]; exact this
   | _=>exact h2.elim
theorem walkV_add:∀ (p:List Step) (y:Value) (n b k:Nat),walkV w y p=some ⟨b,k,none⟩->walkV w y (addLast p n)=some ⟨b,k+n,none⟩:=by
 intro p
 induction p with
 | nil=>intro y n b k h; cases y <;> simp [walkV] at h
 | cons st r ih=>
  intro y n b k h
  cases y with
  | slice a len c=>
   cases a with
   | none=>cases r <;> simp [walkV] at h
   | some a=>
    obtain ⟨b0,o,sp⟩:=a
    cases sp with
    | some _=>cases r <;> simp [walkV] at h
    | none=>
     cases r with
     | nil=>
      simp only [walkV,Option.some.injEq,Addr.mk.injEq,and_true] at h
      simp only [addLast,walkV,Option.some.injEq,Addr.mk.injEq,and_true]
      omega
     | cons t u=>
      simp only [walkV] at h
      cases hc:w.cell? ⟨b0,o+st.idx*st.esz+st.off,none⟩ with
      | none=>rw [hc] at h; simp at h
      | some v=>
       rw [hc] at h
       have:=ih v n b k h
       cases u with
       | nil=>simp only [addLast,walkV,hc] at this ⊢; exact this
       | cons _ _=>simp only [addLast,walkV,hc] at this ⊢; exact this
  | _=>cases r <;> simp [walkV] at h
theorem plA_add {p:Pl} {n b k:Nat} (h:plA w γ p=some ⟨b,k,none⟩):plA w γ (p.add n)=some ⟨b,k+n,none⟩:=by
 obtain ⟨nm,off,path⟩:=p
 cases path with
 | nil=>
  simp only [plA] at h
  cases hg:γ nm with
  | gh _=>rw [hg] at h; simp at h
  | blk b0=>
   rw [hg] at h
   simp only [Option.some.injEq,Addr.mk.injEq,and_true] at h
   simp only [Pl.add,plA,hg,Option.some.injEq,Addr.mk.injEq,and_true]
   omega
 | cons st u=>
  simp only [plA] at h
  simp only [Pl.add,plA]
  cases hal:addLast (st::u) n with
  | nil=>exact absurd hal (addLast_map _ _ (by simp))
  | cons a b'=>
   dsimp only
   cases hv:rootCell w (γ nm) off with
   | none=>rw [hv] at h; simp at h
   | some v=>
    rw [hv] at h
    simp only [Option.bind_some] at h ⊢
    rw [<- hal]
    exact walkV_add _ _ _ _ _ h
theorem plA_none {F:Nm->Fp} (hm:Mem w H γ m F) {p:Pl} (hok:okPl m p) {a:Addr} (h:plA w γ p=some a):∃ b k,a=⟨b,k,none⟩:=by
 obtain ⟨b,k,sp⟩:=a
 have:=(plA_in hm hok h).2
 dsimp only at this
 subst this
 exact ⟨b,k,rfl⟩
def mkL:Option (Sh×D)->Option T
 | some (s,x)=>some (mkT s x)
 | none=>none
theorem inK_ok:∀ (p:List Step) (sub:List Sh) (l:List (List D)) (n:Nat) (k:List T->Prop),(∀ N,wfO N sub l)->okO sub l p->inK sub l n p k ->
  ∃ ts:List T,ts.length=n/\k ts/\∀ j t,ts[j]? = some t->okO sub l (addLast p j)/\mkL (lookO sub l (addLast p j))=some t:=by
 intro p
 induction p with
 | nil=>intro sub l n k _ h; exact h.elim
 | cons st r ih=>
  intro sub l n k hwf hok hin
  cases r with
  | nil=>
   obtain ⟨h1,h2,h3⟩:=hok
   obtain ⟨hn,hin⟩:=hin
   have hx:l[st.idx]? = some l[st.idx]:=List.getElem?_eq_getElem h1
   have hlen:(l[st.idx]).length=sub.length:=(hwf 1).1 _ (List.getElem_mem h1)
   have hg:l.getD st.idx []=l[st.idx]:=by simp [List.getD,h1]
   rw [hx] at hin
   refine ⟨_,?_,hin,fun j t hj=>?_⟩
   ·simp; omega
   ·have hjn:j<n:=by have:=lt_of_get hj; simp at this; omega
    simp only [List.getElem?_zipWith] at hj
    rw [List.getElem?_take_of_lt hjn,List.getElem?_take_of_lt hjn,List.getElem?_drop,List.getElem?_drop] at hj
    have hs:sub[st.off+j]? = some (sub[st.off+j]'(by omega)):=List.getElem?_eq_getElem (by omega)
    have hd:(l[st.idx])[st.off+j]? = some ((l[st.idx])[st.off+j]'(by omega)):=List.getElem?_eq_getElem (by omega)
    rw [hs,hd] at hj
    simp only [Option.some.injEq] at hj
    refine ⟨⟨h1,h2,by dsimp only; omega⟩,?_⟩
    simp only [addLast,lookO,hs,hg,Option.map_some,mkL]
    rw [List.getD,hd,Option.getD_some,hj]
  | cons t u=>
   obtain ⟨⟨h1,h2,h3⟩,hok⟩:=hok
   have hx:l[st.idx]? = some l[st.idx]:=List.getElem?_eq_getElem h1
   have hg:l.getD st.idx []=l[st.idx]:=by simp [List.getD,h1]
   unfold inK at hin
   rw [hx] at hin
   dsimp only at hin
   cases hs:sub[st.off]? with
   | none=>rw [hs] at hok; exact hok.elim
   | some s=>
    rw [hs] at hok hin
    cases s with
    | fr=>exact hok.elim
    | ow s=>
     cases hd:(l[st.idx])[st.off]? with
     | none=>rw [hd] at hin; exact hin.elim
     | some d=>
      have hd':(l.getD st.idx []).getD st.off default=d:=by rw [hg,List.getD,hd]; rfl
      rw [hd'] at hok
      rw [hd] at hin
      cases d with
      | li l'=>
       dsimp only at hin hok
       obtain ⟨ts,e1,e2,e3⟩:=ih s l' n k (fun N=>(hwf (N+1)).2 st.idx st.off s l' hs hd') hok hin
       refine ⟨ts,e1,e2,fun j t' hj=>?_⟩
       obtain ⟨e4,e5⟩:=e3 j t' hj
       cases u with
       | nil=>simp only [addLast,okO,lookO,hs,hd'] at e4 e5 ⊢; exact ⟨⟨⟨h1,h2,h3⟩,e4⟩,e5⟩
       | cons _ _=>simp only [addLast,okO,lookO,hs,hd'] at e4 e5 ⊢; exact ⟨⟨⟨h1,h2,h3⟩,e4⟩,e5⟩
      | _=>exact hok.elim
theorem atK_ok {F:Nm->Fp} (hm:Mem w H γ m F) {p:Pl} (hok:okPl m p) {n:Nat} {k:List T->Prop} (h:atK m p n k) :
  ∃ ts:List T,ts.length=n/\k ts/\∀ j t,ts[j]? = some t->getPl m (p.add j)=some t/\okPl m (p.add j):=by
 obtain ⟨r,h1,h2⟩:=okPl_iff.1 hok
 obtain ⟨nm,off,path⟩:=p
 dsimp only at h1 h2
 unfold atK at h
 rw [h1] at h
 dsimp only at h
 cases path with
 | nil=>
  dsimp only at h
  obtain ⟨hn,hk⟩:=h
  refine ⟨_,by simp; omega,hk,fun j t hj=>?_⟩
  have hjn:j<n:=by have:=lt_of_get hj; simp at this; omega
  rw [List.getElem?_take_of_lt hjn,List.getElem?_drop] at hj
  refine ⟨by simp only [Pl.add,getPl,h1,hj],?_⟩
  rw [okPl_iff]
  refine ⟨r,by simpa [Pl.add] using h1,?_⟩
  simp only [Pl.add,okCells]; omega
 | cons st u=>
  dsimp only [okCells] at h2
  cases ht:r.cells[off]? with
  | none=>rw [ht] at h2; exact h2.elim
  | some t=>
   rw [ht] at h2 h
   cases t with
   | ow sub l=>
    dsimp only at h2 h
    have hwf:∀ N,wfO N sub l:=by
     intro N
     obtain ⟨v,g,_,⟨k,c2⟩,_⟩:=RootR_cell (hm.roots _ (getR_mem h1)) ht
     exact OD_wfO N k sub l g v c2
    obtain ⟨ts,e1,e2,e3⟩:=inK_ok (st::u) sub l n k hwf h2 h
    refine ⟨ts,e1,e2,fun j t' hj=>?_⟩
    obtain ⟨e4,e5⟩:=e3 j t' hj
    cases hal:addLast (st::u) j with
    | nil=>exact absurd hal (addLast_map _ _ (by simp))
    | cons a b=>
     rw [hal] at e4 e5
     refine ⟨?_,?_⟩
     ·simp only [Pl.add,hal,getPl,h1,ht]
      cases hlo:lookO sub l (a::b) with
      | none=>rw [hlo] at e5; exact e5
      | some x=>
       obtain ⟨s,d⟩:=x
       rw [hlo] at e5
       cases s with
       | fr=>exact e5
       | ow s=>cases d <;> exact e5
     ·rw [okPl_iff]
      refine ⟨r,by simpa [Pl.add] using h1,?_⟩
      simp only [Pl.add,hal,okCells,ht]; exact e4
   | _=>exact h2.elim
end
end Go.Am
end

section
namespace Go.Am
def fieldAddrK (P:Program) (m:Mm) (t:TypeId) (x:AV) (i:Nat) (k:AV->Prop):Prop:=
 match (ty P t).k with
 | .st fs=>match fs[i]? with
  | some (off,size,_)=>size≠0/\match x with
   | .one (.c (.pl p))=>hasRoom m p off/\k (.one (.c (.pl (p.add off))))
   | .one (.c (.el row o))=>k (.one (.c (.el row (o+off))))
   | _=>False
  | none=>False
 | _=>False
def Pl.at (p:Pl) (i e:Nat):Pl:={ p with path:=p.path++[⟨i,e,0⟩] }
def indexAddrK (P:Program) (m:Mm) (t:TypeId) (x i:AV) (k:AV->Prop):Prop:=
 match i with
 | .one (.c (.d (.int _ n)))=>match (ty P t).k,x with
  | .sl e,.one (.c (.d (.li l)))=>(ty P e).ok=true/\0<=n/\match l[n.toNat]? with
   | some row=>row.length=(ty P e).size/\k (.one (.c (.el row 0)))
   | none=>False
  | .sl e,.one (.c (.rf p))=>(ty P e).ok=true/\(ty P e).size≠0/\atK m p 1 fun ts=>match ts with
   | [.ow sub l]=>(0<=n/\n<l.length)/\sub.length=(ty P e).size/\k (.one (.c (.pl (p.at n.toNat (ty P e).size))))
   | _=>False
  | .ar N e,.one (.c (.pl p))=>(ty P e).ok=true/\(0<=n/\n<N)/\hasRoom m p (n.toNat*(ty P e).size)/\k (.one (.c (.pl (p.add (n.toNat*(ty P e).size)))))
  | .ar N e,.one (.c (.el row o))=>(ty P e).ok=true/\(0<=n/\n<N)/\k (.one (.c (.el row (o+n.toNat*(ty P e).size))))
  | _,_=>False
 | _=>False
def okvT:T->Prop
 | .d x=>okv x
 | _=>True
def okvTs:List T->Prop
 | []=>True
 | t::ts=>okvT t/\okvTs ts
def loadK (P:Program) (m:Mm) (t:TypeId) (x:AV) (k:AV->Prop):Prop:=
 (ty P t).ok=true/\match x with
 | .one (.c (.el row o))=>if (ty P t).agg=true then o+(ty P t).size<=row.length/\(okvs ((row.drop o).take (ty P t).size)->k (.one (.agg (((row.drop o).take (ty P t).size).map T.d))))
  else match row[o]? with
   | some x=>okv x->k (sc x)
   | none=>False
 | .one (.c (.pl p))=>if (ty P t).agg=true then atK m p (ty P t).size fun ts=>okvTs ts->k (.one (.agg (refTs p ts)))
  else atK m p 1 fun ts=>match ts with
   | [t']=>okvT t'->k (.one (.c (refT p t')))
   | _=>False
 | _=>False
def fieldK (P:Program) (t:TypeId) (x:AV) (i:Nat) (k:AV->Prop):Prop:=
 match (ty P t).k,x with
 | .st fs,.one (.agg ts)=>match fs[i]? with
  | some (off,size,some false)=>match ts[off]? with
   | some t'=>k (.one (.c t'))
   | none=>False
  | some (off,size,some true)=>off+size<=ts.length/\k (.one (.agg ((ts.drop off).take size)))
  | _=>False
 | _,_=>False
def nilCheckK (x:AV) (k:AV->Prop):Prop:=
 match x with
 | .one (.c (.pl p))=>k x
 | .one (.c (.el row o))=>k x
 | _=>False
section
variable {P:Program} {w:World} {H:FH} {γ:Gam} {m:Mm}
theorem Ts_zero {ts:List T} {vs:List Value} (hl:vs.length=ts.length) (h:∀ (i:Nat) (t:T),ts[i]? = some t->∃ v,vs[i]? = some v/\TR w H γ m t (fun _=>0) v):Ts (TR w H γ m) ts (fun _=>0) vs:=by
 induction ts generalizing vs with
 | nil=>exact fun _=>rfl
 | cons t ts ih=>
  cases vs with
  | nil=>simp at hl
  | cons v vs=>
   obtain ⟨v',hv,ht⟩:=h 0 t rfl
   simp only [List.getElem?_cons_zero,Option.some.injEq] at hv
   subst hv
   refine ⟨v,vs,fun _=>0,fun _=>0,rfl,fun _=>rfl,ht,ih (by simpa using hl) (fun i t' ht'=>?_)⟩
   obtain ⟨v',hv,ht⟩:=h (i+1) t' (by simpa using ht')
   exact ⟨v',by simpa using hv,ht⟩
theorem Ts_get {ts:List T} {f:Fp} {vs:List Value} (h:Ts (TR w H γ m) ts f vs) {i:Nat} {t:T} (ht:ts[i]? = some t):∃ v g,vs[i]? = some v/\TR w H γ m t g v/\∀ b,g b<=f b:=by
 obtain ⟨_,v,g,_,h2,h3,h4⟩:=Cs_get h ht
 exact ⟨v,g,h2,h3,h4⟩
theorem Ts_get0 {ts:List T} {vs:List Value} (h:Ts (TR w H γ m) ts (fun _=>0) vs) {i:Nat} {t:T} (ht:ts[i]? = some t):∃ v,vs[i]? = some v/\TR w H γ m t (fun _=>0) v:=by
 obtain ⟨v,g,h1,h2,h3⟩:=Ts_get h ht
 have e:g=fun _=>0:=by funext b; have:=h3 b; omega
 subst e
 exact ⟨v,h1,h2⟩
theorem wf_len {n:Nat} (hn:n<=BIG):(Lit.int .i64 (n:Int)).wf=true:=by
 simp only [Lit.wf,Bool.and_eq_true,decide_eq_true_eq]
 have h1:IntKind.i64.min=-9223372036854775808:=by decide
 have h2:IntKind.i64.max=9223372036854775807:=by decide
 have h3:BIG=4611686018427387904:=rfl
 rw [h1,h2]; omega
theorem rf_inv {F:Nm->Fp} (hm:Mem w H γ m F) {p:Pl} {u:Value} (hx:TR w H γ m (.rf p) (fun _=>0) u) {k:List T->Prop} (h:atK m p 1 k) :
  ∃ t,k [t]/\getPl m p=some t/\okPl m p/\plV w γ p=some u/\∃ f,TR w H γ m t f u:=by
 obtain ⟨_,hr,hv⟩:=hx
 have hok:=okPl_of_rf hr
 obtain ⟨ts,e1,e2,e3⟩:=atK_ok hm hok h
 match ts,e1 with
 | [t],_=>
  obtain ⟨g1,g2⟩:=e3 0 t rfl
  have hp:p.add 0=p:=by
   obtain ⟨n,o,path⟩:=p
   cases path with
   | nil=>rfl
   | cons st r=>
    simp only [Pl.add]
    have:∀ q:List Step,addLast q 0=q:=by
     intro q
     induction q with
     | nil=>rfl
     | cons a b ih=>cases b with
      | nil=>rfl
      | cons c d=>simp only [addLast] at ih ⊢; rw [ih]
    rw [this]
  rw [hp] at g1 g2
  obtain ⟨v,h1,_,_,h4⟩:=place_val hm hok g1
  rw [hv] at h1
  simp only [Option.some.injEq] at h1
  subst h1
  exact ⟨t,e2,g1,hok,hv,h4⟩
theorem add_zero (p:Pl):p.add 0=p:=by
 obtain ⟨n,o,path⟩:=p
 cases path with
 | nil=>rfl
 | cons st r=>
  simp only [Pl.add]
  have:∀ q:List Step,addLast q 0=q:=by
   intro q
   induction q with
   | nil=>rfl
   | cons a b ih=>cases b with
    | nil=>rfl
    | cons c d=>simp only [addLast] at ih ⊢; rw [ih]
  rw [this]
def isStrAV:AV->Bool
 | .one (.c (.d (.str _)))=>true
 | _=>false
theorem lenK_ok {F:Nm->Fp} (hm:Mem w H γ m F) {x:AV} {k:Nat->Prop} {u:Value} (h:lenK m x k) (hx:AR w H γ m x u) :
  ∃ n:Nat,k n/\(Lit.int .i64 (n:Int)).wf=true/\((∃ l:Array UInt8,u=.string ⟨l⟩/\l.size=n/\isStrAV x=true)\/∃ b c,u=.slice b n c/\isStrAV x=false):=by
 match x,h with
 | .one (.c (.d (.str l))),h=>
  obtain ⟨rfl,hl⟩:=AR_str hx
  exact ⟨l.length,h hl,wf_len hl,.inl ⟨_,rfl,by simp,rfl⟩⟩
 | .one (.c (.d (.li l))),h=>
  obtain ⟨b,c,rfl,_,hl,_⟩:=FDx_li_inv hx.2
  exact ⟨l.length,h hl,wf_len hl,.inr ⟨_,_,rfl,rfl⟩⟩
 | .one (.c .nil),h=>
  obtain ⟨_,rfl⟩:=hx
  exact ⟨0,h,wf_len (Nat.zero_le _),.inr ⟨_,_,rfl,rfl⟩⟩
 | .one (.c (.rf p)),h=>
  simp only [lenK] at h
  obtain ⟨t,h1,_,_,_,f,h2⟩:=rf_inv hm hx h
  cases t with
  | ow sub l=>
   obtain ⟨j,h2⟩:=h2
   cases j with
   | zero=>simp [OD] at h2
   | succ j=>
    obtain ⟨b,c,_,_,rfl,_,hl,_⟩:=OD_cells h2
    exact ⟨l.length,h1 hl,wf_len hl,.inr ⟨_,_,rfl,rfl⟩⟩
  | _=>exact h1.elim
theorem fieldAddrK_ok {F:Nm->Fp} (hm:Mem w H γ m F) {t:TypeId} {x:AV} {i:Nat} {k:AV->Prop} {u:Value} (h:fieldAddrK P m t x i k) (hx:AR w H γ m x u) :
  ∃ z d,(∀ w:World,(Instr.fieldAt t u i).run P w=.ok z w)/\AR w H γ m d z/\k d:=by
 unfold fieldAddrK at h
 cases hk:(ty P t).k with
 | st fs=>
  rw [hk] at h
  dsimp only at h
  obtain ⟨_,d,_,hd,he,_⟩:=ty_und hk (by simp)
  obtain ⟨fs',rfl,rfl⟩:=tk_st he
  cases hf:(fs'.toList.map fun f=>(f.offset,P.cellsOf f.type,aggT P f.type))[i]? with
  | none=>rw [hf] at h; exact h.elim
  | some q=>
   obtain ⟨off,size,ag⟩:=q
   rw [hf] at h
   obtain ⟨h0,h⟩:=h
   simp only [List.getElem?_map,Option.map_eq_some_iff,Prod.mk.injEq] at hf
   obtain ⟨f,hf1,rfl,rfl,rfl⟩:=hf
   have hf2:fs'[i]? = some f:=by simpa using hf1
   have hinf:∃ i,P.info? f.type=some i:=by
    cases hi:P.info? f.type with
    | none=>simp [Program.cellsOf,hi] at h0
    | some i=>exact ⟨i,rfl⟩
   obtain ⟨it,hit⟩:=hinf
   have run:∀ b o (w:World),(Instr.fieldAt t (.pointer (some ⟨b,o,none⟩)) i).run P w=.ok (.pointer (some ⟨b,o+f.offset,none⟩)) w:=by
    intro b o w
    simp only [Instr.fieldAt,Sem.run_bind,run_underlying hd,Result.andThen_ok,hf2,Instr.sureAddr,Sem.run_pure,fieldPlace,runs_sizeOf hit]
    rw [if_neg h0]
    simp only [Sem.run_pure,Result.andThen_ok,addr_add]
   match x,h with
   | .one (.c (.pl p)),h=>
    obtain ⟨hr,h⟩:=h
    obtain ⟨hz,hok,a,ha,rfl⟩:=hx
    obtain ⟨b,o,rfl⟩:=plA_none hm hok ha
    exact ⟨_,.one (.c (.pl (p.add f.offset))),run b o,⟨fun _=>rfl,okPl_add hok hr,_,plA_add ha,rfl⟩,h⟩
   | .one (.c (.el row o)),h=>
    obtain ⟨hz,b,o',n,rfl,hrow⟩:=hx
    exact ⟨_,.one (.c (.el row (o+f.offset))),run b (o'+o),⟨fun _=>rfl,b,o',n,by rw [Nat.add_assoc],hrow⟩,h⟩
 | _=>rw [hk] at h; exact h.elim
end
end Go.Am
end
