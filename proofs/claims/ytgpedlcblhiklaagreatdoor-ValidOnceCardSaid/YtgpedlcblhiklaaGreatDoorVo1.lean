/-
  Part 1: AmCore · AmGlob · AmMem.
-/
import Derived.WalkKit
import Derived.ProofKit
set_option linter.unusedSimpArgs false
set_option linter.unusedVariables false
set_option linter.unusedSectionVars false
set_option linter.unnecessarySimpa false
theorem aiW:type_of% @Bool.and_eq_true:=@Bool.and_eq_true
theorem aiX:type_of% @Option.some.injEq:=@Option.some.injEq
theorem aiY:type_of% @List.getElem?_eq_getElem:=@List.getElem?_eq_getElem
theorem aiZ:type_of% @List.map_cons:=@List.map_cons
theorem ai0:type_of% @Nat.le_refl:=@Nat.le_refl
theorem ai1:type_of% @List.length_cons:=@List.length_cons
theorem ai2:type_of% @List.length_map:=@List.length_map
theorem ai3:type_of% @List.length_append:=@List.length_append
theorem ai4:type_of% @List.getElem?_map:=@List.getElem?_map
theorem ai5:type_of% @Nat.eq_of_beq_eq_true:=@Nat.eq_of_beq_eq_true
theorem ai6:type_of% @List.length_nil:=@List.length_nil
theorem ai7:type_of% @List.mem_cons:=@List.mem_cons
theorem ai8:type_of% @Bool.false_eq_true:=@Bool.false_eq_true
theorem ai9:type_of% @List.mem_append:=@List.mem_append
theorem ajA:type_of% @Nat.le_of_ble_eq_true:=@Nat.le_of_ble_eq_true
theorem ajB:type_of% @List.all_eq_true:=@List.all_eq_true
theorem ajC:type_of% @Int.natCast_nonneg:=@Int.natCast_nonneg
theorem ajD:type_of% @List.mem_singleton:=@List.mem_singleton
theorem ajE:type_of% @List.all_cons:=@List.all_cons
theorem ajF:type_of% @Option.map_eq_some_iff:=@Option.map_eq_some_iff
theorem ajG:type_of% @List.map_congr_left:=@List.map_congr_left
theorem ajH:type_of% @List.take_length:=@List.take_length
theorem ajI:type_of% @List.append_assoc:=@List.append_assoc
theorem ajJ:type_of% @Nat.le_trans:=@Nat.le_trans
theorem ajK:type_of% @List.mem_map:=@List.mem_map
theorem ajL:type_of% @Option.bind_eq_some_iff:=@Option.bind_eq_some_iff
theorem ajM:type_of% @List.mem_cons_of_mem:=@List.mem_cons_of_mem
theorem ajN:type_of% @List.getElem?_set_self:=@List.getElem?_set_self
theorem ajO:type_of% @List.drop_eq_getElem_cons:=@List.drop_eq_getElem_cons
theorem ajP:type_of% @List.map_set:=@List.map_set
theorem ajQ:type_of% @Bool.not_eq_true':=@Bool.not_eq_true'
theorem ajR:type_of% @List.length_take:=@List.length_take
theorem ajS:type_of% @List.length_singleton:=@List.length_singleton
theorem ajT:type_of% @Bool.true_and:=@Bool.true_and
theorem ajU:type_of% @Bool.not_eq_false:=@Bool.not_eq_false
theorem ajV:type_of% @Nat.le_succ:=@Nat.le_succ
theorem ajW:type_of% @Nat.zero_le:=@Nat.zero_le
theorem ajX:type_of% @List.not_mem_nil:=@List.not_mem_nil
theorem ajY:type_of% @List.flatMap_cons:=@List.flatMap_cons
theorem ajZ:type_of% @Nat.eq_zero_or_pos:=@Nat.eq_zero_or_pos
theorem aj0:type_of% @List.nil_append:=@List.nil_append
theorem aj1:type_of% @List.map_append:=@List.map_append
theorem aj2:type_of% @Nat.mul_le_mul_right:=@Nat.mul_le_mul_right
theorem aj3:type_of% @List.nodup_cons:=@List.nodup_cons
theorem aj4:type_of% @List.map_nil:=@List.map_nil
theorem aj5:type_of% @List.eq_nil_of_length_eq_zero:=@List.eq_nil_of_length_eq_zero
theorem aj6:type_of% @Bool.or_eq_true:=@Bool.or_eq_true
theorem aj7:type_of% @List.take_of_length_le:=@List.take_of_length_le
theorem aj8:type_of% @List.take_append_drop:=@List.take_append_drop
theorem aj9:type_of% @List.map_map:=@List.map_map
theorem akA:type_of% @List.drop_length:=@List.drop_length
theorem akB:type_of% @List.mem_flatMap:=@List.mem_flatMap
theorem akC:type_of% @List.ext_getElem?:=@List.ext_getElem?
theorem akD:type_of% @List.count_append:=@List.count_append
theorem akE:type_of% @List.getElem?_eq_some_iff:=@List.getElem?_eq_some_iff
theorem akF:type_of% @Int.le_trans:=@Int.le_trans
theorem akG:type_of% @Option.getD_some:=@Option.getD_some
theorem akH:type_of% @List.length_pos_iff:=@List.length_pos_iff
theorem akI:type_of% @List.mem_of_getElem?:=@List.mem_of_getElem?
theorem akJ:type_of% @Array.getElem?_append_left:=@Array.getElem?_append_left
theorem akK:type_of% @Bool.and_true:=@Bool.and_true
theorem akL:type_of% @List.mem_append_right:=@List.mem_append_right
theorem akM:type_of% @List.length_filter_le:=@List.length_filter_le
theorem akN:type_of% @Nat.lt_or_ge:=@Nat.lt_or_ge
theorem akO:type_of% @List.foldl_cons:=@List.foldl_cons
theorem akP:type_of% @List.getElem?_cons_zero:=@List.getElem?_cons_zero
theorem akQ:type_of% @Array.getD_eq_getD_getElem?:=@Array.getD_eq_getD_getElem?
theorem akR:type_of% @Bool.false_and:=@Bool.false_and
theorem akS:type_of% @List.length_eq_one_iff:=@List.length_eq_one_iff
theorem akT:type_of% @List.length_set:=@List.length_set
theorem akU:type_of% @List.singleton_append:=@List.singleton_append
theorem akV:type_of% @List.cons_append:=@List.cons_append
theorem akW:type_of% @Nat.and_two_pow_sub_one_eq_mod:=@Nat.and_two_pow_sub_one_eq_mod
theorem akX:type_of% @Nat.lt_irrefl:=@Nat.lt_irrefl
theorem akY:type_of% @List.mem_iff_getElem:=@List.mem_iff_getElem
theorem akZ:type_of% @List.mem_of_mem_take:=@List.mem_of_mem_take
theorem ak0:type_of% @List.mem_append_left:=@List.mem_append_left
theorem ak1:type_of% @Int.eq_ofNat_of_zero_le:=@Int.eq_ofNat_of_zero_le
theorem ak2:type_of% @Nat.zero_add:=@Nat.zero_add
theorem ak3:type_of% @Nat.lt_of_succ_lt_succ:=@Nat.lt_of_succ_lt_succ
theorem ak4:type_of% @List.set_set:=@List.set_set
theorem ak5:type_of% @List.map_take:=@List.map_take
theorem ak6:type_of% @List.getElem_mem:=@List.getElem_mem
theorem ak7:type_of% @List.getElem?_drop:=@List.getElem?_drop
theorem ak8:type_of% @Nat.mod_lt:=@Nat.mod_lt
theorem ak9:type_of% @List.filter_append:=@List.filter_append
theorem alA:type_of% @List.length_replicate:=@List.length_replicate
theorem alB:type_of% @List.append_nil:=@List.append_nil
theorem alC:type_of% @List.all_nil:=@List.all_nil
theorem alD:type_of% @List.count_le_length:=@List.count_le_length
theorem alE:type_of% @List.length_take_le':=@List.length_take_le'
theorem alG:type_of% @List.map_drop:=@List.map_drop
theorem alH:type_of% @List.replicate_succ:=@List.replicate_succ
theorem alI:type_of% @List.mem_map_of_mem:=@List.mem_map_of_mem
theorem alK:type_of% @Nat.lt_succ_self:=@Nat.lt_succ_self
theorem alL:type_of% @List.length_drop:=@List.length_drop
theorem alM:type_of% @Nat.not_lt_zero:=@Nat.not_lt_zero
theorem kQ0{α:Type _}{a b:α}(h:a=b:=by kernel_rfl):a=b:=h
theorem kQ1{p:Prop}(h:p:=by omega):p:=h
section
namespace Go.Am
inductive D where
 |int (k:IntKind) (n:Int)
 |bool (b:Bool)
 |str (l:List UInt8)
 |li (l:List (List D))
 |mp (l:Option (List (D×D)))
 |fn (f:Nat) (l:List (List D))
 |v (x:Value)
 |any
 deriving Inhabited
inductive Sh where
 |fr
 |ow (sub:List Sh)
 deriving Inhabited
inductive Nm where
 |loc (i:Nat)
 |out (i:Nat)
 |gh (i:Nat)
 deriving DecidableEq,Inhabited
def Nm.isOut:Nm->Bool
 |.out _=>true
 |_=>false
structure Step where
 idx:Nat
 esz:Nat
 off:Nat
structure Pl where
 root:Nm
 off:Nat
 path:List Step
inductive T where
 |d (x:D)
 |nil
 |ow (sub:List Sh) (l:List (List D))
 |mp (l:List (D×Sh×D))
 |it (cur:Option (D×D)) (rest:List (D×D))
 |el (row:List D) (off:Nat)
 |pl (p:Pl)
 |rf (p:Pl)
 |any
 deriving Inhabited
inductive AV1 where
 |c (t:T)
 |agg (ts:List T)
 deriving Inhabited
inductive AV where
 |one (x:AV1)
 |tup (vs:List AV1)
 |any
 deriving Inhabited
structure Root where
 blk:Bool
 cells:List T
inductive HV where
 |c (y:Value)
 |m (es:Array MapEntry) (ck:Nat)
instance:Coe Value HV:=⟨.c⟩
abbrev FH:=Nat->Nat->Option HV
def BIG:Nat:=2 ^ 62
def oT:Value->Bool
 |.agg _|.tuple _=>false
 |_=>true
def FD(H:FH):Nat->D->Value->Prop
 |_,.int k n,x=>x=.int k n/\(Lit.int k n).wf=true
 |_,.bool b,x=>x=.bool b
 |_,.str l,x=>x=.string ⟨l.toArray⟩/\l.length<=BIG
 |_,.v y,x=>x=y/\oT y=true
 |_,.any,_=>True
 |0,.li _,_=>False
 |_,.mp none,x=>x=.map none
 |0,.mp (some _),_=>False
 |m+1,.mp (some l),x=>∃b es ck,x=.map (some b)/\H b 0=some (.m es ck)/\es.toList.length=l.length/\∀(i:Nat)(x:D×D)(y:MapEntry),l[i]? = some x->es.toList[i]? = some y->FD H m x.1 y.key/\FD H m x.2 y.val
 |0,.fn _ _,_=>False
 |m+1,.fn f rows,x=>∃ps:List Value,x=.func (.func f) #[] ps.toArray/\ps.length=rows.length/\∀(i:Nat)(row:List D)(y:Value),rows[i]? = some row->ps[i]? = some y->∃b o,y=.pointer (some ⟨b,o,none⟩) /\
   (row.length=1->o=0)/\∀j,j<row.length->∃z:Value,H b (o+j)=some z/\FD H m (row.getD j default) z
 |m+1,.li l,x=>∃a c,x=.slice a l.length c/\l.length<=c/\l.length<=BIG /\
   (l=[]\/∃b o e,a=some ⟨b,o,none⟩ /\
    ∀i,i<l.length->(l.getD i []).length=e /\
     ∀j,j<e->∃y:Value,H b (o+i*e+j)=some y/\FD H m ((l.getD i []).getD j default) y)
def FDx(H:FH)(x:D)(y:Value):Prop:=∃m,FD H m x y
variable{H:FH}{y:Value}
theorem Eu{l:Option (List (D×D))}(h:FDx H (.mp l) y):∃b,y=.map b:=by
 obtain⟨m,h⟩:=h;cases l with
 |none=>cases m<;>exact⟨none,h⟩
 |some l=>cases m with
  |zero=>exact h.elim
  |succ m=>obtain⟨b,_,_,h,_⟩:=h;grind
variable{l:List (List D)}
theorem UX{f:Nat}(h:FDx H (.fn f l) y):∃ps,y=.func (.func f) #[] ps:=by
 obtain⟨m,h⟩:=h;cases m with
 |zero=>exact h.elim
 |succ m=>obtain⟨ps,h,_⟩:=h;grind
def FEl(H:FH)(m:Nat)(l:List (List D))(b o e:Nat):Prop:=
 ∀i,i<l.length->(l.getD i []).length=e/\∀j,j<e->∃y:Value,H b (o+i*e+j)=some y/\FD H m ((l.getD i []).getD j default) y
def BN(H:FH)(m:Nat)(row:List D)(b o:Nat):Prop:=
 ∀j,j<row.length->∃y:Value,H b (o+j)=some y/\FD H m (row.getD j default) y
variable{m:Nat}
theorem kj{x:Value}:FD H (m+1) (.li l) x ↔
  ∃a c,x=.slice a l.length c/\l.length<=c/\l.length<=BIG/\(l=[]\/∃b o e,a=some ⟨b,o,none⟩/\FEl H m l b o e):=by
 rfl
variable{H':FH}
theorem fG(p:∀b o y,H b o=some y->H' b o=some y):∀(m m':Nat)(x:D)(y:Value),m<=m'->FD H m x y->FD H' m' x y:=by
 intro m;induction m with
 |zero=>
  intro m' x y _ h;cases x with
  |li l=>simp[FD]at h
  |mp l=>cases l<;>grind [FD]
  |fn f l=>simp[FD]at h
  |int k n=>grind [FD]
  |bool b=>grind [FD]
  |str l=>grind [FD]
  |v z=>grind [FD]
  |any=>grind [FD]
 |succ m ih=>
  intro m' x y g h;cases m' with
  |zero=>omega
  |succ m'=>
   cases x with
   |li l=>
    rw[kj]at h⊢;obtain⟨a,c,hx,hc,hb,h⟩:=h;refine⟨a,c,hx,hc,hb,?_⟩;rcases h with h|⟨b,o,e,d,h⟩
    ·grind
    ·refine .inr ⟨b,o,e,d,fun i hi=>⟨(h i hi).1,fun j hj=>?_⟩⟩;obtain⟨z,hz,hf⟩:=(h i hi).2 j hj
     grind
   |mp l=>
    cases l<;>grind [FD]
   |fn f l=>
    unfold FD at h⊢
    grind
   |int k n=>grind [FD]
   |bool b=>grind [FD]
   |str l=>grind [FD]
   |v z=>grind [FD]
   |any=>simp[FD]
variable{x:D}
theorem eJ(a:∀b o y,H b o=some y->H' b o=some y)(h:FDx H x y):FDx H' x y:=by
 obtain⟨m,h⟩:=h;exact⟨m,fG a m m x y (ai0 _) h⟩
theorem mj(a:∀b o y,H b o=some y->H' b o=some y){row:List D}{b o:Nat}(h:BN H m row b o):BN H' m row b o:=by
 intro j hj;obtain⟨z,hz,hf⟩:=h j hj;exact⟨z,a _ _ _ hz,fG a _ _ _ _ (ai0 _) hf⟩
theorem GI{b o e:Nat}
  (h:∀i,i<l.length->(l.getD i []).length=e/\∀j,j<e->∃y:Value,H b (o+i*e+j)=some y/\FDx H ((l.getD i []).getD j default) y) :
  ∃m,FEl H m l b o e:=by
 have key:∀n,n<=l.length->∃m,∀i,i<n->∀j,j<e->∃y:Value,H b (o+i*e+j)=some y/\FD H m ((l.getD i []).getD j default) y:=by
  intro n;induction n with
  |zero=>simp_all
  |succ n ih=>
   intro hn;obtain⟨q,h1⟩:=ih kQ1;have h2:∀k,k<=e->∃m,∀j,j<k->∃y:Value,H b (o+n*e+j)=some y/\FD H m ((l.getD n []).getD j default) y:=by
    intro k;induction k with
    |zero=>simp_all
    |succ k d=>
     intro hk;obtain⟨f,h2⟩:=d kQ1;obtain⟨y,hy,g,hf⟩:=(h n kQ1).2 k kQ1;refine⟨f+g,fun j hj=>?_⟩;by_cases a:j=k
     ·subst a;exact⟨y,hy,fG (fun _ _ _ h=>h) _ _ _ _ kQ1 hf⟩
     ·obtain⟨z,hz,hf⟩:=h2 j kQ1;exact⟨z,hz,fG (fun _ _ _ h=>h) _ _ _ _ kQ1 hf⟩
   obtain⟨f,h2⟩:=h2 e (ai0 _);refine⟨q+f,fun i hi j hj=>?_⟩;by_cases c:i=n
   ·subst c;obtain⟨z,hz,hf⟩:=h2 j hj;exact⟨z,hz,fG (fun _ _ _ h=>h) _ _ _ _ kQ1 hf⟩
   ·obtain⟨z,hz,hf⟩:=h1 i kQ1 j hj;exact⟨z,hz,fG (fun _ _ _ h=>h) _ _ _ _ kQ1 hf⟩
 obtain⟨m,p⟩:=key l.length (ai0 _);exact⟨m,fun i hi=>⟨(h i hi).1,fun j hj=>p i hi j hj⟩⟩
abbrev Fp:=Nat->Nat
variable{α β:Type}
def Cs(R:α->β->Fp->Value->Prop):List α->List β->Fp->List Value->Prop
 |[],[],f,_=>∀b,f b=0
 |s::c,x::xs,f,vs=>∃v r f1 a,vs=v::r/\(∀b,f b=f1 b+a b)/\R s x f1 v/\Cs R c xs a r
 |_,_,_,_=>False
def KB(fr:Nat×Nat)(_:Nat):Prop:=fr=(0,0)
def OD(w:World)(H:FH):Nat->Sh->D->Fp->Value->Prop
 |_,.fr,x,f,y=>(∀b,f b=0)/\FDx H x y
 |_,.ow _,.any,f,_=>∀b,f b=0
 |m+1,.ow sub,.li l,f,y=>
   (l=[]/\y=.slice none 0 0/\∀b,f b=0) \/
   ∃b c cs ty fr g,y=.slice (some ⟨b,0,none⟩) l.length c/\w.heap[b]? = some (.cells cs ty fr)/\KB fr cs.size /\
    cs.size=c*sub.length/\l.length<=c/\l.length<=BIG/\(∀x∈l,x.length=sub.length) /\
    Cs (OD w H m) (List.replicate l.length sub).flatten l.flatten g cs.toList/\∀k,f k=g k+if k=b then 1 else 0
 |_,_,_,_,_=>False
def gw:List (List UInt8):=[[],[97,100,100],[115,117,98],[109,117,108],[100,105,118],[114,101,109],[97,110,100],[111,114],[120,111,114],[115,104,108],[115,104,114],[101,113],[110,101],[108,116],[108,101],[102,97,100,100],[102,115,117,98],[102,109,117,108],[102,100,105,118],[102,101,113],[102,108,116],[102,108,101],[105,116,111,102],[102,116,111,105],[109,111,118],[110,101,119],[108,111,97,100],[115,116,111,114,101],[115,97,109,101],[103,108,111,97,100],[103,115,116,111,114,101],[99,97,108,108],[101,120,116],[111,117,116],[103,117,97,114,100]]
def rO(k:Nat):Option (List D):=if k=0 then none else none
def abM:Option Nat:=some 0
theorem lh{R e:α->β->Fp->Value->Prop}:∀(a:List α)(xs:List β)(f:Fp)(vs:List Value),
  (∀s x g v,(∀b,g b<=f b)->R s x g v->e s x g v)->Cs R a xs f vs->Cs e a xs f vs
 |[],[],_,_,_,h=>h
 |s::a,x::xs,f,vs,c,h=>by
  obtain⟨v,r,f1,d,hv,hf,h1,h2⟩:=h;exact⟨v,r,f1,d,hv,hf,c _ _ _ _ (fun b=>by grind) h1,
   lh a xs d r (fun s x g v i=>c s x g v (fun b=>by grind)) h2⟩
 |[],_::_,_,_,_,h=>h.elim
 |_::_,[],_,_,_,h=>h.elim
theorem Cr{R:α->β->Fp->Value->Prop}:∀(a:List α)(xs:List β)(f:Fp)(vs:List Value),
  Cs R a xs f vs->a.length=xs.length/\xs.length<=vs.length
 |[],[],_,_,_=>⟨rfl,ajW _⟩
 |s::a,x::xs,f,vs,h=>by
  obtain⟨v,r,f1,b,hv,_,_,h2⟩:=h;have:=Cr a xs b r h2
  grind
 |[],_::_,_,_,h=>h.elim
 |_::_,[],_,_,h=>h.elim
variable{f:Fp}
theorem oX{R:α->β->Fp->Value->Prop}{a:List α}{xs:List β}{g:Fp}{vs:List Value}(c:∀b,f b=g b)(h:Cs R a xs f vs):Cs R a xs g vs:=by
 have e:f=g:=funext c
 grind
theorem Cq{R:α->β->Fp->Value->Prop}:∀(e d:List α)(xs c:List β)(f f':Fp)(vs a:List Value),
  vs.length=xs.length->Cs R e xs f vs->Cs R d c f' a->Cs R (e++d) (xs++c) (fun b=>f b+f' b) (vs++a)
 |[],d,[],c,f,f',vs,a,hl,h,h'=>by
  have:vs=[]:=by grind
  subst this;exact oX (fun b=>by have:=h b;omega) h'
 |s::e,d,x::xs,c,f,f',vs,a,hl,h,h'=>by
  obtain⟨v,r,f1,g,hv,hf,h1,h2⟩:=h;subst hv;refine⟨v,r++a,f1,fun b=>g b+f' b,rfl,fun b=>by grind,h1,?_⟩;exact Cq e d xs c g f' r a (by grind) h2 h'
 |[],_,_::_,_,_,_,_,_,_,h,_=>h.elim
 |_::_,_,[],_,_,_,_,_,_,h,_=>h.elim
theorem OX{R:α->β->Fp->Value->Prop}:∀(a:List α)(xs:List β)(f:Fp)(vs ws:List Value),
  Cs R a xs f vs->Cs R a xs f (vs++ws)
 |[],[],_,_,_,h=>h
 |s::a,x::xs,f,vs,ws,h=>by
  obtain⟨v,r,f1,b,hv,hf,h1,h2⟩:=h;subst hv;exact⟨v,r++ws,f1,b,rfl,hf,h1,OX a xs b r ws h2⟩
 |[],_::_,_,_,_,h=>h.elim
 |_::_,[],_,_,_,h=>h.elim
theorem OY{R:α->β->Fp->Value->Prop}:∀(a:List α)(xs:List β)(f:Fp)(vs:List Value)(n:Nat),
  xs.length<=n->Cs R a xs f vs->Cs R a xs f (vs.take n)
 |[],[],_,_,_,_,h=>h
 |s::a,x::xs,f,vs,n,hn,h=>by
  obtain⟨v,r,f1,b,hv,hf,h1,h2⟩:=h;subst hv;cases n with
  |zero=>grind
  |succ n=>exact⟨v,r.take n,f1,b,by simp,hf,h1,OY a xs b r n (by grind) h2⟩
 |[],_::_,_,_,_,_,h=>h.elim
 |_::_,[],_,_,_,_,h=>h.elim
theorem cV{R:α->β->Fp->Value->Prop}:∀(c:List α)(xs:List β)(f:Fp)(vs:List Value)(k:Nat),
  Cs R c xs f vs->k<xs.length ->
  ∃s x v,∃d fr:Fp,c[k]? = some s/\xs[k]? = some x/\vs[k]? = some v/\(∀b,f b=d b+fr b)/\R s x d v /\
   (∀(e:α->β->Fp->Value->Prop)(x':β)(a:Value)(f':Fp),
    (∀s x g v,(∀b,g b<=fr b)->R s x g v->e s x g v)->e s x' f' a ->
    Cs e c (xs.set k x') (fun b=>f' b+fr b) (vs.set k a)) /\
   (∀k',k'≠k->k'<xs.length->∃s' x' a g,c[k']? = some s'/\xs[k']? = some x'/\vs[k']? = some a/\R s' x' g a/\∀b,g b<=fr b)
 |[],[],_,_,k,_,hk=>by grind
 |s::c,x::xs,f,vs,0,h,_=>by
  obtain⟨v,r,f1,i,hv,hf,h1,h2⟩:=h;subst hv;refine⟨s,x,v,f1,i,rfl,rfl,rfl,hf,h1,?_,?_⟩
  ·intro e x' a f' j l;exact⟨a,r,f',i,rfl,fun _=>rfl,l,lh _ _ _ _ j h2⟩
  ·intro k' o p;cases k' with
   |zero=>omega
   |succ k'=>
    obtain⟨s',x',a,d,fr,n,q,a3,a4,a5,_,_⟩:=cV c xs i r k' h2 (by grind)
    grind
 |s::c,x::xs,f,vs,k+1,h,hk=>by
  obtain⟨v,r,f1,i,hv,hf,h1,h2⟩:=h;subst hv;obtain⟨s',x',a,d,fr,n,q,a3,a4,a5,m,t⟩:=cV c xs i r k h2 (by grind);refine⟨s',x',a,d,fun b=>f1 b+fr b,by grind,by grind,by grind,(show ∀b,f b=d b+(f1 b+fr b)from fun b=>by grind),a5,?_,?_⟩
  ·intro e y w g j hy;refine⟨v,r.set k w,f1,fun b=>g b+fr b,rfl,fun b=>by grind,j _ _ _ _ (fun b=>by grind) h1,?_⟩;exact m e y w g (fun s x g v u=>j s x g v (fun b=>by grind)) hy
  grind
 |[],_::_,_,_,_,h,_=>h.elim
 |_::_,[],_,_,_,h,_=>h.elim
variable{w:World}
theorem fZ:OD w H m .fr x f y ↔ (∀b,f b=0)/\FDx H x y:=by
 grind [OD]
variable{sub:List Sh}
theorem fq:OD w H (m+1) (.ow sub) (.li l) f y ↔
   ((l=[]/\y=.slice none 0 0/\∀b,f b=0) \/
   ∃b c cs ty fr g,y=.slice (some ⟨b,0,none⟩) l.length c/\w.heap[b]? = some (.cells cs ty fr)/\KB fr cs.size /\
    cs.size=c*sub.length/\l.length<=c/\l.length<=BIG/\(∀x∈l,x.length=sub.length) /\
    Cs (OD w H m) (List.replicate l.length sub).flatten l.flatten g cs.toList/\∀k,f k=g k+if k=b then 1 else 0):=by
 rfl
theorem Ih{s:Sh}{g:Fp}(a:∀b,f b=g b)(h:OD w H m s x f y):OD w H m s x g y:=by
 have:f=g:=funext a
 grind
theorem cO{w':World}(d:∀b o y,H b o=some y->H' b o=some y):∀(m m':Nat)(s:Sh)(x:D)(f:Fp)(y:Value),m<=m' ->
  (∀b,f b≠0->w'.heap[b]? = w.heap[b]?)->OD w H m s x f y->OD w' H' m' s x f y:=by
 intro m;induction m with
 |zero=>
  intro m' s x f y _ _ h;cases s with
  |fr=>grind [fZ,eJ]
  |ow sub=>
   cases x with
   |any=>grind [OD]
   |_=>simp[OD]at h
 |succ m ih=>
  intro m' s x f y a hw h;cases s with
  |fr=>grind [fZ]
  |ow sub=>
   cases m' with
   |zero=>omega
   |succ m'=>
    cases x with
    |li l=>
     rw[fq]at h⊢;rcases h with h|⟨b,c,cs,ty,fr,g,h1,h2,h3,h4,h5,h6,h7,h8,h9⟩
     ·grind
     ·refine .inr ⟨b,c,cs,ty,fr,g,h1,?_,h3,h4,h5,h6,h7,?_,h9⟩
      all_goals grind [lh]
    |int k n=>simp[OD]at h
    |bool k=>simp[OD]at h
    |str k=>simp[OD]at h
    |mp k=>simp[OD]at h
    |fn f k=>simp[OD]at h
    |v k=>simp[OD]at h
    |any=>grind [OD]
def bv(w:World):Value->List Step->Option Addr
 |.slice (some ⟨b,o,none⟩) _ _,[st]=>some ⟨b,o+st.idx*st.esz+st.off,none⟩
 |.slice (some ⟨b,o,none⟩) _ _,st::r=>
  match w.cell? ⟨b,o+st.idx*st.esz+st.off,none⟩with
  |some y=>bv w y r
  |none=>none
 |_,_=>none
def bJ(sub:List Sh)(l:List (List D)):List Step->Option (Sh×D)
 |[]=>none
 |[st]=>(sub[st.off]?).map fun s=>(s,(l.getD st.idx []).getD st.off default)
 |st::b::r=>
  match sub[st.off]?,(l.getD st.idx []).getD st.off default with
  |some (.ow a),.li l'=>bJ a l' (b::r)
  |_,_=>none
def okO(sub:List Sh)(l:List (List D)):List Step->Prop
 |[]=>False
 |[st]=>st.idx<l.length/\st.esz=sub.length/\st.off<sub.length
 |st::b::r=>(st.idx<l.length/\st.esz=sub.length/\st.off<sub.length) /\
  match sub[st.off]?,(l.getD st.idx []).getD st.off default with
  |some (.ow a),.li l'=>okO a l' (b::r)
  |_,_=>False
def cx(sub:List Sh)(l:List (List D))(x:D):List Step->List (List D)
 |[]=>l
 |[st]=>l.set st.idx ((l.getD st.idx []).set st.off x)
 |st::b::r=>
  match sub[st.off]?,(l.getD st.idx []).getD st.off default with
  |some (.ow a),.li l'=>l.set st.idx ((l.getD st.idx []).set st.off (.li (cx a l' x (b::r))))
  |_,_=>l
theorem eA(n:Nat):∀(l:List (List α))(i j:Nat),(∀x∈l,x.length=n)->i<l.length->j<n ->
  l.flatten[i*n+j]? = (l.getD i [])[j]? := by
 intro l;induction l with
 |nil=>grind
 |cons x l ih=>
  intro i j hl hi hj;have hx:x.length=n:=hl x (by simp)
  cases i with
  |zero=>grind
  |succ i=>
   have:(i+1)*n+j=n+(i*n+j):=by grind
   simp_all[List.getElem?_append_right]
theorem cR(n:Nat):∀(l:List (List α)),(∀x∈l,x.length=n)->l.flatten.length=l.length*n:=by
 intro l;induction l<;>grind
theorem xy(n:Nat):∀(l:List (List α))(i j:Nat)(y:α),(∀x∈l,x.length=n)->i<l.length->j<n ->
  l.flatten.set (i*n+j) y=(l.set i ((l.getD i []).set j y)).flatten:=by
 intro l;induction l with
 |nil=>grind
 |cons x l ih=>
  intro i j y hl hi hj;have hx:x.length=n:=hl x (by simp)
  cases i<;>grind [List.getD_cons_succ]
theorem Bj(sub:List Sh)(n i j:Nat)(hi:i<n)(hj:j<sub.length):(List.replicate n sub).flatten[i*sub.length+j]? = sub[j]? := by
 grind [eA]
theorem yl:∀(p:List Step)(m:Nat)(sub:List Sh)(l:List (List D))(f:Fp)(y:Value),
  OD w H m (.ow sub) (.li l) f y->(∀b,f b<=1)->okO sub l p ->
  ∃b k z s x cs ty frz,∃fz fr:Fp,bv w y p=some ⟨b,k,none⟩/\w.heap[b]? = some (.cells cs ty frz)/\KB frz cs.size/\cs[k]? = some z /\
   bJ sub l p=some (s,x)/\(∀c,f c=fz c+fr c)/\fr b≠0/\OD w H m s x fz z /\
   ∀(w':World)(H':FH)(i:Value)(x':D)(f':Fp)(m':Nat),(∀b o v,H b o=some v->H' b o=some v) ->
    w'.heap[b]? = some (.cells (cs.setIfInBounds k i) ty frz)->(∀c,c≠b->fr c≠0->w'.heap[c]? = w.heap[c]?)->OD w' H' m' s x' f' i ->
    ∃M,OD w' H' M (.ow sub) (.li (cx sub l x' p)) (fun c=>f' c+fr c) y:=by
 intro p;induction p with
 |nil=>intro m sub l f y _ _ h;exact h.elim
 |cons st r ih=>
  intro m sub l f y h hf a;cases m with
  |zero=>simp[OD]at h
  |succ m=>
  rw[fq]at h;have C:st.idx<l.length/\st.esz=sub.length/\st.off<sub.length:=by
   cases r with
   |nil=>exact a
   |cons _ _=>exact a.1
  obtain⟨hi,he,ho⟩:=C;rcases h with⟨hl,_,_⟩|⟨b,c,cs,ty,frz,g,h1,h2,h3,h4,h5,h6,h7,h8,h9⟩
  ·grind
  subst h1;have E:l.flatten.length=l.length*sub.length:=cR _ _ h7
  have hk:st.idx*sub.length+st.off<l.flatten.length:=by
   rw[E];have:(st.idx+1)*sub.length<=l.length*sub.length:=aj2 _ hi
   grind
  obtain⟨s,x,v,I,fr,u,N,a3,a4,a5,J,_⟩:=cV _ _ _ _ _ h8 hk;rw[Bj sub l.length st.idx st.off hi ho]at u;rw[eA sub.length l st.idx st.off h7 hi ho]at N;have hx:(l.getD st.idx []).getD st.off default=x:=by grind
  have K:g b=0:=by grind
  have hv:cs[st.idx*sub.length+st.off]? = some v:=by grind
  cases r with
  |nil=>
   refine⟨b,st.idx*sub.length+st.off,v,s,x,cs,ty,frz,I,fun c=>fr c+if c=b then 1 else 0,?_,h2,h3,hv,?_,?_,?_,?_,?_⟩
   ·simp[bv,he]
   ·grind [bJ]
   ·grind
   ·simp
   ·exact cO (fun _ _ _ h=>h) m (m+1) _ _ _ _ kQ1 (fun _ _=>rfl) a5
   ·intro w' H' i x' f' m' q hb hc hz;refine⟨max m m'+1,?_⟩;simp only[cx];rw[fq];refine .inr ⟨b,c,cs.setIfInBounds (st.idx*sub.length+st.off) i,ty,frz,fun c=>f' c+fr c,?_,hb,?_,?_,?_,?_,?_,?_,?_⟩
    ·simp
    ·grind
    ·grind
    ·grind
    ·grind
    ·grind
    ·rw[<- xy sub.length l st.idx st.off x' h7 hi ho,akT];have:=J (OD w' H' (max m m')) x' i f' (fun s x g' v F hx=>cO q m _ s x g' v (Nat.le_max_left _ _) (fun k hk=>by
       grind) hx)
      (cO (fun _ _ _ h=>h) m' _ s x' f' i (Nat.le_max_right _ _) (fun _ _=>rfl) hz)
     grind
    grind
  |cons t r=>
   obtain⟨_,a⟩:=a;rw[u,hx]at a;cases s with
   |fr=>grind
   |ow e=>
    cases x with
    |li l'=>
     have G:∀c,I c<=1:=fun c=>by grind
     obtain⟨b',k',z,s,x,A,ty',j,fz,d,S,c2,c3,c4,c5,T,R,O,Q⟩:=ih m e l' I v a5 G a;have L:b≠b':=by
      grind
     have B:w.cell? ⟨b,0+st.idx*sub.length+st.off,none⟩=some v:=by
      grind [World.cell?]
     refine⟨b',k',z,s,x,A,ty',j,fz,fun c=>d c+(fr c+if c=b then 1 else 0),?_,c2,c3,c4,?_,?_,?_,?_,?_⟩
     ·grind [bv]
     ·grind [bJ]
     ·grind
     ·grind
     ·exact cO (fun _ _ _ h=>h) m (m+1) _ _ _ _ kQ1 (fun _ _=>rfl) O
     ·intro w' H' i x' f' m' q hb hc hz;obtain⟨M,P⟩:=Q w' H' i x' f' m' q hb (fun c h1 h2=>hc c h1 (by grind)) hz;refine⟨max m M+1,?_⟩;simp only[cx,u,hx];rw[fq];refine .inr ⟨b,c,cs,ty,frz,fun c=>(f' c+d c)+fr c,?_,?_,h3,h4,?_,?_,?_,?_,?_⟩
      ·simp
      ·grind
      ·grind
      ·grind
      ·grind
      ·rw[<- xy sub.length l st.idx st.off _ h7 hi ho,akT];have:=J (OD w' H' (max m M)) (.li (cx e l' x' (t::r))) v (fun c=>f' c+d c) (fun s x g' v F hx=>cO q m _ s x g' v (Nat.le_max_left _ _) (fun k hk=>by
         grind) hx)
        (cO (fun _ _ _ h=>h) M _ _ _ _ _ (Nat.le_max_right _ _) (fun _ _=>rfl) P)
       have hs:cs.toList.set (st.idx*sub.length+st.off) v=cs.toList:=by
        apply akC
        grind
       grind
      grind
    |int k n=>grind
    |bool k=>grind
    |str k=>grind
    |mp k=>grind
    |fn f k=>grind
    |v k=>grind
    |any=>grind
theorem Qt{n i j i' j':Nat}(hj:j<n)(d:j'<n)(h:i*n+j=i'*n+j'):i=i'/\j=j':=by
 rcases Nat.lt_trichotomy i i' with b|c|a
 ·have:(i+1)*n<=i'*n:=aj2 _ b
  grind
 ·grind
 ·have:(i'+1)*n<=i*n:=aj2 _ a
  grind
theorem nu{p:List Step}
  (h:OD w H m (.ow sub) (.li l) f y) (hf:∀b,f b<=1) (a:okO sub l p):∃b k,bv w y p=some ⟨b,k,none⟩/\f b≠0:=by
 obtain⟨b,k,_,_,_,_,_,_,fz,fr,d,_,_,_,_,e,c,_⟩:=yl p m sub l f y h hf a
 grind
theorem L4:∀(p q:List Step)(m:Nat)(sub:List Sh)(l:List (List D))(f:Fp)(y:Value),
  OD w H m (.ow sub) (.li l) f y->(∀b,f b<=1)->okO sub l p->okO sub l q->p.map (fun s=>(s.idx,s.off))≠q.map (fun s=>(s.idx,s.off))->bv w y p≠bv w y q:=by
 intro p;induction p with
 |nil=>intro q m sub l f y _ _ h;exact h.elim
 |cons st r ih=>
  intro q m sub l f y h hf hp hq aj;cases q with
  |nil=>exact hq.elim
  |cons a W=>
  cases m with
  |zero=>simp[OD]at h
  |succ m=>
  rw[fq]at h;have Q:st.idx<l.length/\st.esz=sub.length/\st.off<sub.length:=by
   cases r with
   |nil=>exact hp
   |cons _ _=>exact hp.1
  have J:a.idx<l.length/\a.esz=sub.length/\a.off<sub.length:=by
   cases W with
   |nil=>exact hq
   |cons _ _=>exact hq.1
  obtain⟨hi,he,ho⟩:=Q;obtain⟨z,F,e⟩:=J;rcases h with⟨hl,_,_⟩|⟨b,c,cs,ty,frz,g,h1,h2,h3,h4,h5,h6,h7,h8,h9⟩
  ·grind
  subst h1;have T:l.flatten.length=l.length*sub.length:=cR _ _ h7
  have K:∀i j,i<l.length->j<sub.length->i*sub.length+j<l.flatten.length:=by
   intro i j hi hj;rw[T];have:(i+1)*sub.length<=l.length*sub.length:=aj2 _ hi
   grind
  have Y:g b=0:=by grind
  have o:∀(t:Step)(t':Step)(u:List Step),t.idx<l.length->t.esz=sub.length->t.off<sub.length->okO sub l (t::t'::u) ->
    ∃d l' A v,∃fr:Fp,sub[t.off]? = some (.ow d)/\(l.getD t.idx []).getD t.off default=.li l'/\OD w H m (.ow d) (.li l') A v/\(∀c,g c=A c+fr c) /\
     okO d l' (t'::u)/\bv w (.slice (some ⟨b,0,none⟩) l.length c) (t::t'::u)=bv w v (t'::u) /\
     (cs.toList[t.idx*sub.length+t.off]? = some v) /\
     ∀k',k'≠t.idx*sub.length+t.off->k'<l.flatten.length->∃s' x' L,∃g':Fp,(List.replicate l.length sub).flatten[k']? = some s'/\l.flatten[k']? = some x'/\cs.toList[k']? = some L/\OD w H m s' x' g' L/\∀c,g' c<=fr c:=by
   intro t t' u V te S B;obtain⟨s,x,v,A,fr,N,a2,a3,a4,a5,_,a7⟩:=cV _ _ _ _ _ h8 (K t.idx t.off V S);rw[Bj sub l.length t.idx t.off V S]at N;rw[eA sub.length l t.idx t.off h7 V S]at a2;have hx:(l.getD t.idx []).getD t.off default=x:=by grind
   obtain⟨_,B⟩:=B;rw[N,hx]at B;have hv:cs[t.idx*sub.length+t.off]? = some v:=by grind
   have O:w.cell? ⟨b,0+t.idx*sub.length+t.off,none⟩=some v:=by grind [World.cell?]
   cases s with
   |fr=>grind
   |ow d=>
    cases x with
    |li l'=>exact⟨d,l',A,v,fr,N,hx,a5,a4,B,by grind [bv],a3,a7⟩
    |int k n=>grind
    |bool k=>grind
    |str k=>grind
    |mp k=>grind
    |fn f k=>grind
    |v k=>grind
    |any=>grind
  have le1:∀(A fr:Fp),(∀c,g c=A c+fr c)->∀c,A c<=1:=fun A fr hg c=>by grind
  cases r with
  |nil=>
   have e1:bv w (.slice (some ⟨b,0,none⟩) l.length c) [st]=some ⟨b,st.idx*sub.length+st.off,none⟩:=by simp[bv,he]
   rw[e1];cases W with
   |nil=>
    grind [bv,Qt]
   |cons t' u=>
    obtain⟨d,l',A,v,fr,_,_,M,b4,b5,b6,_,_⟩:=o a t' u z F e hq;rw[b6];obtain⟨b',k',d1,d2⟩:=nu M (le1 _ _ b4) b5
    grind
  |cons t u=>
   obtain⟨d,l',A,v,fr,q1,q2,M,b4,b5,b6,b7,b8⟩:=o st t u hi he ho hp;rw[b6];obtain⟨b',k',d1,d2⟩:=nu M (le1 _ _ b4) b5;cases W with
   |nil=>
    grind [bv]
   |cons t' u'=>
    obtain⟨P,aa,ac,L,ah,E,C,af,Z,I,U,G,ag⟩:=o a t' u' z F e hq;rw[U];by_cases hk:a.idx*sub.length+a.off=st.idx*sub.length+st.off
    ·obtain⟨ei,X⟩:=Qt e ho hk;rw[hk,b7]at G;obtain rfl:v=L:=by grind
     rw[X,q1]at E;rw[ei,X,q2]at C;simp only[aiX,Sh.ow.injEq]at E;simp only[D.li.injEq]at C;subst E;subst C;refine ih (t'::u') m d l' A v M (le1 _ _ b4) b5 I ?_
     grind
    ·obtain⟨s',x',v2,g',R,c2,c3,c4,c5⟩:=b8 _ hk (K _ _ z e);rw[Bj sub l.length a.idx a.off z e,E]at R;rw[eA sub.length l a.idx a.off h7 z e]at c2;have hx:(l.getD a.idx []).getD a.off default=x':=by grind
     rw[C]at hx;rw[G]at c3;simp only[aiX]at R c3;subst R;subst hx;subst c3;obtain⟨ab,ai,ad,ae⟩:=nu c4 (fun c=>by have:=c5 c;grind) I
     grind
end Go.Am
end
