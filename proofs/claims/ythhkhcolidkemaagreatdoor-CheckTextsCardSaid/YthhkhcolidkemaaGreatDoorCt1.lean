/-
  Part 1: AmCore · AmGlob · AmMem.
-/
import Derived.WalkKit
import Derived.ProofKit
set_option linter.unusedSimpArgs false
set_option linter.unusedVariables false
set_option linter.unusedSectionVars false
set_option linter.unnecessarySimpa false
theorem akI:type_of% @Bool.and_eq_true:=@Bool.and_eq_true
theorem akJ:type_of% @Option.some.injEq:=@Option.some.injEq
theorem akK:type_of% @Nat.le_refl:=@Nat.le_refl
theorem akL:type_of% @List.getElem?_eq_getElem:=@List.getElem?_eq_getElem
theorem akM:type_of% @List.map_cons:=@List.map_cons
theorem akN:type_of% @List.getElem?_map:=@List.getElem?_map
theorem akO:type_of% @Nat.eq_of_beq_eq_true:=@Nat.eq_of_beq_eq_true
theorem akP:type_of% @Bool.false_eq_true:=@Bool.false_eq_true
theorem akQ:type_of% @Int.natCast_nonneg:=@Int.natCast_nonneg
theorem akR:type_of% @Nat.le_of_ble_eq_true:=@Nat.le_of_ble_eq_true
theorem akS:type_of% @List.mem_append:=@List.mem_append
theorem akT:type_of% @List.length_map:=@List.length_map
theorem akU:type_of% @List.mem_cons:=@List.mem_cons
theorem akV:type_of% @Bool.not_eq_false:=@Bool.not_eq_false
theorem akW:type_of% @List.all_cons:=@List.all_cons
theorem akX:type_of% @List.drop_eq_getElem_cons:=@List.drop_eq_getElem_cons
theorem akY:type_of% @List.mem_singleton:=@List.mem_singleton
theorem akZ:type_of% @List.all_eq_true:=@List.all_eq_true
theorem ak0:type_of% @Option.map_eq_some_iff:=@Option.map_eq_some_iff
theorem ak1:type_of% @List.length_singleton:=@List.length_singleton
theorem ak2:type_of% @List.map_congr_left:=@List.map_congr_left
theorem ak3:type_of% @List.length_cons:=@List.length_cons
theorem ak4:type_of% @Option.bind_eq_some_iff:=@Option.bind_eq_some_iff
theorem ak5:type_of% @List.mem_map:=@List.mem_map
theorem ak6:type_of% @List.length_append:=@List.length_append
theorem ak7:type_of% @List.getElem?_set_self:=@List.getElem?_set_self
theorem ak8:type_of% @List.length_nil:=@List.length_nil
theorem ak9:type_of% @List.length_pos_iff:=@List.length_pos_iff
theorem alA:type_of% @List.mem_iff_getElem:=@List.mem_iff_getElem
theorem alB:type_of% @List.map_set:=@List.map_set
theorem alC:type_of% @Bool.not_eq_true':=@Bool.not_eq_true'
theorem alD:type_of% @Nat.le_succ:=@Nat.le_succ
theorem alE:type_of% @List.take_of_length_le:=@List.take_of_length_le
theorem alF:type_of% @List.mem_cons_of_mem:=@List.mem_cons_of_mem
theorem alG:type_of% @Int.eq_ofNat_of_zero_le:=@Int.eq_ofNat_of_zero_le
theorem alH:type_of% @Bool.true_and:=@Bool.true_and
theorem alI:type_of% @Nat.eq_zero_or_pos:=@Nat.eq_zero_or_pos
theorem alJ:type_of% @Nat.zero_le:=@Nat.zero_le
theorem alK:type_of% @Bool.not_true:=@Bool.not_true
theorem alL:type_of% @List.mem_of_getElem?:=@List.mem_of_getElem?
theorem alM:type_of% @List.drop_length:=@List.drop_length
theorem alN:type_of% @List.map_nil:=@List.map_nil
theorem alO:type_of% @Bool.or_eq_true:=@Bool.or_eq_true
theorem alP:type_of% @List.ext_getElem?:=@List.ext_getElem?
theorem alQ:type_of% @List.flatMap_cons:=@List.flatMap_cons
theorem alR:type_of% @Array.getElem?_append_left:=@Array.getElem?_append_left
theorem alS:type_of% @Nat.mul_le_mul_right:=@Nat.mul_le_mul_right
theorem alT:type_of% @Int.le_trans:=@Int.le_trans
theorem alU:type_of% @Array.getD_eq_getD_getElem?:=@Array.getD_eq_getD_getElem?
theorem alV:type_of% @Nat.le_trans:=@Nat.le_trans
theorem alW:type_of% @List.map_map:=@List.map_map
theorem alX:type_of% @List.eq_nil_of_length_eq_zero:=@List.eq_nil_of_length_eq_zero
theorem alY:type_of% @Nat.lt_or_ge:=@Nat.lt_or_ge
theorem alZ:type_of% @List.foldl_cons:=@List.foldl_cons
theorem al0:type_of% @List.getElem?_cons_zero:=@List.getElem?_cons_zero
theorem al1:type_of% @List.append_assoc:=@List.append_assoc
theorem al2:type_of% @List.nodup_cons:=@List.nodup_cons
theorem al3:type_of% @List.getElem?_eq_some_iff:=@List.getElem?_eq_some_iff
theorem al4:type_of% @List.length_replicate:=@List.length_replicate
theorem al5:type_of% @List.singleton_append:=@List.singleton_append
theorem al6:type_of% @List.cons_append:=@List.cons_append
theorem al7:type_of% @Nat.and_two_pow_sub_one_eq_mod:=@Nat.and_two_pow_sub_one_eq_mod
theorem al8:type_of% @Nat.lt_irrefl:=@Nat.lt_irrefl
theorem al9:type_of% @Bool.not_false:=@Bool.not_false
theorem amA:type_of% @Bool.false_and:=@Bool.false_and
theorem amB:type_of% @List.append_nil:=@List.append_nil
theorem amC:type_of% @List.map_append:=@List.map_append
theorem amD:type_of% @List.set_set:=@List.set_set
theorem amE:type_of% @List.map_take:=@List.map_take
theorem amF:type_of% @List.getElem_mem:=@List.getElem_mem
theorem amG:type_of% @Option.getD_some:=@Option.getD_some
theorem amH:type_of% @List.getElem?_drop:=@List.getElem?_drop
theorem amI:type_of% @List.take_append_drop:=@List.take_append_drop
theorem amJ:type_of% @List.mem_append_right:=@List.mem_append_right
theorem amL:type_of% @List.length_set:=@List.length_set
theorem amM:type_of% @List.nil_append:=@List.nil_append
theorem amN:type_of% @List.getElem?_set_ne:=@List.getElem?_set_ne
theorem amO:type_of% @Bool.and_true:=@Bool.and_true
theorem amQ:type_of% @List.map_drop:=@List.map_drop
theorem amS:type_of% @List.mem_flatMap:=@List.mem_flatMap
theorem amT:type_of% @List.length_drop:=@List.length_drop
theorem amU:type_of% @Nat.mod_lt:=@Nat.mod_lt
theorem amV:type_of% @List.all_nil:=@List.all_nil
theorem am0:type_of% @Nat.add_zero:=@Nat.add_zero
theorem am1:type_of% @Nat.zero_add:=@Nat.zero_add
theorem kQ0{α:Type _}{a b:α}(h:a=b:=by kernel_rfl):a=b:=h
theorem kQ1{p:Prop}(h:p:=by omega):p:=h
section
namespace Go.Am
inductive D where
 |int (k:IntKind) (n:Int)
 |bool (b:Bool)
 |str (l:List UInt8)
 |li (l:List (List D))
 |mp (l:Option (List (D×D)))
 |fn (f:Nat) (l:List (List D))
 |v (x:Value)
 |any
 deriving Inhabited
inductive Sh where
 |fr
 |ow (sub:List Sh)
 deriving Inhabited
inductive Nm where
 |loc (i:Nat)
 |out (i:Nat)
 |gh (i:Nat)
 deriving DecidableEq,Inhabited
def Nm.isOut:Nm->Bool
 |.out _=>true
 |_=>false
structure Step where
 idx:Nat
 esz:Nat
 off:Nat
structure Pl where
 root:Nm
 off:Nat
 path:List Step
inductive T where
 |d (x:D)
 |nil
 |ow (sub:List Sh) (l:List (List D))
 |mp (l:List (D×Sh×D))
 |it (cur:Option (D×D)) (rest:List (D×D))
 |el (row:List D) (off:Nat)
 |pl (p:Pl)
 |rf (p:Pl)
 |any
 deriving Inhabited
inductive AV1 where
 |c (t:T)
 |agg (ts:List T)
 deriving Inhabited
inductive AV where
 |one (x:AV1)
 |tup (vs:List AV1)
 |any
 deriving Inhabited
structure Root where
 blk:Bool
 cells:List T
inductive HV where
 |c (y:Value)
 |m (es:Array MapEntry) (ck:Nat)
instance:Coe Value HV:=⟨.c⟩
abbrev FH:=Nat->Nat->Option HV
def BIG:Nat:=2 ^ 62
def pK:Value->Bool
 |.agg _|.tuple _=>false
 |_=>true
def FD(H:FH):Nat->D->Value->Prop
 |_,.int k n,x=>x=.int k n/\(Lit.int k n).wf=true
 |_,.bool b,x=>x=.bool b
 |_,.str l,x=>x=.string ⟨l.toArray⟩/\l.length<=BIG
 |_,.v y,x=>x=y/\pK y=true
 |_,.any,_=>True
 |0,.li _,_=>False
 |_,.mp none,x=>x=.map none
 |0,.mp (some _),_=>False
 |m+1,.mp (some l),x=>∃b es ck,x=.map (some b)/\H b 0=some (.m es ck)/\es.toList.length=l.length/\∀(i:Nat)(x:D×D)(y:MapEntry),l[i]? = some x->es.toList[i]? = some y->FD H m x.1 y.key/\FD H m x.2 y.val
 |0,.fn _ _,_=>False
 |m+1,.fn f rows,x=>∃ps:List Value,x=.func (.func f) #[] ps.toArray/\ps.length=rows.length/\∀(i:Nat)(row:List D)(y:Value),rows[i]? = some row->ps[i]? = some y->∃b o,y=.pointer (some ⟨b,o,none⟩) /\
   (row.length=1->o=0)/\∀j,j<row.length->∃z:Value,H b (o+j)=some z/\FD H m (row.getD j default) z
 |m+1,.li l,x=>∃a c,x=.slice a l.length c/\l.length<=c/\l.length<=BIG /\
   (l=[]\/∃b o e,a=some ⟨b,o,none⟩ /\
    ∀i,i<l.length->(l.getD i []).length=e /\
     ∀j,j<e->∃y:Value,H b (o+i*e+j)=some y/\FD H m ((l.getD i []).getD j default) y)
def FDx(H:FH)(x:D)(y:Value):Prop:=∃m,FD H m x y
variable{H:FH}{y:Value}
theorem L0{l:Option (List (D×D))}(h:FDx H (.mp l) y):∃b,y=.map b:=by
 obtain⟨m,h⟩:=h;cases l with
 |none=>cases m<;>exact⟨none,h⟩
 |some l=>cases m with
  |zero=>exact h.elim
  |succ m=>obtain⟨b,_,_,h,_⟩:=h;grind
variable{l:List (List D)}
theorem VC{f:Nat}(h:FDx H (.fn f l) y):∃ps,y=.func (.func f) #[] ps:=by
 obtain⟨m,h⟩:=h;cases m with
 |zero=>exact h.elim
 |succ m=>obtain⟨ps,h,_⟩:=h;grind
def FEl(H:FH)(m:Nat)(l:List (List D))(b o e:Nat):Prop:=∀i,i<l.length->(l.getD i []).length=e/\∀j,j<e->∃y:Value,H b (o+i*e+j)=some y/\FD H m ((l.getD i []).getD j default) y
def BR(H:FH)(m:Nat)(row:List D)(b o:Nat):Prop:=∀j,j<row.length->∃y:Value,H b (o+j)=some y/\FD H m (row.getD j default) y
variable{m:Nat}
theorem pC{x:Value}:FD H (m+1) (.li l) x ↔
  ∃a c,x=.slice a l.length c/\l.length<=c/\l.length<=BIG/\(l=[]\/∃b o e,a=some ⟨b,o,none⟩/\FEl H m l b o e):=by
 rfl
variable{H':FH}
theorem gN(g:∀b o y,H b o=some y->H' b o=some y):∀(m m':Nat)(x:D)(y:Value),m<=m'->FD H m x y->FD H' m' x y:=by
 intro m;induction m with
 |zero=>
  intro m' x y _ h;cases x with
  |li l=>simp[FD]at h
  |mp l=>cases l<;>grind [FD]
  |fn f l=>simp[FD]at h
  |int k n=>grind [FD]
  |bool b=>grind [FD]
  |str l=>grind [FD]
  |v z=>grind [FD]
  |any=>grind [FD]
 |succ m ih=>
  intro m' x y hm h;cases m' with
  |zero=>omega
  |succ m'=>
   cases x with
   |li l=>
    rw[pC]at h|-;obtain⟨a,c,hx,hc,hb,h⟩:=h;refine⟨a,c,hx,hc,hb,?_⟩;rcases h with h|⟨b,o,e,d,h⟩
    .grind
    refine .inr ⟨b,o,e,d,λi hi=>⟨(h i hi).1,λj hj=>?_⟩⟩;obtain⟨z,hz,hf⟩:=(h i hi).2 j hj
    grind
   |mp l=>cases l<;>grind [FD]
   |fn f l=>
    unfold FD at h|-
    grind
   |int k n=>grind [FD]
   |bool b=>grind [FD]
   |str l=>grind [FD]
   |v z=>grind [FD]
   |any=>simp[FD]
variable{x:D}
theorem fq(a:∀b o y,H b o=some y->H' b o=some y)(h:FDx H x y):FDx H' x y:=by obtain⟨m,h⟩:=h;exact⟨m,gN a m m x y (akK _) h⟩
theorem mW(a:∀b o y,H b o=some y->H' b o=some y){row:List D}{b o:Nat}(h:BR H m row b o):BR H' m row b o:=by intro j hj;obtain⟨z,hz,hf⟩:=h j hj;exact⟨z,a _ _ _ hz,gN a _ _ _ _ (akK _) hf⟩
theorem VD{b o e:Nat}
  (h:∀i,i<l.length->(l.getD i []).length=e/\∀j,j<e->∃y:Value,H b (o+i*e+j)=some y/\FDx H ((l.getD i []).getD j default) y) :
  ∃m,FEl H m l b o e:=by
 have key:∀n,n<=l.length->∃m,∀i,i<n->∀j,j<e->∃y:Value,H b (o+i*e+j)=some y/\FD H m ((l.getD i []).getD j default) y:=by
  intro n;induction n with
  |zero=>simp_all
  |succ n ih=>
   intro hn;obtain⟨p,h1⟩:=ih kQ1;have h2:∀k,k<=e->∃m,∀j,j<k->∃y:Value,H b (o+n*e+j)=some y/\FD H m ((l.getD n []).getD j default) y:=by
    intro k;induction k with
    |zero=>simp_all
    |succ k a=>
     intro hk;obtain⟨f,h2⟩:=a kQ1;obtain⟨y,hy,g,hf⟩:=(h n kQ1).2 k kQ1;refine⟨f+g,λj hj=>?_⟩;by_cases c:j=k
     .subst c;exact⟨y,hy,gN (λ_ _ _ h=>h) _ _ _ _ kQ1 hf⟩
     obtain⟨z,hz,hf⟩:=h2 j kQ1;exact⟨z,hz,gN (λ_ _ _ h=>h) _ _ _ _ kQ1 hf⟩
   obtain⟨f,h2⟩:=h2 e (akK _);refine⟨p+f,λi hi j hj=>?_⟩;by_cases d:i=n
   .subst d;obtain⟨z,hz,hf⟩:=h2 j hj;exact⟨z,hz,gN (λ_ _ _ h=>h) _ _ _ _ kQ1 hf⟩
   obtain⟨z,hz,hf⟩:=h1 i kQ1 j hj;exact⟨z,hz,gN (λ_ _ _ h=>h) _ _ _ _ kQ1 hf⟩
 obtain⟨m,hm⟩:=key l.length (akK _);exact⟨m,λi hi=>⟨(h i hi).1,λj hj=>hm i hi j hj⟩⟩
abbrev Fp:=Nat->Nat
variable{α β:Type}
def Cs(R:α->β->Fp->Value->Prop):List α->List β->Fp->List Value->Prop
 |[],[],f,_=>∀b,f b=0
 |s::c,x::xs,f,vs=>∃v r f1 a,vs=v::r/\(∀b,f b=f1 b+a b)/\R s x f1 v/\Cs R c xs a r
 |_,_,_,_=>False
def KG(fr:Nat×Nat)(_:Nat):Prop:=fr=(0,0)
def OD(w:World)(H:FH):Nat->Sh->D->Fp->Value->Prop
 |_,.fr,x,f,y=>(∀b,f b=0)/\FDx H x y
 |_,.ow _,.any,f,_=>∀b,f b=0
 |m+1,.ow sub,.li l,f,y=>
   (l=[]/\y=.slice none 0 0/\∀b,f b=0) \/
   ∃b c cs ty fr g,y=.slice (some ⟨b,0,none⟩) l.length c/\w.heap[b]? = some (.cells cs ty fr)/\KG fr cs.size /\
    cs.size=c*sub.length/\l.length<=c/\l.length<=BIG/\(∀x∈l,x.length=sub.length) /\
    Cs (OD w H m) (List.replicate l.length sub).flatten l.flatten g cs.toList/\∀k,f k=g k+if k=b then 1 else 0
 |_,_,_,_,_=>False
def gw:List (List UInt8):=[[],[97,100,100],[115,117,98],[109,117,108],[100,105,118],[114,101,109],[97,110,100],[111,114],[120,111,114],[115,104,108],[115,104,114],[101,113],[110,101],[108,116],[108,101],[102,97,100,100],[102,115,117,98],[102,109,117,108],[102,100,105,118],[102,101,113],[102,108,116],[102,108,101],[105,116,111,102],[102,116,111,105],[109,111,118],[110,101,119],[108,111,97,100],[115,116,111,114,101],[115,97,109,101],[103,108,111,97,100],[103,115,116,111,114,101],[99,97,108,108],[101,120,116],[111,117,116],[103,117,97,114,100]]
def sC(k:Nat):Option (List D):=if k=0 then some (gw.map D.str)else none
def adH:Option Nat:=some 1
theorem lY{R d:α->β->Fp->Value->Prop}:∀(a:List α)(xs:List β)(f:Fp)(vs:List Value),
  (∀s x g v,(∀b,g b<=f b)->R s x g v->d s x g v)->Cs R a xs f vs->Cs d a xs f vs
 |[],[],_,_,_,h=>h
 |s::a,x::xs,f,vs,e,h=>by
  obtain⟨v,r,f1,c,hv,hf,h1,h2⟩:=h;exact⟨v,r,f1,c,hv,hf,e _ _ _ _ (λb=>by grind) h1,
   lY a xs c r (λs x g v i=>e s x g v (λb=>by grind)) h2⟩
 |[],_::_,_,_,_,h=>h.elim
 |_::_,[],_,_,_,h=>h.elim
theorem Cv{R:α->β->Fp->Value->Prop}:∀(a:List α)(xs:List β)(f:Fp)(vs:List Value),
  Cs R a xs f vs->a.length=xs.length/\xs.length<=vs.length
 |[],[],_,_,_=>⟨rfl,alJ _⟩
 |s::a,x::xs,f,vs,h=>by
  obtain⟨v,r,f1,b,hv,_,_,h2⟩:=h;have:=Cv a xs b r h2
  grind
 |[],_::_,_,_,h=>h.elim
 |_::_,[],_,_,h=>h.elim
variable{f:Fp}
theorem pL{R:α->β->Fp->Value->Prop}{a:List α}{xs:List β}{g:Fp}{vs:List Value}(c:∀b,f b=g b)(h:Cs R a xs f vs):Cs R a xs g vs:=by
 have e:f=g:=funext c
 grind
theorem Cu{R:α->β->Fp->Value->Prop}:∀(e d:List α)(xs c:List β)(f f':Fp)(vs a:List Value),
  vs.length=xs.length->Cs R e xs f vs->Cs R d c f' a->Cs R (e++d) (xs++c) (λb=>f b+f' b) (vs++a)
 |[],d,[],c,f,f',vs,a,hl,h,h'=>by
  have:vs=[]:=by grind
  subst this;exact pL (λb=>by have:=h b;omega) h'
 |s::e,d,x::xs,c,f,f',vs,a,hl,h,h'=>by obtain⟨v,r,f1,g,hv,hf,h1,h2⟩:=h;subst hv;refine⟨v,r++a,f1,λb=>g b+f' b,rfl,λb=>by grind,h1,?_⟩;exact Cu e d xs c g f' r a (by grind) h2 h'
 |[],_,_::_,_,_,_,_,_,_,h,_=>h.elim
 |_::_,_,[],_,_,_,_,_,_,h,_=>h.elim
theorem Pi{R:α->β->Fp->Value->Prop}:∀(a:List α)(xs:List β)(f:Fp)(vs ws:List Value),
  Cs R a xs f vs->Cs R a xs f (vs++ws)
 |[],[],_,_,_,h=>h
 |s::a,x::xs,f,vs,ws,h=>by obtain⟨v,r,f1,b,hv,hf,h1,h2⟩:=h;subst hv;exact⟨v,r++ws,f1,b,rfl,hf,h1,Pi a xs b r ws h2⟩
 |[],_::_,_,_,_,h=>h.elim
 |_::_,[],_,_,_,h=>h.elim
theorem Pj{R:α->β->Fp->Value->Prop}:∀(a:List α)(xs:List β)(f:Fp)(vs:List Value)(n:Nat),
  xs.length<=n->Cs R a xs f vs->Cs R a xs f (vs.take n)
 |[],[],_,_,_,_,h=>h
 |s::a,x::xs,f,vs,n,hn,h=>by
  obtain⟨v,r,f1,b,hv,hf,h1,h2⟩:=h;subst hv;cases n with
  |zero=>grind
  |succ n=>exact⟨v,r.take n,f1,b,by simp,hf,h1,Pj a xs b r n (by grind) h2⟩
 |[],_::_,_,_,_,_,h=>h.elim
 |_::_,[],_,_,_,_,h=>h.elim
theorem dq{R:α->β->Fp->Value->Prop}:∀(c:List α)(xs:List β)(f:Fp)(vs:List Value)(k:Nat),
  Cs R c xs f vs->k<xs.length ->
  ∃s x v,∃e fr:Fp,c[k]? = some s/\xs[k]? = some x/\vs[k]? = some v/\(∀b,f b=e b+fr b)/\R s x e v /\
   (∀(d:α->β->Fp->Value->Prop)(x':β)(a:Value)(f':Fp),
    (∀s x g v,(∀b,g b<=fr b)->R s x g v->d s x g v)->d s x' f' a ->
    Cs d c (xs.set k x') (λb=>f' b+fr b) (vs.set k a)) /\
   (∀k',k'≠k->k'<xs.length->∃s' x' a g,c[k']? = some s'/\xs[k']? = some x'/\vs[k']? = some a/\R s' x' g a/\∀b,g b<=fr b)
 |[],[],_,_,k,_,hk=>by grind
 |s::c,x::xs,f,vs,0,h,_=>by
  obtain⟨v,r,f1,i,hv,hf,h1,h2⟩:=h;subst hv;refine⟨s,x,v,f1,i,rfl,rfl,rfl,hf,h1,?_,?_⟩
  .intro d x' a f' j l;exact⟨a,r,f',i,rfl,λ_=>rfl,l,lY _ _ _ _ j h2⟩
  intro k' m o;cases k' with
  |zero=>omega
  |succ k'=>
   obtain⟨s',x',a,e,fr,p,n,a3,a4,a5,_,_⟩:=dq c xs i r k' h2 (by grind)
   grind
 |s::c,x::xs,f,vs,k+1,h,hk=>by
  obtain⟨v,r,f1,i,hv,hf,h1,h2⟩:=h;subst hv;obtain⟨s',x',a,e,fr,p,n,a3,a4,a5,q,t⟩:=dq c xs i r k h2 (by grind);refine⟨s',x',a,e,λb=>f1 b+fr b,by grind,by grind,by grind,(show ∀b,f b=e b+(f1 b+fr b)from λb=>by grind),a5,?_,?_⟩
  .intro d y w g j hy;refine⟨v,r.set k w,f1,λb=>g b+fr b,rfl,λb=>by grind,j _ _ _ _ (λb=>by grind) h1,?_⟩;exact q d y w g (λs x g v u=>j s x g v (λb=>by grind)) hy
  grind
 |[],_::_,_,_,_,h,_=>h.elim
 |_::_,[],_,_,_,h,_=>h.elim
variable{w:World}
theorem gr:OD w H m .fr x f y ↔ (∀b,f b=0)/\FDx H x y:=by grind [OD]
variable{sub:List Sh}
theorem im:OD w H (m+1) (.ow sub) (.li l) f y ↔
   ((l=[]/\y=.slice none 0 0/\∀b,f b=0) \/
   ∃b c cs ty fr g,y=.slice (some ⟨b,0,none⟩) l.length c/\w.heap[b]? = some (.cells cs ty fr)/\KG fr cs.size /\
    cs.size=c*sub.length/\l.length<=c/\l.length<=BIG/\(∀x∈l,x.length=sub.length) /\
    Cs (OD w H m) (List.replicate l.length sub).flatten l.flatten g cs.toList/\∀k,f k=g k+if k=b then 1 else 0):=by
 rfl
theorem If{s:Sh}{g:Fp}(a:∀b,f b=g b)(h:OD w H m s x f y):OD w H m s x g y:=by
 have:f=g:=funext a
 grind
theorem cZ{w':World}(a:∀b o y,H b o=some y->H' b o=some y):∀(m m':Nat)(s:Sh)(x:D)(f:Fp)(y:Value),m<=m' ->
  (∀b,f b≠0->w'.heap[b]? = w.heap[b]?)->OD w H m s x f y->OD w' H' m' s x f y:=by
 intro m;induction m with
 |zero=>
  intro m' s x f y _ _ h;cases s with
  |fr=>grind [gr,fq]
  |ow sub=>
   cases x with
   |any=>grind [OD]
   |_=>simp[OD]at h
 |succ m ih=>
  intro m' s x f y hm hw h;cases s with
  |fr=>grind [gr]
  |ow sub=>
   cases m' with
   |zero=>omega
   |succ m'=>
    cases x with
    |li l=>
     rw[im]at h|-;rcases h with h|⟨b,c,cs,ty,fr,g,h1,h2,h3,h4,h5,h6,h7,h8,h9⟩
     .grind
     refine .inr ⟨b,c,cs,ty,fr,g,h1,?_,h3,h4,h5,h6,h7,?_,h9⟩
     all_goals grind [lY]
    |any=>grind [OD]
    |_=>simp[OD]at h
def bM(w:World):Value->List Step->Option Addr
 |.slice (some ⟨b,o,none⟩) _ _,[st]=>some ⟨b,o+st.idx*st.esz+st.off,none⟩
 |.slice (some ⟨b,o,none⟩) _ _,st::r=>
  match w.cell? ⟨b,o+st.idx*st.esz+st.off,none⟩with
  |some y=>bM w y r
  |none=>none
 |_,_=>none
def bU(sub:List Sh)(l:List (List D)):List Step->Option (Sh×D)
 |[]=>none
 |[st]=>(sub[st.off]?).map λs=>(s,(l.getD st.idx []).getD st.off default)
 |st::b::r=>
  match sub[st.off]?,(l.getD st.idx []).getD st.off default with
  |some (.ow a),.li l'=>bU a l' (b::r)
  |_,_=>none
def okO(sub:List Sh)(l:List (List D)):List Step->Prop
 |[]=>False
 |[st]=>st.idx<l.length/\st.esz=sub.length/\st.off<sub.length
 |st::b::r=>(st.idx<l.length/\st.esz=sub.length/\st.off<sub.length) /\
  match sub[st.off]?,(l.getD st.idx []).getD st.off default with
  |some (.ow a),.li l'=>okO a l' (b::r)
  |_,_=>False
def cC(sub:List Sh)(l:List (List D))(x:D):List Step->List (List D)
 |[]=>l
 |[st]=>l.set st.idx ((l.getD st.idx []).set st.off x)
 |st::b::r=>
  match sub[st.off]?,(l.getD st.idx []).getD st.off default with
  |some (.ow a),.li l'=>l.set st.idx ((l.getD st.idx []).set st.off (.li (cC a l' x (b::r))))
  |_,_=>l
theorem eY(n:Nat):∀(l:List (List α))(i j:Nat),(∀x∈l,x.length=n)->i<l.length->j<n ->
  l.flatten[i*n+j]? = (l.getD i [])[j]? := by
 intro l;induction l with
 |nil=>grind
 |cons x l ih=>
  intro i j hl hi hj;cases i with
  |zero=>grind
  |succ i=>
   have:(i+1)*n+j=n+(i*n+j):=by grind
   simp_all[List.getElem?_append_right]
theorem db(n:Nat):(l:List (List α))->(∀x∈l,x.length=n)->l.flatten.length=l.length*n:=by intro l;induction l<;>grind
theorem xC(n:Nat):∀(l:List (List α))(i j:Nat)(y:α),(∀x∈l,x.length=n)->i<l.length->j<n ->
  l.flatten.set (i*n+j) y=(l.set i ((l.getD i []).set j y)).flatten:=by
 intro l;induction l with
 |nil=>grind
 |cons x l ih=>intro i j y hl hi hj;cases i<;>grind [List.getD_cons_succ]
theorem Bm(sub:List Sh)(n i j:Nat)(hi:i<n)(hj:j<sub.length):(List.replicate n sub).flatten[i*sub.length+j]? = sub[j]? := by grind [eY]
theorem ym:∀(p:List Step)(m:Nat)(sub:List Sh)(l:List (List D))(f:Fp)(y:Value),
  OD w H m (.ow sub) (.li l) f y->(∀b,f b<=1)->okO sub l p ->
  ∃b k z s x cs ty frz,∃fz fr:Fp,bM w y p=some ⟨b,k,none⟩/\w.heap[b]? = some (.cells cs ty frz)/\KG frz cs.size/\cs[k]? = some z /\
   bU sub l p=some (s,x)/\(∀c,f c=fz c+fr c)/\fr b≠0/\OD w H m s x fz z /\
   ∀(w':World)(H':FH)(i:Value)(x':D)(f':Fp)(m':Nat),(∀b o v,H b o=some v->H' b o=some v) ->
    w'.heap[b]? = some (.cells (cs.setIfInBounds k i) ty frz)->(∀c,c≠b->fr c≠0->w'.heap[c]? = w.heap[c]?)->OD w' H' m' s x' f' i ->
    ∃M,OD w' H' M (.ow sub) (.li (cC sub l x' p)) (λc=>f' c+fr c) y:=by
 intro p;induction p with
 |nil=>intro m sub l f y _ _ h;exact h.elim
 |cons st r ih=>
  intro m sub l f y h hf a;cases m with
  |zero=>simp[OD]at h
  |succ m=>
  rw[im]at h;have q:st.idx<l.length/\st.esz=sub.length/\st.off<sub.length:=by
   cases r with
   |nil=>exact a
   |cons _ _=>exact a.1
  obtain⟨hi,S,ho⟩:=q;rcases h with⟨hl,_,_⟩|⟨b,c,cs,ty,frz,g,h1,h2,h3,h4,h5,h6,h7,h8,h9⟩
  .grind
  subst h1;have P:l.flatten.length=l.length*sub.length:=db _ _ h7
  have hk:st.idx*sub.length+st.off<l.flatten.length:=by
   have:(st.idx+1)*sub.length<=l.length*sub.length:=alS _ hi
   grind
  obtain⟨s,x,v,B,fr,C,N,a3,a4,a5,G,_⟩:=dq _ _ _ _ _ h8 hk;rw[Bm sub l.length st.idx st.off hi ho]at C;rw[eY sub.length l st.idx st.off h7 hi ho]at N;have hx:(l.getD st.idx []).getD st.off default=x:=by grind
  have Q:g b=0:=by grind
  have hv:cs[st.idx*sub.length+st.off]? = some v:=by grind
  cases r with
  |nil=>
   refine⟨b,st.idx*sub.length+st.off,v,s,x,cs,ty,frz,B,λc=>fr c+if c=b then 1 else 0,?_,h2,h3,hv,?_,?_,?_,?_,?_⟩
   .simp[bM,S]
   .grind [bU]
   .grind
   .simp
   .exact cZ (λ_ _ _ h=>h) m (m+1) _ _ _ _ kQ1 (λ_ _=>rfl) a5
   intro w' H' i x' f' m' n hb hc hz;refine⟨max m m'+1,?_⟩;simp only[cC];rw[im];refine .inr ⟨b,c,cs.setIfInBounds (st.idx*sub.length+st.off) i,ty,frz,λc=>f' c+fr c,?_,hb,?_,?_,?_,?_,?_,?_,?_⟩
   .simp
   .grind
   .grind
   .grind
   .grind
   .grind
   .rw[<- xC sub.length l st.idx st.off x' h7 hi ho,amL];have:=G (OD w' H' (max m m')) x' i f' (λs x g' v u hx=>cZ n m _ s x g' v (Nat.le_max_left _ _) (λk hk=>by
      grind) hx)
     (cZ (λ_ _ _ h=>h) m' _ s x' f' i (Nat.le_max_right _ _) (λ_ _=>rfl) hz)
    grind
   grind
  |cons t r=>
   obtain⟨_,a⟩:=a;rw[C,hx]at a;cases s with
   |fr=>grind
   |ow e=>
    cases x with
    |li l'=>
     have F:∀c,B c<=1:=λc=>by grind
     obtain⟨b',k',z,s,x,A,ty',j,fz,d,V,R,c3,O,W,T,U,I,K⟩:=ih m e l' B v a5 F a;have J:b≠b':=by grind
     have E:w.cell? ⟨b,0+st.idx*sub.length+st.off,none⟩=some v:=by grind [World.cell?]
     refine⟨b',k',z,s,x,A,ty',j,fz,λc=>d c+(fr c+if c=b then 1 else 0),?_,R,c3,O,?_,?_,?_,?_,?_⟩
     .grind [bM]
     .grind [bU]
     .grind
     .grind
     .exact cZ (λ_ _ _ h=>h) m (m+1) _ _ _ _ kQ1 (λ_ _=>rfl) I
     intro w' H' i x' f' m' n hb hc hz;obtain⟨M,L⟩:=K w' H' i x' f' m' n hb (λc h1 h2=>hc c h1 (by grind)) hz;refine⟨max m M+1,?_⟩;simp only[cC,C,hx];rw[im];refine .inr ⟨b,c,cs,ty,frz,λc=>(f' c+d c)+fr c,?_,?_,h3,h4,?_,?_,?_,?_,?_⟩
     .simp
     .grind
     .grind
     .grind
     .grind
     .rw[<- xC sub.length l st.idx st.off _ h7 hi ho,amL];have:=G (OD w' H' (max m M)) (.li (cC e l' x' (t::r))) v (λc=>f' c+d c) (λs x g' v u hx=>cZ n m _ s x g' v (Nat.le_max_left _ _) (λk hk=>by
        grind) hx)
       (cZ (λ_ _ _ h=>h) M _ _ _ _ _ (Nat.le_max_right _ _) (λ_ _=>rfl) L)
      have hs:cs.toList.set (st.idx*sub.length+st.off) v=cs.toList:=by
       apply alP
       grind
      grind
     grind
    |_=>grind
theorem QQ{n i j i' j':Nat}(hj:j<n)(d:j'<n)(h:i*n+j=i'*n+j'):i=i'/\j=j':=by
 rcases Nat.lt_trichotomy i i' with a|c|b
 .have:(i+1)*n<=i'*n:=alS _ a
  grind
 .grind
 have:(i'+1)*n<=i*n:=alS _ b
 grind
theorem ox{p:List Step}
  (h:OD w H m (.ow sub) (.li l) f y) (hf:∀b,f b<=1) (a:okO sub l p):∃b k,bM w y p=some ⟨b,k,none⟩/\f b≠0:=by
 obtain⟨b,k,_,_,_,_,_,_,fz,fr,d,_,_,_,_,e,c,_⟩:=ym p m sub l f y h hf a
 grind
theorem Ma:∀(p q:List Step)(m:Nat)(sub:List Sh)(l:List (List D))(f:Fp)(y:Value),
  OD w H m (.ow sub) (.li l) f y->(∀b,f b<=1)->okO sub l p->okO sub l q->p.map (λs=>(s.idx,s.off))≠q.map (λs=>(s.idx,s.off))->bM w y p≠bM w y q:=by
 intro p;induction p with
 |nil=>intro q m sub l f y _ _ h;exact h.elim
 |cons st r ih=>
  intro q m sub l f y h hf hp hq aj;cases q with
  |nil=>exact hq.elim
  |cons a N=>
  cases m with
  |zero=>simp[OD]at h
  |succ m=>
  rw[im]at h;have O:st.idx<l.length/\st.esz=sub.length/\st.off<sub.length:=by
   cases r with
   |nil=>exact hp
   |cons _ _=>exact hp.1
  have G:a.idx<l.length/\a.esz=sub.length/\a.off<sub.length:=by
   cases N with
   |nil=>exact hq
   |cons _ _=>exact hq.1
  obtain⟨hi,V,ho⟩:=O;obtain⟨o,J,e⟩:=G;rcases h with⟨hl,_,_⟩|⟨b,c,cs,ty,frz,g,h1,h2,h3,h4,h5,h6,h7,h8,h9⟩
  .grind
  subst h1;have ah:l.flatten.length=l.length*sub.length:=db _ _ h7
  have E:∀i j,i<l.length->j<sub.length->i*sub.length+j<l.flatten.length:=by
   intro i j hi hj;have:(i+1)*sub.length<=l.length*sub.length:=alS _ hi
   grind
  have ak:g b=0:=by grind
  have z:∀(t:Step)(t':Step)(u:List Step),t.idx<l.length->t.esz=sub.length->t.off<sub.length->okO sub l (t::t'::u) ->
    ∃d l' n v,∃fr:Fp,sub[t.off]? = some (.ow d)/\(l.getD t.idx []).getD t.off default=.li l'/\OD w H m (.ow d) (.li l') n v/\(∀c,g c=n c+fr c) /\
     okO d l' (t'::u)/\bM w (.slice (some ⟨b,0,none⟩) l.length c) (t::t'::u)=bM w v (t'::u) /\
     (cs.toList[t.idx*sub.length+t.off]? = some v) /\
     ∀k',k'≠t.idx*sub.length+t.off->k'<l.flatten.length->∃s' x' K,∃g':Fp,(List.replicate l.length sub).flatten[k']? = some s'/\l.flatten[k']? = some x'/\cs.toList[k']? = some K/\OD w H m s' x' g' K/\∀c,g' c<=fr c:=by
   intro t t' u M te R C;obtain⟨s,x,v,n,fr,S,a2,a3,a4,a5,_,a7⟩:=dq _ _ _ _ _ h8 (E t.idx t.off M R);rw[Bm sub l.length t.idx t.off M R]at S;rw[eY sub.length l t.idx t.off h7 M R]at a2;have hx:(l.getD t.idx []).getD t.off default=x:=by grind
   obtain⟨_,C⟩:=C;rw[S,hx]at C;have hv:cs[t.idx*sub.length+t.off]? = some v:=by grind
   have T:w.cell? ⟨b,0+t.idx*sub.length+t.off,none⟩=some v:=by grind [World.cell?]
   cases s with
   |fr=>grind
   |ow d=>
    cases x with
    |li l'=>exact⟨d,l',n,v,fr,S,hx,a5,a4,C,by grind [bM],a3,a7⟩
    |_=>grind
  have le1:(n fr:Fp)->(∀c,g c=n c+fr c)->∀c,n c<=1:=λn fr hg c=>by grind
  cases r with
  |nil=>
   have e1:bM w (.slice (some ⟨b,0,none⟩) l.length c) [st]=some ⟨b,st.idx*sub.length+st.off,none⟩:=by simp[bM,V]
   rw[e1];cases N with
   |nil=>grind [bM,QQ]
   |cons t' u=>
    obtain⟨d,l',n,v,fr,_,_,b3,b4,b5,b6,_,_⟩:=z a t' u o J e hq;obtain⟨b',k',Y,d2⟩:=ox b3 (le1 _ _ b4) b5
    grind
  |cons t u=>
   obtain⟨d,l',n,v,fr,q1,q2,b3,b4,b5,b6,b7,b8⟩:=z st t u hi V ho hp;rw[b6];obtain⟨b',k',Y,d2⟩:=ox b3 (le1 _ _ b4) b5;cases N with
   |nil=>grind [bM]
   |cons t' u'=>
    obtain⟨Q,ai,ad,K,X,A,B,ae,ac,I,L,F,aa⟩:=z a t' u' o J e hq;rw[L];by_cases hk:a.idx*sub.length+a.off=st.idx*sub.length+st.off
    .obtain⟨W,U⟩:=QQ e ho hk;rw[hk,b7]at F;obtain rfl:v=K:=by grind
     rw[U,q1]at A;rw[W,U,q2]at B;simp only[akJ,Sh.ow.injEq]at A;simp only[D.li.injEq]at B;subst A;subst B;refine ih (t'::u') m d l' n v b3 (le1 _ _ b4) b5 I ?_
     grind
    obtain⟨s',x',v2,g',P,c2,c3,c4,c5⟩:=b8 _ hk (E _ _ o e);rw[Bm sub l.length a.idx a.off o e,A]at P;rw[eY sub.length l a.idx a.off h7 o e]at c2;have hx:(l.getD a.idx []).getD a.off default=x':=by grind
    rw[B]at hx;rw[F]at c3;simp only[akJ]at P c3;subst P;subst hx;subst c3;obtain⟨af,ag,Z,ab⟩:=ox c4 (λc=>by have:=c5 c;grind) I
    grind
end Go.Am
end
