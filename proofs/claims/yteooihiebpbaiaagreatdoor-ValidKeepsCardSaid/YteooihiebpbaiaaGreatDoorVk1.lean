/-
  Part 1: AmCore · AmGlob · AmMem.
-/
import Derived.WalkKit
import Derived.ProofKit
set_option linter.unusedSimpArgs false
set_option linter.unusedVariables false
set_option linter.unusedSectionVars false
set_option linter.unnecessarySimpa false
theorem WG:type_of% @Option.some.injEq:=@Option.some.injEq
theorem WH:type_of% @List.getElem?_eq_getElem:=@List.getElem?_eq_getElem
theorem WI:type_of% @Bool.and_eq_true:=@Bool.and_eq_true
theorem WJ:type_of% @List.length_map:=@List.length_map
theorem WK:type_of% @List.getElem?_map:=@List.getElem?_map
theorem WL:type_of% @List.length_cons:=@List.length_cons
theorem WM:type_of% @List.length_append:=@List.length_append
theorem WN:type_of% @Nat.le_refl:=@Nat.le_refl
theorem WO:type_of% @Int.natCast_nonneg:=@Int.natCast_nonneg
theorem WP:type_of% @Bool.false_eq_true:=@Bool.false_eq_true
theorem WQ:type_of% @List.length_nil:=@List.length_nil
theorem WR:type_of% @List.mem_cons:=@List.mem_cons
theorem WS:type_of% @Nat.eq_of_beq_eq_true:=@Nat.eq_of_beq_eq_true
theorem WT:type_of% @Nat.le_of_ble_eq_true:=@Nat.le_of_ble_eq_true
theorem WU:type_of% @List.mem_singleton:=@List.mem_singleton
theorem WV:type_of% @List.mem_cons_of_mem:=@List.mem_cons_of_mem
theorem WW:type_of% @Option.map_eq_some_iff:=@Option.map_eq_some_iff
theorem WX:type_of% @List.mem_append:=@List.mem_append
theorem WY:type_of% @List.all_eq_true:=@List.all_eq_true
theorem WZ:type_of% @List.map_map:=@List.map_map
theorem W0:type_of% @List.all_cons:=@List.all_cons
theorem W1:type_of% @List.map_congr_left:=@List.map_congr_left
theorem W2:type_of% @List.getElem?_set_ne:=@List.getElem?_set_ne
theorem W3:type_of% @List.getElem?_take_of_lt:=@List.getElem?_take_of_lt
theorem W4:type_of% @Nat.lt_or_ge:=@Nat.lt_or_ge
theorem W5:type_of% @List.getElem?_set_self:=@List.getElem?_set_self
theorem W6:type_of% @Option.bind_some:=@Option.bind_some
theorem W7:type_of% @Nat.eq_zero_or_pos:=@Nat.eq_zero_or_pos
theorem W8:type_of% @List.getElem?_eq_none:=@List.getElem?_eq_none
theorem W9:type_of% @List.mem_of_getElem?:=@List.mem_of_getElem?
theorem Xa:type_of% @List.mem_map:=@List.mem_map
theorem Xb:type_of% @Option.getD_some:=@Option.getD_some
theorem Xc:type_of% @List.getElem?_drop:=@List.getElem?_drop
theorem Xd:type_of% @Option.bind_eq_some_iff:=@Option.bind_eq_some_iff
theorem Xe:type_of% @List.flatMap_cons:=@List.flatMap_cons
theorem Xf:type_of% @Array.getD_eq_getD_getElem?:=@Array.getD_eq_getD_getElem?
theorem Xg:type_of% @List.mem_map_of_mem:=@List.mem_map_of_mem
theorem Xh:type_of% @List.getElem?_eq_some_iff:=@List.getElem?_eq_some_iff
theorem Xi:type_of% @List.getElem?_cons_zero:=@List.getElem?_cons_zero
theorem Xj:type_of% @List.getElem_mem:=@List.getElem_mem
theorem Xk:type_of% @List.length_take:=@List.length_take
theorem Xl:type_of% @List.nodup_cons:=@List.nodup_cons
theorem Xm:type_of% @List.append_assoc:=@List.append_assoc
theorem Xn:type_of% @Bool.true_and:=@Bool.true_and
theorem Xo:type_of% @Nat.le_trans:=@Nat.le_trans
theorem Xp:type_of% @List.map_set:=@List.map_set
theorem Xq:type_of% @Nat.zero_le:=@Nat.zero_le
theorem Xr:type_of% @List.mem_append_left:=@List.mem_append_left
theorem Xs:type_of% @List.mem_append_right:=@List.mem_append_right
theorem Xt:type_of% @Nat.le_succ:=@Nat.le_succ
theorem Xu:type_of% @List.cons_append:=@List.cons_append
theorem Xv:type_of% @Nat.mul_le_mul_right:=@Nat.mul_le_mul_right
theorem Xw:type_of% @List.eq_nil_of_length_eq_zero:=@List.eq_nil_of_length_eq_zero
theorem Xx:type_of% @List.getElem?_cons_succ:=@List.getElem?_cons_succ
theorem Xy:type_of% @Nat.zero_add:=@Nat.zero_add
theorem Xz:type_of% @List.take_length:=@List.take_length
theorem XA:type_of% @List.getElem?_set:=@List.getElem?_set
theorem XB:type_of% @Bool.or_eq_true:=@Bool.or_eq_true
theorem XC:type_of% @List.map_append:=@List.map_append
theorem XD:type_of% @Array.getElem?_append_left:=@Array.getElem?_append_left
theorem XE:type_of% @Bool.not_eq_true':=@Bool.not_eq_true'
theorem XF:type_of% @Int.le_trans:=@Int.le_trans
theorem XG:type_of% @Bool.false_or:=@Bool.false_or
theorem XH:type_of% @Nat.add_mul:=@Nat.add_mul
theorem XI:type_of% @List.ext_getElem?:=@List.ext_getElem?
theorem XJ:type_of% @Option.isSome_none:=@Option.isSome_none
theorem XK:type_of% @List.mem_cons_self:=@List.mem_cons_self
theorem XL:type_of% @Array.getElem?_eq_none:=@Array.getElem?_eq_none
theorem XM:type_of% @List.drop_length:=@List.drop_length
theorem XN:type_of% @List.drop_eq_getElem_cons:=@List.drop_eq_getElem_cons
theorem XO:type_of% @List.length_replicate:=@List.length_replicate
theorem XP:type_of% @List.singleton_append:=@List.singleton_append
theorem XQ:type_of% @Bool.false_and:=@Bool.false_and
theorem XR:type_of% @List.sum_cons:=@List.sum_cons
theorem XS:type_of% @List.flatten_cons:=@List.flatten_cons
theorem XT:type_of% @List.getElem?_append_right:=@List.getElem?_append_right
theorem XU:type_of% @Array.getElem?_eq_some_iff:=@Array.getElem?_eq_some_iff
theorem XV:type_of% @List.set_set:=@List.set_set
theorem XW:type_of% @List.replicate_succ:=@List.replicate_succ
theorem XX:type_of% @List.take_append_drop:=@List.take_append_drop
theorem XY:type_of% @List.length_filter_le:=@List.length_filter_le
theorem XZ:type_of% @Bool.and_true:=@Bool.and_true
theorem X0:type_of% @List.mem_iff_getElem:=@List.mem_iff_getElem
theorem X1:type_of% @List.length_range:=@List.length_range
theorem X2:type_of% @List.nil_append:=@List.nil_append
theorem X3:type_of% @Option.map_none:=@Option.map_none
theorem X4:type_of% @List.append_nil:=@List.append_nil
theorem X5:type_of% @List.mem_filter:=@List.mem_filter
theorem X6:type_of% @List.map_take:=@List.map_take
theorem X7:type_of% @List.mem_iff_getElem?:=@List.mem_iff_getElem?
theorem X8:type_of% @Array.getElem?_eq_getElem:=@Array.getElem?_eq_getElem
theorem X9:type_of% @List.getElem?_append_left:=@List.getElem?_append_left
theorem Ya:type_of% @Array.mapM_eq_mapM_toList:=@Array.mapM_eq_mapM_toList
theorem Yb:type_of% @List.nodup_append:=@List.nodup_append
theorem Yc:type_of% @List.mem_of_mem_take:=@List.mem_of_mem_take
theorem Yd:type_of% @Bool.or_eq_false_iff:=@Bool.or_eq_false_iff
theorem Ye:type_of% @Bool.and_self:=@Bool.and_self
theorem Yf:type_of% @List.map_drop:=@List.map_drop
theorem Yh:type_of% @Option.getD_none:=@Option.getD_none
theorem Yi:type_of% @List.mem_range:=@List.mem_range
theorem Yj:type_of% @List.filter_append:=@List.filter_append
theorem Yk:type_of% @List.all_map:=@List.all_map
theorem Yl:type_of% @Nat.add_sub_cancel:=@Nat.add_sub_cancel
theorem Yn:type_of% @Nat.add_zero:=@Nat.add_zero
theorem Yo:type_of% @List.length_drop:=@List.length_drop
theorem Yp:type_of% @Nat.sub_zero:=@Nat.sub_zero
theorem Yq:type_of% @Nat.beq_refl:=@Nat.beq_refl
theorem Yr:type_of% @List.filter_cons:=@List.filter_cons
theorem Yy:type_of% @Nat.add_assoc:=@Nat.add_assoc
theorem YA:type_of% @Bool.not_true:=@Bool.not_true
theorem Z0{α:Type _}{a b:α}(h:a=b:=by kernel_rfl):a=b:=h
theorem Z1{p:Prop}(h:p:=by omega):p:=h
section
namespace Go.Am
inductive D where
 |int (k:IntKind) (n:Int)
 |bool (b:Bool)
 |str (l:List UInt8)
 |li (l:List (List D))
 |mp (l:Option (List (D×D)))
 |fn (f:Nat) (l:List (List D))
 |v (x:Value)
 |any
 deriving Inhabited
inductive Sh where
 |fr
 |ow (sub:List Sh)
 deriving Inhabited
inductive Nm where
 |loc (i:Nat)
 |out (i:Nat)
 |gh (i:Nat)
 deriving DecidableEq,Inhabited
def Nm.isOut:Nm->Bool
 |.out _=>true
 |_=>false
structure Step where
 idx:Nat
 esz:Nat
 off:Nat
structure Pl where
 root:Nm
 off:Nat
 path:List Step
inductive T where
 |d (x:D)
 |nil
 |ow (sub:List Sh) (l:List (List D))
 |mp (l:List (D×Sh×D))
 |it (cur:Option (D×D)) (rest:List (D×D))
 |el (row:List D) (off:Nat)
 |pl (p:Pl)
 |rf (p:Pl)
 |any
 deriving Inhabited
inductive AV1 where
 |c (t:T)
 |agg (ts:List T)
 deriving Inhabited
inductive AV where
 |one (x:AV1)
 |tup (vs:List AV1)
 |any
 deriving Inhabited
structure Root where
 blk:Bool
 cells:List T
inductive HV where
 |c (y:Value)
 |m (es:Array MapEntry) (ck:Nat)
instance:Coe Value HV:=⟨.c⟩
abbrev FH:=Nat->Nat->Option HV
def BIG:Nat:=2 ^ 62
def l4:Value->Bool
 |.agg _|.tuple _=>false
 |_=>true
def FD(H:FH):Nat->D->Value->Prop
 |_,.int k n,x=>x=.int k n/\(Lit.int k n).wf=true
 |_,.bool b,x=>x=.bool b
 |_,.str l,x=>x=.string ⟨l.toArray⟩/\l.length<=BIG
 |_,.v y,x=>x=y/\l4 y=true
 |_,.any,_=>True
 |0,.li _,_=>False
 |_,.mp none,x=>x=.map none
 |0,.mp (some _),_=>False
 |m+1,.mp (some l),x=>∃b es ck,x=.map (some b)/\H b 0=some (.m es ck)/\es.toList.length=l.length/\∀(i:Nat)(x:D×D)(y:MapEntry),l[i]? = some x->es.toList[i]? = some y->FD H m x.1 y.key/\FD H m x.2 y.val
 |0,.fn _ _,_=>False
 |m+1,.fn f rows,x=>∃ps:List Value,x=.func (.func f) #[] ps.toArray/\ps.length=rows.length/\∀(i:Nat)(row:List D)(y:Value),rows[i]? = some row->ps[i]? = some y->∃b o,y=.pointer (some ⟨b,o,none⟩) /\
   ∀j,j<row.length->∃z:Value,H b (o+j)=some z/\FD H m (row.getD j default) z
 |m+1,.li l,x=>∃a c,x=.slice a l.length c/\l.length<=c/\l.length<=BIG /\
   (l=[]\/∃b o e,a=some ⟨b,o,none⟩ /\
    ∀i,i<l.length->(l.getD i []).length=e /\
     ∀j,j<e->∃y:Value,H b (o+i*e+j)=some y/\FD H m ((l.getD i []).getD j default) y)
def FDx(H:FH)(x:D)(y:Value):Prop:=∃m,FD H m x y
theorem Eg{H:FH}{l:Option (List (D×D))}{y:Value}(h:FDx H (.mp l) y):∃b,y=.map b:=by
 obtain⟨m,h⟩:=h;cases l with
 |none=>cases m<;>exact⟨none,h⟩
 |some l=>cases m with
  |zero=>exact h.elim
  |succ m=>obtain⟨b,_,_,h,_⟩:=h;exact⟨some b,h⟩
theorem MK{H:FH}{f:Nat}{l:List (List D)}{y:Value}(h:FDx H (.fn f l) y):∃ps,y=.func (.func f) #[] ps:=by
 obtain⟨m,h⟩:=h;cases m with
 |zero=>exact h.elim
 |succ m=>obtain⟨ps,h,_⟩:=h;exact⟨_,h⟩
def FEl(H:FH)(m:Nat)(l:List (List D))(b o e:Nat):Prop:=
 ∀i,i<l.length->(l.getD i []).length=e/\∀j,j<e->∃y:Value,H b (o+i*e+j)=some y/\FD H m ((l.getD i []).getD j default) y
def wz(H:FH)(m:Nat)(row:List D)(b o:Nat):Prop:=
 ∀j,j<row.length->∃y:Value,H b (o+j)=some y/\FD H m (row.getD j default) y
theorem kh{H:FH}{m:Nat}{l:List (List D)}{x:Value}:FD H (m+1) (.li l) x ↔
  ∃a c,x=.slice a l.length c/\l.length<=c/\l.length<=BIG/\(l=[]\/∃b o e,a=some ⟨b,o,none⟩/\FEl H m l b o e):=by
 simp only[FD,FEl]
theorem eG{H H':FH}(hH:∀b o y,H b o=some y->H' b o=some y):∀(m m':Nat)(x:D)(y:Value),m<=m'->FD H m x y->FD H' m' x y:=by
 intro m;induction m with
 |zero=>
  intro m' x y _ h;cases x with
  |li l=>simp[FD]at h
  |mp l=>cases l with
   |none=>cases m'<;>simpa[FD]using h
   |some l=>simp[FD]at h
  |fn f l=>simp[FD]at h
  |int k n=>cases m'<;>simpa[FD]using h
  |bool b=>cases m'<;>simpa[FD]using h
  |str l=>cases m'<;>simpa[FD]using h
  |v z=>cases m'<;>simpa[FD]using h
  |any=>cases m'<;>simp[FD]
 |succ m ih=>
  intro m' x y hm h;cases m' with
  |zero=>omega
  |succ m'=>
   cases x with
   |li l=>
    rw[kh]at h⊢;obtain⟨a,c,hx,hc,hb,h⟩:=h;refine⟨a,c,hx,hc,hb,?_⟩;rcases h with h|⟨b,o,e,ha,h⟩
    ·exact .inl h
    ·refine .inr ⟨b,o,e,ha,fun i hi=>⟨(h i hi).1,fun j hj=>?_⟩⟩;obtain⟨z,hz,hf⟩:=(h i hi).2 j hj;exact⟨z,hH _ _ _ hz,ih _ _ _ Z1 hf⟩
   |mp l=>
    cases l with
    |none=>simpa[FD]using h
    |some l=>
    unfold FD at h⊢;obtain⟨b,es,ck,h1,h2,h3,h4⟩:=h;exact⟨b,es,ck,h1,hH _ _ _ h2,h3,fun i x y hx hy=>⟨ih _ _ _ Z1 (h4 i x y hx hy).1,ih _ _ _ Z1 (h4 i x y hx hy).2⟩⟩
   |fn f l=>
    unfold FD at h⊢;obtain⟨ps,h1,h2,h3⟩:=h;refine⟨ps,h1,h2,fun i x y hx hy=>?_⟩;obtain⟨b,o,h4,h5⟩:=h3 i x y hx hy;refine⟨b,o,h4,fun j hj=>?_⟩;obtain⟨z,hz,hf⟩:=h5 j hj;exact⟨z,hH _ _ _ hz,ih _ _ _ Z1 hf⟩
   |int k n=>simpa[FD]using h
   |bool b=>simpa[FD]using h
   |str l=>simpa[FD]using h
   |v z=>simpa[FD]using h
   |any=>simp[FD]
theorem cr{H H':FH}(hH:∀b o y,H b o=some y->H' b o=some y){x:D}{y:Value}(h:FDx H x y):FDx H' x y:=by
 obtain⟨m,h⟩:=h;exact⟨m,eG hH m m x y (WN _) h⟩
theorem ki{H H':FH}(hH:∀b o y,H b o=some y->H' b o=some y){m:Nat}{row:List D}{b o:Nat}(h:wz H m row b o):wz H' m row b o:=by
 intro j hj;obtain⟨z,hz,hf⟩:=h j hj;exact⟨z,hH _ _ _ hz,eG hH _ _ _ _ (WN _) hf⟩
theorem AF{H:FH}{l:List (List D)}{b o e:Nat}
  (h:∀i,i<l.length->(l.getD i []).length=e/\∀j,j<e->∃y:Value,H b (o+i*e+j)=some y/\FDx H ((l.getD i []).getD j default) y) :
  ∃m,FEl H m l b o e:=by
 have key:∀n,n<=l.length->∃m,∀i,i<n->∀j,j<e->∃y:Value,H b (o+i*e+j)=some y/\FD H m ((l.getD i []).getD j default) y:=by
  intro n;induction n with
  |zero=>exact fun _=>⟨0,fun i hi=>by omega⟩
  |succ n ih=>
   intro hn;obtain⟨m1,h1⟩:=ih Z1;have h2:∀k,k<=e->∃m,∀j,j<k->∃y:Value,H b (o+n*e+j)=some y/\FD H m ((l.getD n []).getD j default) y:=by
    intro k;induction k with
    |zero=>exact fun _=>⟨0,fun j hj=>by omega⟩
    |succ k ihk=>
     intro hk;obtain⟨m2,h2⟩:=ihk Z1;obtain⟨y,hy,m3,hf⟩:=(h n Z1).2 k Z1;refine⟨m2+m3,fun j hj=>?_⟩;by_cases hjk:j=k
     ·subst hjk;exact⟨y,hy,eG (fun _ _ _ h=>h) _ _ _ _ Z1 hf⟩
     ·obtain⟨z,hz,hf⟩:=h2 j Z1;exact⟨z,hz,eG (fun _ _ _ h=>h) _ _ _ _ Z1 hf⟩
   obtain⟨m2,h2⟩:=h2 e (WN _);refine⟨m1+m2,fun i hi j hj=>?_⟩;by_cases hin:i=n
   ·subst hin;obtain⟨z,hz,hf⟩:=h2 j hj;exact⟨z,hz,eG (fun _ _ _ h=>h) _ _ _ _ Z1 hf⟩
   ·obtain⟨z,hz,hf⟩:=h1 i Z1 j hj;exact⟨z,hz,eG (fun _ _ _ h=>h) _ _ _ _ Z1 hf⟩
 obtain⟨m,hm⟩:=key l.length (WN _);exact⟨m,fun i hi=>⟨(h i hi).1,fun j hj=>hm i hi j hj⟩⟩
abbrev Fp:=Nat->Nat
def Cs{α β:Type}(R:α->β->Fp->Value->Prop):List α->List β->Fp->List Value->Prop
 |[],[],f,_=>∀b,f b=0
 |s::ss,x::xs,f,vs=>∃v r f1 f2,vs=v::r/\(∀b,f b=f1 b+f2 b)/\R s x f1 v/\Cs R ss xs f2 r
 |_,_,_,_=>False
def Dc(fr:Nat×Nat)(_:Nat):Prop:=fr=(0,0)
def OD(w:World)(H:FH):Nat->Sh->D->Fp->Value->Prop
 |_,.fr,x,f,y=>(∀b,f b=0)/\FDx H x y
 |_,.ow _,.any,f,_=>∀b,f b=0
 |m+1,.ow sub,.li l,f,y=>
   (l=[]/\y=.slice none 0 0/\∀b,f b=0) \/
   ∃b c cs ty fr g,y=.slice (some ⟨b,0,none⟩) l.length c/\w.heap[b]? = some (.cells cs ty fr)/\Dc fr cs.size /\
    cs.size=c*sub.length/\l.length<=c/\l.length<=BIG/\(∀x∈l,x.length=sub.length) /\
    Cs (OD w H m) (List.replicate l.length sub).flatten l.flatten g cs.toList/\∀k,f k=g k+if k=b then 1 else 0
 |_,_,_,_,_=>False
def gw:List (List UInt8):=[[],[97,100,100],[115,117,98],[109,117,108],[100,105,118],[114,101,109],[97,110,100],[111,114],[120,111,114],[115,104,108],[115,104,114],[101,113],[110,101],[108,116],[108,101],[102,97,100,100],[102,115,117,98],[102,109,117,108],[102,100,105,118],[102,101,113],[102,108,116],[102,108,101],[105,116,111,102],[102,116,111,105],[109,111,118],[110,101,119],[108,111,97,100],[115,116,111,114,101],[115,97,109,101],[103,108,111,97,100],[103,115,116,111,114,101],[99,97,108,108],[101,120,116],[111,117,116],[103,117,97,114,100]]
def og(k:Nat):Option (List D):=if k=0 then some (gw.map D.str)else none
def RY:Option Nat:=some 1
theorem ji{α β:Type}{R R':α->β->Fp->Value->Prop}:∀(ss:List α)(xs:List β)(f:Fp)(vs:List Value),
  (∀s x g v,(∀b,g b<=f b)->R s x g v->R' s x g v)->Cs R ss xs f vs->Cs R' ss xs f vs
 |[],[],_,_,_,h=>h
 |s::ss,x::xs,f,vs,hR,h=>by
  obtain⟨v,r,f1,f2,hv,hf,h1,h2⟩:=h;exact⟨v,r,f1,f2,hv,hf,hR _ _ _ _ (fun b=>by have:=hf b;omega) h1,
   ji ss xs f2 r (fun s x g v hg=>hR s x g v (fun b=>by have:=hf b;have:=hg b;omega)) h2⟩
 |[],_::_,_,_,_,h=>h.elim
 |_::_,[],_,_,_,h=>h.elim
theorem xh{α β:Type}{R:α->β->Fp->Value->Prop}:∀(ss:List α)(xs:List β)(f:Fp)(vs:List Value),
  Cs R ss xs f vs->ss.length=xs.length/\xs.length<=vs.length
 |[],[],_,_,_=>⟨rfl,Xq _⟩
 |s::ss,x::xs,f,vs,h=>by
  obtain⟨v,r,f1,f2,hv,_,_,h2⟩:=h;have:=xh ss xs f2 r h2
  subst hv;simp;omega
 |[],_::_,_,_,h=>h.elim
 |_::_,[],_,_,h=>h.elim
theorem kf{α β:Type}{R:α->β->Fp->Value->Prop}{ss:List α}{xs:List β}{f g:Fp}{vs:List Value}(hg:∀b,f b=g b)(h:Cs R ss xs f vs):Cs R ss xs g vs:=by
 have e:f=g:=funext hg
 subst e;exact h
theorem xg{α β:Type}{R:α->β->Fp->Value->Prop}:∀(ss ss':List α)(xs xs':List β)(f f':Fp)(vs vs':List Value),
  vs.length=xs.length->Cs R ss xs f vs->Cs R ss' xs' f' vs'->Cs R (ss++ss') (xs++xs') (fun b=>f b+f' b) (vs++vs')
 |[],ss',[],xs',f,f',vs,vs',hl,h,h'=>by
  have:vs=[]:=by simpa using hl
  subst this;exact kf (fun b=>by have:=h b;omega) h'
 |s::ss,ss',x::xs,xs',f,f',vs,vs',hl,h,h'=>by
  obtain⟨v,r,f1,f2,hv,hf,h1,h2⟩:=h;subst hv;refine⟨v,r++vs',f1,fun b=>f2 b+f' b,rfl,fun b=>by have:=hf b;simp only;omega,h1,?_⟩;exact xg ss ss' xs xs' f2 f' r vs' (by simpa using hl) h2 h'
 |[],_,_::_,_,_,_,_,_,_,h,_=>h.elim
 |_::_,_,[],_,_,_,_,_,_,h,_=>h.elim
theorem G0{α β:Type}{R:α->β->Fp->Value->Prop}:∀(ss:List α)(xs:List β)(f:Fp)(vs ws:List Value),
  Cs R ss xs f vs->Cs R ss xs f (vs++ws)
 |[],[],_,_,_,h=>h
 |s::ss,x::xs,f,vs,ws,h=>by
  obtain⟨v,r,f1,f2,hv,hf,h1,h2⟩:=h;subst hv;exact⟨v,r++ws,f1,f2,rfl,hf,h1,G0 ss xs f2 r ws h2⟩
 |[],_::_,_,_,_,h=>h.elim
 |_::_,[],_,_,_,h=>h.elim
theorem G1{α β:Type}{R:α->β->Fp->Value->Prop}:∀(ss:List α)(xs:List β)(f:Fp)(vs:List Value)(n:Nat),
  xs.length<=n->Cs R ss xs f vs->Cs R ss xs f (vs.take n)
 |[],[],_,_,_,_,h=>h
 |s::ss,x::xs,f,vs,n,hn,h=>by
  obtain⟨v,r,f1,f2,hv,hf,h1,h2⟩:=h;subst hv;cases n with
  |zero=>simp at hn
  |succ n=>exact⟨v,r.take n,f1,f2,by simp,hf,h1,G1 ss xs f2 r n (by simpa using hn) h2⟩
 |[],_::_,_,_,_,_,h=>h.elim
 |_::_,[],_,_,_,_,h=>h.elim
theorem bW{α β:Type}{R:α->β->Fp->Value->Prop}:∀(ss:List α)(xs:List β)(f:Fp)(vs:List Value)(k:Nat),
  Cs R ss xs f vs->k<xs.length ->
  ∃s x v,∃fk fr:Fp,ss[k]? = some s/\xs[k]? = some x/\vs[k]? = some v/\(∀b,f b=fk b+fr b)/\R s x fk v /\
   (∀(R':α->β->Fp->Value->Prop)(x':β)(v':Value)(f':Fp),
    (∀s x g v,(∀b,g b<=fr b)->R s x g v->R' s x g v)->R' s x' f' v' ->
    Cs R' ss (xs.set k x') (fun b=>f' b+fr b) (vs.set k v')) /\
   (∀k',k'≠k->k'<xs.length->∃s' x' v' g,ss[k']? = some s'/\xs[k']? = some x'/\vs[k']? = some v'/\R s' x' g v'/\∀b,g b<=fr b)
 |[],[],_,_,k,_,hk=>by simp at hk
 |s::ss,x::xs,f,vs,0,h,_=>by
  obtain⟨v,r,f1,f2,hv,hf,h1,h2⟩:=h;subst hv;refine⟨s,x,v,f1,f2,rfl,rfl,rfl,hf,h1,?_,?_⟩
  ·intro R' x' v' f' hR hx';exact⟨v',r,f',f2,rfl,fun _=>rfl,hx',ji _ _ _ _ hR h2⟩
  ·intro k' hk' hlt;cases k' with
   |zero=>exact absurd rfl hk'
   |succ k'=>
    obtain⟨s',x',v',fk,fr,a1,a2,a3,a4,a5,_,_⟩:=bW ss xs f2 r k' h2 (by simpa using hlt);exact⟨s',x',v',fk,by simpa using a1,by simpa using a2,by simpa using a3,a5,fun b=>by have:=a4 b;(try dsimp only at *);omega⟩
 |s::ss,x::xs,f,vs,k+1,h,hk=>by
  obtain⟨v,r,f1,f2,hv,hf,h1,h2⟩:=h;subst hv;obtain⟨s',x',v',fk,fr,a1,a2,a3,a4,a5,a6,a7⟩:=bW ss xs f2 r k h2 (by simpa using hk);refine⟨s',x',v',fk,fun b=>f1 b+fr b,by simpa using a1,by simpa using a2,by simpa using a3,(show ∀b,f b=fk b+(f1 b+fr b)from fun b=>by have:=hf b;have:=a4 b;omega),a5,?_,?_⟩
  ·intro R' y w g hR hy;refine⟨v,r.set k w,f1,fun b=>g b+fr b,rfl,fun b=>by(try dsimp only at *);omega,hR _ _ _ _ (fun b=>by(try dsimp only at *);omega) h1,?_⟩;exact a6 R' y w g (fun s x g v hg=>hR s x g v (fun b=>by have:=hg b;(try dsimp only at *);omega)) hy
  ·intro k' hk' hlt;cases k' with
   |zero=>exact⟨s,x,v,f1,rfl,rfl,rfl,h1,fun b=>by(try dsimp only at *);omega⟩
   |succ k'=>
    obtain⟨s2,x2,v2,g,b1,b2,b3,b4,b5⟩:=a7 k' Z1 (by simpa using hlt);exact⟨s2,x2,v2,g,by simpa using b1,by simpa using b2,by simpa using b3,b4,fun b=>by have:=b5 b;(try dsimp only at *);omega⟩
 |[],_::_,_,_,_,h,_=>h.elim
 |_::_,[],_,_,_,h,_=>h.elim
theorem dU{w:World}{H:FH}{m:Nat}{x:D}{f:Fp}{y:Value}:OD w H m .fr x f y ↔ (∀b,f b=0)/\FDx H x y:=by
 cases m<;>simp[OD]
theorem dA{w:World}{H:FH}{m:Nat}{sub:List Sh}{l:List (List D)}{f:Fp}{y:Value}:OD w H (m+1) (.ow sub) (.li l) f y ↔
   ((l=[]/\y=.slice none 0 0/\∀b,f b=0) \/
   ∃b c cs ty fr g,y=.slice (some ⟨b,0,none⟩) l.length c/\w.heap[b]? = some (.cells cs ty fr)/\Dc fr cs.size /\
    cs.size=c*sub.length/\l.length<=c/\l.length<=BIG/\(∀x∈l,x.length=sub.length) /\
    Cs (OD w H m) (List.replicate l.length sub).flatten l.flatten g cs.toList/\∀k,f k=g k+if k=b then 1 else 0):=by
 simp[OD]
theorem Ba{w:World}{H:FH}{m:Nat}{s:Sh}{x:D}{f g:Fp}{y:Value}(hg:∀b,f b=g b)(h:OD w H m s x f y):OD w H m s x g y:=by
 have:f=g:=funext hg
 subst this;exact h
theorem bQ{w w':World}{H H':FH}(hH:∀b o y,H b o=some y->H' b o=some y):∀(m m':Nat)(s:Sh)(x:D)(f:Fp)(y:Value),m<=m' ->
  (∀b,f b≠0->w'.heap[b]? = w.heap[b]?)->OD w H m s x f y->OD w' H' m' s x f y:=by
 intro m;induction m with
 |zero=>
  intro m' s x f y _ _ h;cases s with
  |fr=>rw[dU]at h⊢;exact⟨h.1,cr hH h.2⟩
  |ow sub=>
   cases x with
   |any=>simpa[OD]using h
   |_=>simp[OD]at h
 |succ m ih=>
  intro m' s x f y hm hw h;cases s with
  |fr=>rw[dU]at h⊢;exact⟨h.1,cr hH h.2⟩
  |ow sub=>
   cases m' with
   |zero=>omega
   |succ m'=>
    cases x with
    |li l=>
     rw[dA]at h⊢;rcases h with h|⟨b,c,cs,ty,fr,g,h1,h2,h3,h4,h5,h6,h7,h8,h9⟩
     ·exact .inl h
     ·refine .inr ⟨b,c,cs,ty,fr,g,h1,?_,h3,h4,h5,h6,h7,?_,h9⟩
      ·rw[hw b (by rw[h9];simp)];exact h2
      ·refine ji _ _ _ _ ?_ h8;intro s x g' v hg' hx;exact ih m' s x g' v Z1 (fun k hk=>hw k (by have:=hg' k;rw[h9];omega)) hx
    |int k n=>simp[OD]at h
    |bool k=>simp[OD]at h
    |str k=>simp[OD]at h
    |mp k=>simp[OD]at h
    |fn f k=>simp[OD]at h
    |v k=>simp[OD]at h
    |any=>simpa[OD]using h
def aO(w:World):Value->List Step->Option Addr
 |.slice (some ⟨b,o,none⟩) _ _,[st]=>some ⟨b,o+st.idx*st.esz+st.off,none⟩
 |.slice (some ⟨b,o,none⟩) _ _,st::r=>
  match w.cell? ⟨b,o+st.idx*st.esz+st.off,none⟩with
  |some y=>aO w y r
  |none=>none
 |_,_=>none
def aY(sub:List Sh)(l:List (List D)):List Step->Option (Sh×D)
 |[]=>none
 |[st]=>(sub[st.off]?).map fun s=>(s,(l.getD st.idx []).getD st.off default)
 |st::st'::r=>
  match sub[st.off]?,(l.getD st.idx []).getD st.off default with
  |some (.ow sub'),.li l'=>aY sub' l' (st'::r)
  |_,_=>none
def okO(sub:List Sh)(l:List (List D)):List Step->Prop
 |[]=>False
 |[st]=>st.idx<l.length/\st.esz=sub.length/\st.off<sub.length
 |st::st'::r=>(st.idx<l.length/\st.esz=sub.length/\st.off<sub.length) /\
  match sub[st.off]?,(l.getD st.idx []).getD st.off default with
  |some (.ow sub'),.li l'=>okO sub' l' (st'::r)
  |_,_=>False
def bF(sub:List Sh)(l:List (List D))(x:D):List Step->List (List D)
 |[]=>l
 |[st]=>l.set st.idx ((l.getD st.idx []).set st.off x)
 |st::st'::r=>
  match sub[st.off]?,(l.getD st.idx []).getD st.off default with
  |some (.ow sub'),.li l'=>l.set st.idx ((l.getD st.idx []).set st.off (.li (bF sub' l' x (st'::r))))
  |_,_=>l
theorem cX{α:Type}(n:Nat):∀(l:List (List α))(i j:Nat),(∀x∈l,x.length=n)->i<l.length->j<n ->
  l.flatten[i*n+j]? = (l.getD i [])[j]? := by
 intro l;induction l with
 |nil=>intro i j _ h;simp at h
 |cons x l ih=>
  intro i j hl hi hj;have hx:x.length=n:=hl x (by simp)
  cases i with
  |zero=>simp[List.getElem?_append,hx,hj]
  |succ i=>
   have:(i+1)*n+j=n+(i*n+j):=by rw[XH];omega
   rw[this];simp only[XS,List.getD_cons_succ];rw[XT Z1];have e:n+(i*n+j)-x.length=i*n+j:=by omega
   rw[e];exact ih i j (fun y hy=>hl y (by simp[hy])) (by simpa using hi) hj
theorem bT{α:Type}(n:Nat):∀(l:List (List α)),(∀x∈l,x.length=n)->l.flatten.length=l.length*n:=by
 intro l;induction l with
 |nil=>simp
 |cons x l ih=>
  intro h;have:=ih (fun y hy=>h y (by simp[hy]))
  have:=h x (by simp)
  simp only[XS,WM,WL,XH];omega
theorem sG{α:Type}(n:Nat):∀(l:List (List α))(i j:Nat)(y:α),(∀x∈l,x.length=n)->i<l.length->j<n ->
  l.flatten.set (i*n+j) y=(l.set i ((l.getD i []).set j y)).flatten:=by
 intro l;induction l with
 |nil=>intro i j y _ h;simp at h
 |cons x l ih=>
  intro i j y hl hi hj;have hx:x.length=n:=hl x (by simp)
  cases i with
  |zero=>
   have hz:0*n+j=j:=by omega
   rw[hz];simp only[XS,List.getD_cons_zero,List.set_cons_zero];rw[List.set_append_left _ _ Z1]
  |succ i=>
   have:(i+1)*n+j=n+(i*n+j):=by rw[XH];omega
   rw[this];simp only[XS,List.getD_cons_succ,List.set_cons_succ];rw[List.set_append_right _ _ Z1];have e:n+(i*n+j)-x.length=i*n+j:=by omega
   rw[e,ih i j y (fun y hy=>hl y (by simp[hy])) (by simpa using hi) hj]
theorem mV(sub:List Sh)(n i j:Nat)(hi:i<n)(hj:j<sub.length):(List.replicate n sub).flatten[i*sub.length+j]? = sub[j]? := by
 rw[cX sub.length (List.replicate n sub) i j (by intro x hx;rw[List.eq_of_mem_replicate hx]) (by simpa using hi) hj];simp[List.getD,hi]
theorem DG{n:Nat}{l:List (List D)}(hl:∀x∈l,x.length=n)(i:Nat)(hi:i<l.length)(j:Nat)(y:D) :
  ∀x∈l.set i ((l.getD i []).set j y),x.length=n:=by
 intro x hx;rcases List.mem_or_eq_of_mem_set hx with h|h
 ·exact hl x h
 ·rw[h,List.length_set];have:l.getD i []=l[i]:=by simp[List.getD,hi]
  rw[this];exact hl _ (Xj hi)
theorem tg{w:World}{H:FH}:∀(p:List Step)(m:Nat)(sub:List Sh)(l:List (List D))(f:Fp)(y:Value),
  OD w H m (.ow sub) (.li l) f y->(∀b,f b<=1)->okO sub l p ->
  ∃b k z s x cs ty frz,∃fz fr:Fp,aO w y p=some ⟨b,k,none⟩/\w.heap[b]? = some (.cells cs ty frz)/\Dc frz cs.size/\cs[k]? = some z /\
   aY sub l p=some (s,x)/\(∀c,f c=fz c+fr c)/\fr b≠0/\OD w H m s x fz z /\
   ∀(w':World)(H':FH)(z':Value)(x':D)(f':Fp)(m':Nat),(∀b o v,H b o=some v->H' b o=some v) ->
    w'.heap[b]? = some (.cells (cs.setIfInBounds k z') ty frz)->(∀c,c≠b->fr c≠0->w'.heap[c]? = w.heap[c]?)->OD w' H' m' s x' f' z' ->
    ∃M,OD w' H' M (.ow sub) (.li (bF sub l x' p)) (fun c=>f' c+fr c) y:=by
 intro p;induction p with
 |nil=>intro m sub l f y _ _ h;exact h.elim
 |cons st r ih=>
  intro m sub l f y h hf hok;cases m with
  |zero=>simp[OD]at h
  |succ m=>
  rw[dA]at h;have hst:st.idx<l.length/\st.esz=sub.length/\st.off<sub.length:=by
   cases r with
   |nil=>exact hok
   |cons _ _=>exact hok.1
  obtain⟨hi,he,ho⟩:=hst;rcases h with⟨hl,_,_⟩|⟨b,c,cs,ty,frz,g,h1,h2,h3,h4,h5,h6,h7,h8,h9⟩
  ·subst hl;simp at hi
  subst h1;have hLl:l.flatten.length=l.length*sub.length:=bT _ _ h7
  have hk:st.idx*sub.length+st.off<l.flatten.length:=by
   rw[hLl];have:(st.idx+1)*sub.length<=l.length*sub.length:=Xv _ hi
   rw[XH]at this;omega
  obtain⟨s,x,v,fk,fr,a1,a2,a3,a4,a5,a6,_⟩:=bW _ _ _ _ _ h8 hk;rw[mV sub l.length st.idx st.off hi ho]at a1;rw[cX sub.length l st.idx st.off h7 hi ho]at a2;have hx:(l.getD st.idx []).getD st.off default=x:=by rw[List.getD,a2];rfl
  have hgb:g b=0:=by have:=hf b;rw[h9]at this;simp at this;omega
  have hv:cs[st.idx*sub.length+st.off]? = some v:=by simpa using a3
  cases r with
  |nil=>
   refine⟨b,st.idx*sub.length+st.off,v,s,x,cs,ty,frz,fk,fun c=>fr c+if c=b then 1 else 0,?_,h2,h3,hv,?_,?_,?_,?_,?_⟩
   ·simp[aO,he]
   ·simp only[aY,a1,hx,Option.map_some]
   ·intro c;have:=h9 c;have:=a4 c;dsimp only;omega
   ·simp
   ·exact bQ (fun _ _ _ h=>h) m (m+1) _ _ _ _ Z1 (fun _ _=>rfl) a5
   ·intro w' H' z' x' f' m' hH hb hc hz;refine⟨max m m'+1,?_⟩;simp only[bF];rw[dA];refine .inr ⟨b,c,cs.setIfInBounds (st.idx*sub.length+st.off) z',ty,frz,fun c=>f' c+fr c,?_,hb,?_,?_,?_,?_,?_,?_,?_⟩
    ·simp
    ·simpa using h3
    ·simpa using h4
    ·simpa using h5
    ·simpa using h6
    ·exact DG h7 _ hi _ _
    ·rw[<- sG sub.length l st.idx st.off x' h7 hi ho,List.length_set];have:=a6 (OD w' H' (max m m')) x' z' f' (fun s x g' v hg' hx=>bQ hH m _ s x g' v (Nat.le_max_left _ _) (fun k hk=>by
       have h0:=hg' k;have h1:=a4 k;have h2:=h9 k
       have hkb:k≠b:=by intro e;subst e;omega
       exact hc k hkb (by dsimp only;omega)) hx)
      (bQ (fun _ _ _ h=>h) m' _ s x' f' z' (Nat.le_max_right _ _) (fun _ _=>rfl) hz)
     simpa using this
    ·intro k;dsimp only;omega
  |cons st' r=>
   obtain⟨_,hok⟩:=hok;rw[a1,hx]at hok;cases s with
   |fr=>exact hok.elim
   |ow sub'=>
    cases x with
    |li l'=>
     have hfk:∀c,fk c<=1:=fun c=>by have:=hf c;have:=h9 c;have:=a4 c;omega
     obtain⟨b',k',z,s,x,cs',ty',frz',fz,fr'',c1,c2,c3,c4,c5,c6,c7,c8,c9⟩:=ih m sub' l' fk v a5 hfk hok;have hbb:b≠b':=by
      intro e;subst e;have:=c6 b;have:=a4 b;omega
     have hcell:w.cell? ⟨b,0+st.idx*sub.length+st.off,none⟩=some v:=by
      simp[World.cell?,h2,hv]
     refine⟨b',k',z,s,x,cs',ty',frz',fz,fun c=>fr'' c+(fr c+if c=b then 1 else 0),?_,c2,c3,c4,?_,?_,?_,?_,?_⟩
     ·simp only[aO,he,hcell];exact c1
     ·simp only[aY,a1,hx];exact c5
     ·intro c;have:=h9 c;have:=a4 c;have:=c6 c;dsimp only;omega
     ·dsimp only;omega
     ·exact bQ (fun _ _ _ h=>h) m (m+1) _ _ _ _ Z1 (fun _ _=>rfl) c8
     ·intro w' H' z' x' f' m' hH hb hc hz;obtain⟨M,hM⟩:=c9 w' H' z' x' f' m' hH hb (fun c h1 h2=>hc c h1 (by dsimp only;omega)) hz;refine⟨max m M+1,?_⟩;simp only[bF,a1,hx];rw[dA];refine .inr ⟨b,c,cs,ty,frz,fun c=>(f' c+fr'' c)+fr c,?_,?_,h3,h4,?_,?_,?_,?_,?_⟩
      ·simp
      ·rw[hc b hbb (by simp)];exact h2
      ·simpa using h5
      ·simpa using h6
      ·exact DG h7 _ hi _ _
      ·rw[<- sG sub.length l st.idx st.off _ h7 hi ho,List.length_set];have:=a6 (OD w' H' (max m M)) (.li (bF sub' l' x' (st'::r))) v (fun c=>f' c+fr'' c) (fun s x g' v hg' hx=>bQ hH m _ s x g' v (Nat.le_max_left _ _) (fun k hk=>by
         have h0:=hg' k;have h1:=a4 k;have h2:=h9 k;have h4:=c6 k;have h5:=hf k
         have hkb:k≠b':=by intro e;subst e;omega
         exact hc k hkb (by dsimp only;omega)) hx)
        (bQ (fun _ _ _ h=>h) M _ _ _ _ _ (Nat.le_max_right _ _) (fun _ _=>rfl) hM)
       have hs:cs.toList.set (st.idx*sub.length+st.off) v=cs.toList:=by
        apply XI
        intro n;rw[XA];by_cases hn:st.idx*sub.length+st.off=n
        ·subst hn;have hlt:st.idx*sub.length+st.off<cs.toList.length:=by
          rcases W4 (st.idx*sub.length+st.off) cs.toList.length with h|h
          ·exact h
          ·rw[W8 h]at a3;simp at a3
         rw[if_pos rfl,if_pos hlt];exact a3.symm
        ·simp[hn]
       rw[hs]at this;exact this
      ·intro k;dsimp only;omega
    |int k n=>exact hok.elim
    |bool k=>exact hok.elim
    |str k=>exact hok.elim
    |mp k=>exact hok.elim
    |fn f k=>exact hok.elim
    |v k=>exact hok.elim
    |any=>exact hok.elim
theorem zU{n i j i' j':Nat}(hj:j<n)(hj':j'<n)(h:i*n+j=i'*n+j'):i=i'/\j=j':=by
 rcases Nat.lt_trichotomy i i' with hlt|heq|hgt
 ·have:(i+1)*n<=i'*n:=Xv _ hlt
  rw[XH]at this;omega
 ·subst heq;exact⟨rfl,by omega⟩
 ·have:(i'+1)*n<=i*n:=Xv _ hgt
  rw[XH]at this;omega
theorem jk{w:World}{H:FH}{m:Nat}{sub:List Sh}{l:List (List D)}{f:Fp}{y:Value}{p:List Step}
  (h:OD w H m (.ow sub) (.li l) f y) (hf:∀b,f b<=1) (hok:okO sub l p):∃b k,aO w y p=some ⟨b,k,none⟩/\f b≠0:=by
 obtain⟨b,k,_,_,_,_,_,_,fz,fr,c1,_,_,_,_,c6,c7,_⟩:=tg p m sub l f y h hf hok;exact⟨b,k,c1,by have:=c6 b;omega⟩
theorem Ej{w:World}{H:FH}:∀(p q:List Step)(m:Nat)(sub:List Sh)(l:List (List D))(f:Fp)(y:Value),
  OD w H m (.ow sub) (.li l) f y->(∀b,f b<=1)->okO sub l p->okO sub l q->p.map (fun s=>(s.idx,s.off))≠q.map (fun s=>(s.idx,s.off))->aO w y p≠aO w y q:=by
 intro p;induction p with
 |nil=>intro q m sub l f y _ _ h;exact h.elim
 |cons st r ih=>
  intro q m sub l f y h hf hp hq hne;cases q with
  |nil=>exact hq.elim
  |cons st' r'=>
  cases m with
  |zero=>simp[OD]at h
  |succ m=>
  rw[dA]at h;have hst:st.idx<l.length/\st.esz=sub.length/\st.off<sub.length:=by
   cases r with
   |nil=>exact hp
   |cons _ _=>exact hp.1
  have hst':st'.idx<l.length/\st'.esz=sub.length/\st'.off<sub.length:=by
   cases r' with
   |nil=>exact hq
   |cons _ _=>exact hq.1
  obtain⟨hi,he,ho⟩:=hst;obtain⟨hi',he',ho'⟩:=hst';rcases h with⟨hl,_,_⟩|⟨b,c,cs,ty,frz,g,h1,h2,h3,h4,h5,h6,h7,h8,h9⟩
  ·subst hl;simp at hi
  subst h1;have hLl:l.flatten.length=l.length*sub.length:=bT _ _ h7
  have hlt:∀i j,i<l.length->j<sub.length->i*sub.length+j<l.flatten.length:=by
   intro i j hi hj;rw[hLl];have:(i+1)*sub.length<=l.length*sub.length:=Xv _ hi
   rw[XH]at this;omega
  have hgb:g b=0:=by have:=hf b;rw[h9]at this;simp at this;omega
  have deep:∀(t:Step)(t':Step)(u:List Step),t.idx<l.length->t.esz=sub.length->t.off<sub.length->okO sub l (t::t'::u) ->
    ∃sub' l' fk v,∃fr:Fp,sub[t.off]? = some (.ow sub')/\(l.getD t.idx []).getD t.off default=.li l'/\OD w H m (.ow sub') (.li l') fk v/\(∀c,g c=fk c+fr c) /\
     okO sub' l' (t'::u)/\aO w (.slice (some ⟨b,0,none⟩) l.length c) (t::t'::u)=aO w v (t'::u) /\
     (cs.toList[t.idx*sub.length+t.off]? = some v) /\
     ∀k',k'≠t.idx*sub.length+t.off->k'<l.flatten.length->∃s' x' v',∃g':Fp,(List.replicate l.length sub).flatten[k']? = some s'/\l.flatten[k']? = some x'/\cs.toList[k']? = some v'/\OD w H m s' x' g' v'/\∀c,g' c<=fr c:=by
   intro t t' u ti te to hok;obtain⟨s,x,v,fk,fr,a1,a2,a3,a4,a5,_,a7⟩:=bW _ _ _ _ _ h8 (hlt t.idx t.off ti to);rw[mV sub l.length t.idx t.off ti to]at a1;rw[cX sub.length l t.idx t.off h7 ti to]at a2;have hx:(l.getD t.idx []).getD t.off default=x:=by rw[List.getD,a2];rfl
   obtain⟨_,hok⟩:=hok;rw[a1,hx]at hok;have hv:cs[t.idx*sub.length+t.off]? = some v:=by simpa using a3
   have hcell:w.cell? ⟨b,0+t.idx*sub.length+t.off,none⟩=some v:=by simp[World.cell?,h2,hv]
   cases s with
   |fr=>exact hok.elim
   |ow sub'=>
    cases x with
    |li l'=>exact⟨sub',l',fk,v,fr,a1,hx,a5,a4,hok,by simp only[aO,te,hcell],a3,a7⟩
    |int k n=>exact hok.elim
    |bool k=>exact hok.elim
    |str k=>exact hok.elim
    |mp k=>exact hok.elim
    |fn f k=>exact hok.elim
    |v k=>exact hok.elim
    |any=>exact hok.elim
  have le1:∀(fk fr:Fp),(∀c,g c=fk c+fr c)->∀c,fk c<=1:=fun fk fr hg c=>by have:=hf c;have:=h9 c;have:=hg c;omega
  cases r with
  |nil=>
   have e1:aO w (.slice (some ⟨b,0,none⟩) l.length c) [st]=some ⟨b,st.idx*sub.length+st.off,none⟩:=by simp[aO,he]
   rw[e1];cases r' with
   |nil=>
    have e2:aO w (.slice (some ⟨b,0,none⟩) l.length c) [st']=some ⟨b,st'.idx*sub.length+st'.off,none⟩:=by simp[aO,he']
    rw[e2];intro e;simp only[WG,Addr.mk.injEq,true_and,and_true]at e;exact hne (by simp[(zU ho ho' e).1,(zU ho ho' e).2])
   |cons t' u=>
    obtain⟨sub',l',fk,v,fr,_,_,b3,b4,b5,b6,_,_⟩:=deep st' t' u hi' he' ho' hq;rw[b6];obtain⟨b',k',d1,d2⟩:=jk b3 (le1 _ _ b4) b5;rw[d1];intro e;simp only[WG,Addr.mk.injEq]at e;obtain⟨e,_⟩:=e;subst e;have:=b4 b;omega
  |cons t u=>
   obtain⟨sub',l',fk,v,fr,q1,q2,b3,b4,b5,b6,b7,b8⟩:=deep st t u hi he ho hp;rw[b6];obtain⟨b',k',d1,d2⟩:=jk b3 (le1 _ _ b4) b5;cases r' with
   |nil=>
    have e2:aO w (.slice (some ⟨b,0,none⟩) l.length c) [st']=some ⟨b,st'.idx*sub.length+st'.off,none⟩:=by simp[aO,he']
    rw[e2,d1];intro e;simp only[WG,Addr.mk.injEq]at e;obtain⟨e,_⟩:=e;subst e;have:=b4 b';omega
   |cons t' u'=>
    obtain⟨sub'',l'',fk',v',fr',q1',q2',b3',b4',b5',b6',b7',b8'⟩:=deep st' t' u' hi' he' ho' hq;rw[b6'];by_cases hk:st'.idx*sub.length+st'.off=st.idx*sub.length+st.off
    ·obtain⟨ei,eo⟩:=zU ho' ho hk;rw[hk,b7]at b7';obtain rfl:v=v':=by simpa using b7'
     rw[eo,q1]at q1';rw[ei,eo,q2]at q2';simp only[WG,Sh.ow.injEq]at q1';simp only[D.li.injEq]at q2';subst q1';subst q2';refine ih (t'::u') m sub' l' fk v b3 (le1 _ _ b4) b5 b5' ?_;intro e;apply hne
     simp only[List.map_cons,eo,ei]at e⊢;rw[e]
    ·obtain⟨s',x',v2,g',c1,c2,c3,c4,c5⟩:=b8 _ hk (hlt _ _ hi' ho');rw[mV sub l.length st'.idx st'.off hi' ho',q1']at c1;rw[cX sub.length l st'.idx st'.off h7 hi' ho']at c2;have hx:(l.getD st'.idx []).getD st'.off default=x':=by rw[List.getD,c2];rfl
     rw[q2']at hx;rw[b7']at c3;simp only[WG]at c1 c3;subst c1;subst hx;subst c3;obtain⟨b'',k'',d1',d2'⟩:=jk c4 (fun c=>by have:=c5 c;have:=b4 c;have:=hf c;have:=h9 c;omega) b5';rw[d1,d1'];intro e;simp only[WG,Addr.mk.injEq]at e;obtain⟨e,_⟩:=e;subst e;have t1:=b4 b';have t2:=c5 b';have t3:=hf b';have t4:=h9 b'
     omega
end Go.Am
end
