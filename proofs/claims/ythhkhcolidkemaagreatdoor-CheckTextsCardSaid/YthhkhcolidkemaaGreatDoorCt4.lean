/-
  Part 4: AmBin · AmVal.
-/
import Derived.Test.YthhkhcolidkemaaGreatDoorCt3
import Derived.OpenShut
import Derived.Laws.StructEq
set_option linter.unusedSimpArgs false
set_option linter.unusedVariables false
set_option linter.unusedSectionVars false
set_option linter.unnecessarySimpa false
section
namespace Go.Am
variable{H:FH}{k:IntKind}
theorem mkI{n:Int}(h:(Lit.int k n).wf=true):FDx H (.int k n) (.int k n):=⟨0,rfl,h⟩
theorem mkB{b:Bool}:FDx H (.bool b) (.bool b):=⟨0,rfl⟩
theorem mkS{l:List UInt8}(h:l.length<=BIG):FDx H (.str l) (.string ⟨l.toArray⟩):=⟨0,rfl,h⟩
theorem uA{α:Type}[BEq α][LawfulBEq α][DecidableEq α](a b:α):(a==b)=decide (a=b):=by grind
variable{P:Program}{t:TypeId}
theorem aa4{op:BinOp}{x y:D}{K:D->Prop}{u v:Value}(hx:FDx H x u)(hy:FDx H y v)(h:wi op x y K) :
  ∃z d,(∀w:World,(binOp op t u v).run P w=.ok z w)/\FDx H d z/\K d:=by
 cases x with
 |int k a=>
  obtain⟨rfl,c⟩:=fX hx;cases y with
  |int k' b=>
   obtain⟨rfl,hb⟩:=fX hy;cases op<;>simp only[wi]at h
   case add=>obtain⟨rfl,h⟩:=h;exact⟨_,_,λw=>by simp_all[binOp,Op.intArith],mkI (wf_wrap _ _),h⟩
   case sub=>obtain⟨rfl,h⟩:=h;exact⟨_,_,λw=>by simp_all[binOp,Op.intArith],mkI (wf_wrap _ _),h⟩
   case mul=>obtain⟨rfl,h⟩:=h;exact⟨_,_,λw=>by simp_all[binOp,Op.intArith],mkI (wf_wrap _ _),h⟩
   case quo=>obtain⟨rfl,h0,h⟩:=h;exact⟨_,_,λw=>by simp_all[binOp,Op.intDiv],mkI (wf_wrap _ _),h⟩
   case rem=>obtain⟨rfl,h0,h⟩:=h;exact⟨_,_,λw=>by simp_all[binOp,Op.intDiv],mkI (aeN c),h⟩
   case and=>obtain⟨rfl,h⟩:=h;exact⟨_,_,λw=>by simp_all[binOp,Op.intBits],mkI (wf_wrap _ _),h⟩
   case or=>obtain⟨rfl,h⟩:=h;exact⟨_,_,λw=>by simp_all[binOp,Op.intBits],mkI (wf_wrap _ _),h⟩
   case xor=>obtain⟨rfl,h⟩:=h;exact⟨_,_,λw=>by simp_all[binOp,Op.intBits],mkI (wf_wrap _ _),h⟩
   case andNot=>obtain⟨rfl,h⟩:=h;exact⟨_,_,λw=>by simp_all[binOp,Op.intBits],mkI (wf_wrap _ _),h⟩
   case shl=>obtain⟨h0,h⟩:=h;exact⟨_,_,λw=>by simp_all[binOp,Op.shift,if_neg],mkI (wf_wrap _ _),h⟩
   case shr=>obtain⟨h0,h⟩:=h;exact⟨_,_,λw=>by simp_all[binOp,Op.shift,if_neg],mkI (aeM c),h⟩
   case eql=>obtain⟨rfl,h⟩:=h;exact⟨_,_,λw=>by simp only[binOp,ne_eq];rfl,mkB,by omega⟩
   case neq=>obtain⟨rfl,h⟩:=h;exact⟨_,_,λw=>by simp only[binOp,ne_eq];rfl,mkB,by grind⟩
   case lss=>obtain⟨rfl,h⟩:=h;exact⟨_,_,λw=>by simp_all[binOp,Op.intCmp],mkB,h⟩
   case leq=>obtain⟨rfl,h⟩:=h;exact⟨_,_,λw=>by simp_all[binOp,Op.intCmp],mkB,h⟩
   case gtr=>obtain⟨rfl,h⟩:=h;exact⟨_,_,λw=>by simp_all[binOp,Op.intCmp],mkB,h⟩
   case geq=>obtain⟨rfl,h⟩:=h;exact⟨_,_,λw=>by simp_all[binOp,Op.intCmp],mkB,h⟩
  |_=>exact h.elim
 |str a=>
  obtain⟨rfl,c⟩:=iH hx;cases y with
  |str b=>
   obtain⟨rfl,hb⟩:=iH hy;cases op<;>simp only[wi]at h
   case add=>
    obtain⟨h0,h⟩:=h;refine⟨_,_,?_,mkS (l:=a++b) (by rw[ak6];exact h0),h⟩;intro w;simp only[binOp,Op.stringOp];rw[if_neg (by
     have e:IntKind.i64.max=9223372036854775807:=by decide
     grind [ByteArray.size])]
    rfl
   case eql=>exact⟨_,_,λw=>by rfl,mkB,by simp_all[uA]⟩
   case neq=>exact⟨_,_,λw=>by rfl,mkB,by simp_all[uA]⟩
   case lss=>exact⟨_,_,λw=>by rfl,mkB,by simp_all⟩
   case leq=>exact⟨_,_,λw=>by rfl,mkB,by simp_all[uA]⟩
   case gtr=>exact⟨_,_,λw=>by rfl,mkB,by simp_all[uA]⟩
   case geq=>exact⟨_,_,λw=>by rfl,mkB,by simp_all⟩
  |_=>exact h.elim
 |_=>cases y<;>exact h.elim
inductive CK where
 |i|s|b
 deriving DecidableEq
def eqL(P:Program):Nat->TypeId->Option (List (Nat×CK))
 |0,_=>none
 |d+1,t=>match P.underlying t with
  |some (.int _)=>some [(0,.i)]
  |some .string=>some [(0,.s)]
  |some .bool=>some [(0,.b)]
  |some (.struct fs)=>if P.stoodInHeld t then none else fs.toList.foldr (λf a=>match eqL P d f.type,a with
    |some l,some r=>if f.name = "_" \/ l.all (λx=>decide (x.1<P.cellsOf f.type))=false then none else some (l.map (λx=>(x.1+f.offset,x.2))++r)
    |_,_=>none) (some [])
  |_=>none
def eqD(ck:CK)(x y:D):Option Bool:=
 match ck,x,y with
 |.i,.int k a,.int k' b=>if k=k' then some (decide (a=b))else none
 |.s,.str a,.str b=>some (decide (a=b))
 |.b,.bool a,.bool b=>some (a==b)
 |_,_,_=>none
def kp:List (Nat×CK)->List D->List D->Option Bool
 |[],_,_=>some true
 |(o,ck)::l,xs,ys=>match xs[o]?,ys[o]? with
  |some x,some y=>match eqD ck x y,l with
   |some b,[]=>some b
   |some b,l=>(kp l xs ys).map (b&&·)
   |none,_=>none
  |_,_=>none
variable{xs:List D}
theorem nj{o:Nat}{ck:CK}{l:List (Nat×CK)}{ys:List D}{r:Bool}(h:kp ((o,ck)::l) xs ys=some r) :
  ∃x y b c,xs[o]? = some x/\ys[o]? = some y/\eqD ck x y=some b/\kp l xs ys=some c/\r=(b&&c):=by
 simp only[kp]at h;cases hx:xs[o]? with
 |none=>grind
 |some x=>
  cases hy:ys[o]? with
  |none=>grind
  |some y=>
   simp only[hx,hy]at h;cases hb:eqD ck x y with
   |none=>grind
   |some b=>
    simp only[hb]at h;cases l with
    |nil=>simp only[akJ]at h;exact⟨x,y,b,true,rfl,rfl,hb,rfl,by simp[h]⟩
    |cons z l=>cases hc:kp (z::l) xs ys<;>grind
theorem I0:∀{l r:List (Nat×CK)}{xs ys:List D}{b:Bool},kp (l++r) xs ys=some b->∃c d,kp l xs ys=some c/\kp r xs ys=some d/\b=(c&&d)
 |[],r,xs,ys,b,h=>⟨true,b,rfl,h,by simp⟩
 |(o,ck)::l,r,xs,ys,b,h=>by
  obtain⟨x,y,b1,a,h1,h2,h3,h4,rfl⟩:=nj (l:=l++r) h;obtain⟨c,d,h5,h6,rfl⟩:=I0 h4
  grind [kp]
theorem I1:∀{l:List (Nat×CK)}{xs ys:List D}{n k:Nat}{b:Bool},kp (l.map (λx=>(x.1+n,x.2))) xs ys=some b->(∀x∈l,x.1<k) ->
  kp l ((xs.drop n).take k) ((ys.drop n).take k)=some b
 |[],_,_,_,_,_,h,_=>h
 |(o,ck)::l,xs,ys,n,k,b,h,hk=>by
  obtain⟨x,y,b1,a,h1,h2,h3,h4,rfl⟩:=nj h;have h5:=I1 h4 (λx hx=>hk x (alF _ hx))
  have ho:=hk (o,ck) (by simp)
  grind [kp]
def Cells(H:FH)(xs:List D)(us:List Value):Prop:=∀(i:Nat)(x:D),xs[i]? = some x->∃u,us[i]? = some u/\FDx H x u
theorem qQ{us:List Value}(h:Cells H xs us)(n k:Nat):Cells H ((xs.drop n).take k) ((us.drop n).take k):=by
 intro i x hx;have hi:i<k:=by grind
 rw[List.getElem?_take_of_lt hi,amH]at hx;obtain⟨u,a,hf⟩:=h _ _ hx
 grind
def packed(P:Program)(t:TypeId)(us:List Value)(u:Value):Prop:=
 match P.underlying t with
 |some (.struct _)=>u=.agg us.toArray
 |_=>us[0]? = some u
variable{d:TypeDesc}
theorem E3(h:P.underlying t=some d):∃i,P.info? t=some i:=by grind [Program.underlying]
theorem XK{w:World}:∀(d n:Nat)(t:TypeId)(offs:List (Nat×CK))(xs ys:List D)(us vs:List Value)(u v:Value)(b:Bool),d<=n ->
  eqL P d t=some offs->kp offs xs ys=some b->Cells H xs us->Cells H ys vs->packed P t us u->packed P t vs v ->
  (Op.equalIn n t u v).run P w=.ok b w:=by
 intro d;induction d with
 |zero=>grind [eqL]
 |succ d ih=>
  intro n t offs xs ys us vs u v b hn h hb hx hy q hv;cases n with
  |zero=>omega
  |succ n=>
  simp only[eqL]at h;cases I:P.underlying t with
  |none=>grind
  |some td=>
   rw[I]at h;have one:∀ck,offs=[(0,ck)]->∃x y,eqD ck x y=some b/\(∃u',us[0]? = some u'/\FDx H x u')/\(∃G,vs[0]? = some G/\FDx H y G):=by intro ck e;subst e;obtain⟨x,y,b1,T,h1,h2,h3,h4,rfl⟩:=nj hb;simp only[kp]at h4;exact⟨x,y,by grind,hx _ _ h1,hy _ _ h2⟩
   cases td with
   |int k0=>
    simp only[akJ]at h;obtain⟨x,y,h1,⟨u',h2,h3⟩,⟨G,h4,h5⟩⟩:=one .i h.symm;simp only[packed]at q hv;cases x<;>cases y<;>simp only[eqD,reduceCtorEq]at h1
    obtain⟨rfl,_⟩:=fX h3;obtain⟨rfl,_⟩:=fX h5
    grind [run_equalIn_int]
   |string=>
    simp only[akJ]at h;obtain⟨x,y,h1,⟨u',h2,h3⟩,⟨G,h4,h5⟩⟩:=one .s h.symm;simp only[packed,I]at q hv;rw[q]at h2;rw[hv]at h4;cases x<;>cases y<;>simp only[eqD,reduceCtorEq]at h1
    obtain⟨rfl,_⟩:=iH h3;obtain⟨rfl,_⟩:=iH h5
    simp_all[run_equalIn_string,uA]
   |bool=>
    simp only[akJ]at h;obtain⟨x,y,h1,⟨u',h2,h3⟩,⟨G,h4,h5⟩⟩:=one .b h.symm;simp only[packed]at q hv;cases x<;>cases y<;>simp only[eqD,reduceCtorEq]at h1
    obtain rfl:=jH h3;obtain rfl:=jH h5
    grind [run_equalIn_bool']
   |struct fs=>
    dsimp only at h;split at h
    .simp at h
    rename_i N;simp only[packed,I]at q hv;subst q;subst hv;have hf:P.fieldsOf t=fs:=by grind [Program.fieldsOf]
    rw[run_equalIn_struct w n t _ _ (by grind) (by grind),hf];generalize fs.toList=l at h;clear I hf one fs;induction l generalizing offs b with
    |nil=>simp_all[kp,Op.eqFields]
    |cons f l B=>
     simp only[List.foldr_cons]at h;cases hf:eqL P d f.type with
     |none=>grind
     |some l1=>
      generalize hr:List.foldr (λf m=>match eqL P d f.type,m with
       |some l,some r=>if f.name = "_" \/ l.all (λx=>decide (x.1<P.cellsOf f.type))=false then none else some (l.map (λx=>(x.1+f.offset,x.2))++r)
       |_,_=>none) (some []) l=m at h B
      cases m with
      |none=>grind
      |some r=>
       rw[hf]at h;dsimp only at h;split at h
       .simp at h
       rename_i j;simp only[not_or,akV]at j;obtain⟨p,L⟩:=j;simp only[akJ]at h;subst h;obtain⟨b1,b2,h1,h2,rfl⟩:=I0 hb;have o:∀x∈l1,x.1<P.cellsOf f.type:=by grind
       have h1':=I1 h1 o
       have rest:=B r b2 h2 rfl
       have k:∃a c,(part f.type us.toArray f.offset).run P w=.ok a w/\(part f.type vs.toArray f.offset).run P w=.ok c w/\(Op.equalIn n f.type a c).run P w=.ok b1 w:=by
        cases d with
        |zero=>grind [eqL]
        |succ U=>
        have g:∃td,P.underlying f.type=some td:=by grind [eqL]
        obtain⟨td,g⟩:=g;obtain⟨i,hi⟩:=E3 g;have M:P.cellsOf f.type=i.size:=by simp[Program.cellsOf,hi]
        by_cases hs:∃F,td=.struct F
        .obtain⟨F,rfl⟩:=hs;refine⟨.agg ((us.drop f.offset).take (P.cellsOf f.type)).toArray,.agg ((vs.drop f.offset).take (P.cellsOf f.type)).toArray,?_,?_,?_⟩
         .exact mN g rfl hi us f.offset
         .exact mN g rfl hi vs f.offset
         exact ih n f.type l1 _ _ _ _ _ _ b1 kQ1 hf h1' (qQ hx _ _) (qQ hy _ _) (by grind [packed]) (by grind [packed])
        have J:∃ck,l1=[(0,ck)]:=by
         simp only[eqL]at hf
         grind
        obtain⟨ck,rfl⟩:=J;obtain⟨x,y,b3,c3,g1,g2,g3,g4,g5⟩:=nj h1';have K:uy td=false:=by cases td<;>first|rfl|(exact absurd ⟨_,rfl⟩ hs)|grind [eqL]
        have C:∀(zs:List Value)(z:Value),packed P f.type zs z ↔ zs[0]? = some z:=by
         simp only[packed]
         grind
        have A:=qQ hx f.offset (P.cellsOf f.type)
        have E:=qQ hy f.offset (P.cellsOf f.type)
        obtain⟨a,S,_⟩:=A _ _ g1;obtain⟨c,hc,_⟩:=E _ _ g2;refine⟨a,c,?_,?_,ih n f.type [(0,ck)] _ _ _ _ _ _ b1 kQ1 hf h1' A E ((C _ _).2 S) ((C _ _).2 hc)⟩
        all_goals grind [jG]
       obtain⟨a,c,R,Q,O⟩:=k;simp only[Op.eqFields,ne_eq,p,not_false_eq_true,if_true,Sem.run_bind,R,Q,O,Result.andThen_ok];cases b1<;>simp_all
   |_=>simp at h
inductive TK where
 |int (k:IntKind)
 |bool
 |str
 |sl (e:TypeId)
 |st (fs:List (Nat×Nat×Option Bool))
 |ar (n:Nat) (e:TypeId)
 |pt (e:TypeId)
 |mp (k e:TypeId)
 |fn
 |ot
 deriving DecidableEq
structure TyI where
 ok:Bool
 agg:Bool
 size:Nat
 bytes:Nat
 k:TK
 deriving DecidableEq
def WC(P:Program)(t:TypeId):Option Bool:=(P.underlying t).map uy
def gJ(P:Program):TypeDesc->TK
 |.int k=>.int k
 |.bool=>.bool
 |.string=>.str
 |.slice e=>.sl e
 |.struct fs=>.st (fs.toList.map λf=>(f.offset,P.cellsOf f.type,WC P f.type))
 |.array n e=>.ar n e
 |.pointer e=>.pt e
 |.map k e=>.mp k e
 |.func _ _ _=>.fn
 |_=>.ot
def ty(P:Program)(t:TypeId):TyI:=
 match P.info? t,P.underlying t with
 |some i,some d=>⟨true,uy d,i.size,i.bytes,gJ P d⟩
 |_,_=>⟨false,false,0,0,.ot⟩
theorem jY(h:(ty P t).ok=true):∃i d,P.info? t=some i/\P.underlying t=some d/\(ty P t).agg=uy d/\(ty P t).size=i.size/\(ty P t).bytes=i.bytes/\(ty P t).k=gJ P d:=by grind [ty]
theorem mA(h:(ty P t).ok=true):(ty P t).size=P.cellsOf t:=by grind [jY,Program.cellsOf]
theorem bh{κ:TK}(h:(ty P t).k=κ)(h0:κ≠.ot):∃i d,P.info? t=some i/\P.underlying t=some d/\gJ P d=κ/\(ty P t).ok=true:=by grind [ty]
theorem O2(h:gJ P d=.int k):d=.int k:=by cases d<;>simp[gJ]at h;grind
theorem aeJ(h:gJ P d=.bool):d=.bool:=by cases d<;>simp[gJ]at h;rfl
theorem F9(h:gJ P d=.str):d=.string:=by cases d<;>simp[gJ]at h;rfl
variable{e:TypeId}
theorem pJ(h:gJ P d=.sl e):d=.slice e:=by cases d<;>simp[gJ]at h;grind
theorem afN{n:Nat}(h:gJ P d=.ar n e):d=.array n e:=by cases d<;>simp[gJ]at h;grind
theorem afO{l:List (Nat×Nat×Option Bool)}(h:gJ P d=.st l):∃fs,d=.struct fs/\l=fs.toList.map λf=>(f.offset,P.cellsOf f.type,WC P f.type):=by cases d<;>simp[gJ]at h;grind
def okv:D->Prop
 |.int .i64 n=>-9223372036854775808<=n/\n<=9223372036854775807
 |.int .i32 n=>-2147483648<=n/\n<=2147483647
 |.int .i16 n=>-32768<=n/\n<=32767
 |.int .i8 n=>-128<=n/\n<=127
 |.int .u64 n=>0<=n/\n<=18446744073709551615
 |.int .u32 n=>0<=n/\n<=4294967295
 |.int .u16 n=>0<=n/\n<=65535
 |.int .u8 n=>0<=n/\n<=255
 |.str l=>l.length<=4611686018427387904
 |.li l=>l.length<=4611686018427387904
 |_=>True
theorem Og{x:D}{y:Value}(h:FDx H x y):okv x:=by
 cases x with
 |int k n=>
  obtain⟨_,hw⟩:=fX h;simp only[Lit.wf,akI,decide_eq_true_eq]at hw;obtain⟨h1,h2⟩:=hw;cases k<;>simp only[okv]
  .exact⟨alT (by decide) h1,alT h2 (by decide)⟩
  .exact⟨alT (by decide) h1,alT h2 (by decide)⟩
  .exact⟨alT (by decide) h1,alT h2 (by decide)⟩
  .exact⟨alT (by decide) h1,alT h2 (by decide)⟩
  .exact⟨alT (by decide) h1,alT h2 (by decide)⟩
  .exact⟨alT (by decide) h1,alT h2 (by decide)⟩
  .exact⟨alT (by decide) h1,alT h2 (by decide)⟩
  exact⟨alT (by decide) h1,alT h2 (by decide)⟩
 |str l=>exact(iH h).2
 |li l=>
  obtain⟨m,h⟩:=h;cases m with
  |zero=>exact h.elim
  |succ m=>obtain⟨a,c,_,_,hb,_⟩:=pC.1 h;exact hb
 |_=>trivial
def okvs:List D->Prop
 |[]=>True
 |x::xs=>okv x/\okvs xs
def gsel(c want:Bool)(A B:Prop):Prop:=
 match c,want with
 |true,true=>A
 |false,false=>A
 |true,false=>B
 |false,true=>B
theorem Tj{c want:Bool}{A B:Prop}(h:gsel c want A B):(c=want->A)/\(c=(!want)->B):=by cases c<;>cases want<;>(constructor<;>intro e<;>first|exact h|grind)
def KO(c x y:AV)(k:AV->Prop):Prop:=
 match c with
 |.one (.c (.d (.bool b)))=>gsel b true (k x) (k y)
 |_=>False
def TD:T->D
 |.d x=>x
 |_=>.any
def XI(P:Program)(t:TypeId):Option (List (Nat×CK)):=match P.underlying t with
 |some (.array n e)=>match eqL P 1 e with
  |some [(0,ck)]=>if P.cellsOf e=1 then some ((List.range n).map λi=>(i,ck))else none
  |_=>none
 |_=>none
def Qs(P:Program)(t:TypeId):Option (List (Nat×CK)):=if P.eqGuardType P.depth t=false/\(ty P t).agg=true then(match eqL P 20 t with
 |some l=>some l
 |none=>XI P t)else none
def ahO:D->Option Bool
 |.mp z=>some z.isNone
 |_=>none
def ahP(P:Program)(op:BinOp)(t:TypeId)(a:D)(k:AV->Prop):Prop:=(∃kt et,(ty P t).k=.mp kt et)/\match ahO a with
 |some z=>match op with
  |.eql=>k (sc (.bool z))
  |.neq=>k (sc (.bool (!z)))
  |_=>False
 |none=>False
def Ms(P:Program)(op:BinOp)(t:TypeId)(x y:AV)(k:AV->Prop):Prop:=
 match x,y with
 |.one (.c (.d (.bool a))),.one (.c (.d (.bool b)))=>(ty P t).k=.bool/\match op with
  |.eql=>k (sc (.bool (a==b)))
  |.neq=>k (sc (.bool (!(a==b))))
  |_=>False
 |.one (.c (.d a)),.one (.c (.d (.mp none)))=>ahP P op t a k
 |.one (.c (.d a)),.one (.c (.d b))=>wi op a b λd=>k (sc d)
 |.one (.agg xs),.one (.agg ys)=>match Qs P t with
  |some l=>match kp l (xs.map TD) (ys.map TD),op with
   |some b,.eql=>k (sc (.bool b))
   |some b,.neq=>k (sc (.bool (!b)))
   |_,_=>False
  |none=>False
 |_,_=>False
def unK(op:UnOp)(x:AV)(k:AV->Prop):Prop:=
 match op,x with
 |.not,.one (.c (.d (.bool b)))=>k (sc (.bool (!b)))
 |.neg,.one (.c (.d (.int κ n)))=>k (sc (.int κ (κ.wrap (0-n))))
 |.xor,.one (.c (.d (.int κ n)))=>k (sc (.int κ (κ.wrap (BitVec.ofInt κ.bits (if κ.signed then -1 else κ.max) ^^^ BitVec.ofInt κ.bits n).toNat)))
 |_,_=>False
def lq(x:AV)(i:Nat)(k:AV->Prop):Prop:=
 match x with
 |.tup vs=>match vs[i]? with
  |some v=>k (.one v)
  |none=>False
 |_=>False
def mkT:Sh->D->T
 |.fr,x=>.d x
 |.ow s,.li l=>.ow s l
 |.ow _,_=>.any
def inK(sub:List Sh)(l:List (List D))(n:Nat):List Step->(List T->Prop)->Prop
 |[],_=>False
 |[st],k=>st.off+n<=sub.length/\match l[st.idx]? with
  |some x=>k (List.zipWith mkT ((sub.drop st.off).take n) ((x.drop st.off).take n))
  |none=>False
 |st::a::r,k=>match l[st.idx]? with
  |some x=>match sub[st.off]?,x[st.off]? with
   |some (.ow s),some (.li l')=>inK s l' n (a::r) k
   |_,_=>False
  |none=>False
def atK(m:Mm)(p:Pl)(n:Nat)(k:List T->Prop):Prop:=
 match ah m p.root with
 |none=>False
 |some r=>match p.path,r.cells[p.off]? with
  |[],_=>p.off+n<=r.cells.length/\k ((r.cells.drop p.off).take n)
  |st::q,some (.ow sub l)=>inK sub l n (st::q) k
  |_,_=>False
def Km(m:Mm)(x:AV)(k:Nat->Prop):Prop:=
 match x with
 |.one (.c (.d (.str l)))=>l.length<=4611686018427387904->k l.length
 |.one (.c (.d (.li l)))=>l.length<=4611686018427387904->k l.length
 |.one (.c .nil)=>k 0
 |.one (.c (.rf p))=>atK m p 1 λ
  |[.ow _ l]=>l.length<=4611686018427387904->k l.length
  |_=>False
 |_=>False
def xh(x i:AV)(k:AV->Prop):Prop:=
 match x,i with
 |.one (.c (.d (.str l))),.one (.c (.d (.int _ n)))=>0<=n/\match l[n.toNat]? with
  |some b=>k (sc (.int .u8 b.toNat))
  |none=>False
 |_,_=>False
def iI(x:Option AV)(d:Nat)(k:Nat->Prop):Prop:=
 match x with
 |none=>k d
 |some (.one (.c (.d (.int _ n))))=>0<=n/\k n.toNat
 |_=>False
def mQ(P:Program)(t:TypeId)(x:AV)(lo hi:Option AV)(k:AV->Prop):Prop:=
 match x with
 |.one (.c (.d (.str l)))=>(ty P t).k=.str/\iI lo 0 λa=>iI hi l.length λb=>(a<=b/\b<=l.length)/\k (sc (.str ((l.drop a).take (b-a))))
 |.one (.c (.d (.li l)))=>match(ty P t).k with
  |.sl e=>(ty P e).ok=true/\(∀x∈l,x.length=(ty P e).size)/\iI lo 0 λa=>iI hi l.length λb=>(a<=b/\b<=l.length)/\k (sc (.li ((l.drop a).take (b-a))))
  |_=>False
 |.one (.c .nil)=>match(ty P t).k with
  |.sl e=>(ty P e).ok=true/\iI lo 0 λa=>iI hi 0 λb=>a<=b/\b<=0/\k (.one (.c .nil))
  |_=>False
 |.one (.c (.el row o))=>match(ty P t).k with
  |.ar N e=>(ty P e).ok=true/\(ty P e).size=1/\o+N<=row.length/\N<=4611686018427387904/\iI lo 0 λa=>iI hi N λb=>(a<=b/\b<=N)/\k (sc (.li (((((row.drop o).take N).drop a).take (b-a)).map λx=>[x])))
  |_=>False
 |_=>False
def bj:List Step->Nat->List Step
 |[],_=>[]
 |[st],n=>[{ st with off:=st.off+n }]
 |st::a::r,n=>st::bj (a::r) n
def Pl.add(p:Pl)(n:Nat):Pl:=
 match p.path with
 |[]=>{ p with off:=p.off+n }
 |st::r=>{ p with path:=bj (st::r) n }
def xL(sub:List Sh):List Step->Option Nat
 |[]=>none
 |[st]=>some (sub.length-st.off)
 |st::a::r=>match sub[st.off]? with
  |some (.ow s)=>xL s (a::r)
  |_=>none
def room(m:Mm)(p:Pl):Option Nat:=
 match ah m p.root with
 |none=>none
 |some r=>match p.path,r.cells[p.off]? with
  |[],_=>some (r.cells.length-p.off)
  |st::q,some (.ow sub _)=>xL sub (st::q)
  |_,_=>none
def jD(m:Mm)(p:Pl)(n:Nat):Prop:=
 match room m p with
 |some k=>n<k
 |none=>False
end Go.Am
end
