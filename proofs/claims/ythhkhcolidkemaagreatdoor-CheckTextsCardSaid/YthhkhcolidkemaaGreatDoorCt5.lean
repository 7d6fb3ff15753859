/-
  Part 5: AmValOk · AmPtr · AmPlace · AmLoad.
-/
import Derived.Test.YthhkhcolidkemaaGreatDoorCt4
import Derived.ChangeKeysEq
set_option linter.unusedSimpArgs false
set_option linter.unusedVariables false
set_option linter.unusedSectionVars false
set_option linter.unnecessarySimpa false
section
namespace Go.Am
theorem sK{P:Program}{d:TypeDesc}{k e:TypeId}(h:gJ P d=.mp k e):d=.map k e:=by cases d<;>simp[gJ]at h;grind
theorem nS{P:Program}(w:World)(d:Nat)(t k e:TypeId)(p:Option Nat)(h:P.underlying t=some (.map k e)):(Op.equalIn (d+1) t (.map p) (.map none)).run P w=.ok p.isNone w:=by cases p<;>simp[Op.equalIn,run_underlying h]
variable{t:TypeId}
theorem S9{P:Program}{w:World}{H:FH}{l:List (Nat×CK)}{xs ys:List D}{us vs:Array Value}{b:Bool}(h:XI P t=some l)(hb:kp l xs ys=some b)(hx:Cells H xs us.toList)(hy:Cells H ys vs.toList):(Op.equalIn 10000 t (.agg us) (.agg vs)).run P w=.ok b w:=by
 unfold XI at h;split at h
 .rename_i n e A;split at h
  .rename_i ck c;split at h
   .rename_i hc;have a:∃td,P.underlying e=some td/\uy td=false:=by
     simp only[eqL]at c;cases f:P.underlying e with
     |none=>grind
     |some td=>
      rw[f]at c;cases td with
      |struct fs=>
       dsimp only at c;split at c
       .grind
       cases r:fs.toList<;>grind
      |int k=>exact⟨_,rfl,rfl⟩
      |string=>exact⟨_,rfl,rfl⟩
      |bool=>exact⟨_,rfl,rfl⟩
      |_=>grind
    obtain⟨td,a,d⟩:=a;obtain⟨i,hi⟩:=E3 a;rw[run_equalIn_array (P:=P) (w:=w) 9999 us vs A hi,hc];have key:∀(g:List Nat)(b:Bool),kp (g.map λi=>(i,ck)) xs ys=some b->(Op.eqItems 9999 e 1 us vs g).run P w=.ok b w:=by
     intro g;induction g with
     |nil=>simp_all[kp,Op.eqItems]
     |cons j g ih=>
      intro b hb;obtain⟨x,y,b1,F,h1,h2,h3,h4,rfl⟩:=nj hb;obtain⟨u,q,f⟩:=hx _ _ h1;obtain⟨v,p,o⟩:=hy _ _ h2;have E:=jG (P:=P) (w:=w) a d (us:=us.toList) (off:=j*1) (by rw[Nat.mul_one];exact q)
      have B:=jG (P:=P) (w:=w) a d (us:=vs.toList) (off:=j*1) (by rw[Nat.mul_one];exact p)
      have m:∀z:Value,packed P e [z] z:=by grind [packed,uy]
      have one:∀{zs:D}{z:Value},FDx H zs z->Cells H [zs] [z]:=by
       intro zs z hz i x s
       grind
      have C:=XK (P:=P) (w:=w) (H:=H) 1 9999 e [(0,ck)] [x] [y] [u] [v] u v b1 kQ1 c (by simp[kp,h3]) (one f) (one o) (m u) (m v)
      simp only[Op.eqItems];cases b1<;>simp_all
    grind
   grind
  grind
 grind
variable{i:Nat}{k:AV->Prop}{l:List (List D)}{u:Value}{x:AV}
section
variable {P:Program} {w:World} {H:FH} {γ:Gam} {m:Mm}
theorem Zf{c y:AV}{e f a:Value}(h:KO c x y k)(hc:AR w H γ m c e)(hx:AR w H γ m x f)(hy:AR w H γ m y a) :
  ∃b v,e=.bool b/\AR w H γ m v (if b then f else a)/\k v:=by
 match c,h with
 |.one (.c (.d (.bool b))),h=>
  obtain rfl:=yk hc;cases b with
  |true=>exact⟨true,x,rfl,hx,h⟩
  |false=>exact⟨false,y,rfl,hy,h⟩
theorem uc:∀{ts:List T}{f:Fp}{us:List Value},Ts (TR w H γ m) ts f us->Cells H (ts.map TD) us:=by
 intro ts f us h i x hx;simp only[akN,ak0]at hx;obtain⟨t,a,rfl⟩:=hx;obtain⟨_,v,g,_,h2,h3,_⟩:=sP h a;refine⟨v,h2,?_⟩;cases t with
 |d x=>exact h3.2
 |_=>exact⟨0,trivial⟩
theorem aa5{op:BinOp}{t:TypeId}{xo yo:Operand}{y:AV}{v:Value}(h:Ms P op t x y k)(hx:AR w H γ m x u)(hy:AR w H γ m y v) :
  ∃z d,(∀w:World,(do eqGuard op t xo yo u v;binOp op t u v:Sem Value).run P w=.ok z w)/\AR w H γ m d z/\k d:=by
 have two:(a b:D)->x=sc a->y=sc b->wi op a b (λd=>k (sc d))->∃z d,(∀w:World,(do eqGuard op t xo yo u v;binOp op t u v:Sem Value).run P w=.ok z w)/\AR w H γ m d z/\k d:=by
  intro a b I hb C;subst I;subst hb;obtain⟨z,d,h1,h2,h3⟩:=aa4 (P:=P) (t:=t) hx.2 hy.2 C;refine⟨z,sc d,?_,⟨λ_=>rfl,h2⟩,h3⟩;intro w;have o:(eqGuard op t xo yo u v).run P w=.ok () w:=by
   cases a with
   |int κ n=>
    obtain⟨rfl,_⟩:=fX hx.2
    simp_all[eqGuard]
   |str l=>
    obtain⟨rfl,_⟩:=iH hx.2
    simp_all[eqGuard]
   |_=>exact C.elim
  grind [Sem.run_bind,Result.andThen_ok]
 match x,y,h with
 |.one (.c (.d (.bool a))),.one (.c (.d (.bool b))),h=>
  obtain⟨hk,h⟩:=h;obtain rfl:=yk hx;obtain rfl:=yk hy;obtain⟨i,d,hi,hd,B,_⟩:=bh hk (by simp);obtain rfl:=aeJ B;cases op<;>first|exact h.elim|skip
  .refine⟨.bool (a==b),_,?_,gR,h⟩
   simp_all[eqGuard,binOp,Op.equal,Op.maxDepth,run_equalIn_bool']
  refine⟨.bool (!(a==b)),_,?_,gR,h⟩
  simp_all[eqGuard,binOp,Op.equal,Op.maxDepth,run_equalIn_bool']
 |.one (.c (.d q)),.one (.c (.d (.mp none))),h=>
  have h:ahP P op t q k:=by cases q<;>exact h
  obtain⟨⟨kt,et,hk⟩,h⟩:=h;obtain⟨i,d,hi,hd,B,_⟩:=bh hk (by simp);obtain rfl:=sK B;obtain rfl:v=.map none:=by obtain⟨_,m,hv⟩:=hy;cases m<;>exact hv
  cases hq:ahO q with
  |none=>grind
  |some z=>
  rw[hq]at h;obtain⟨p,rfl,hp⟩:∃p:Option Nat,u=.map p/\p.isNone=z:=by
   obtain⟨_,m,j⟩:=hx;cases q with
   |mp F=>
    obtain rfl:=Option.some.inj hq;cases F with
    |none=>exact⟨none,by cases m<;>exact j,rfl⟩
    |some l=>cases m with
     |zero=>exact j.elim
     |succ m=>obtain⟨b,_,_,j,_⟩:=j;grind
   |_=>cases hq
  cases op<;>first|exact h.elim|skip
  .refine⟨.bool p.isNone,_,λw=>?_,gR,by grind⟩;have o:(eqGuard .eql t xo yo (.map p) (.map none)).run P w=.ok () w:=by rfl
   rw[Sem.run_bind,o,Result.andThen_ok];simp only[binOp];simp[Op.equal,Op.maxDepth,nS w 9999 t kt et p hd]
  refine⟨.bool (!p.isNone),_,λw=>?_,gR,by grind⟩;have o:(eqGuard .neq t xo yo (.map p) (.map none)).run P w=.ok () w:=by rfl
  rw[Sem.run_bind,o,Result.andThen_ok];simp only[binOp];simp[Op.equal,Op.maxDepth,nS w 9999 t kt et p hd]
 |.one (.agg xs),.one (.agg ys),h=>
  simp only[Ms]at h;cases hl:Qs P t with
  |none=>grind
  |some l=>
   rw[hl]at h;dsimp only at h;cases hb:kp l (xs.map TD) (ys.map TD)with
   |none=>grind
   |some b=>
    rw[hb]at h;obtain⟨us,rfl,hus,f⟩:=hx;obtain⟨vs,rfl,G,g⟩:=hy;unfold Qs at hl;split at hl
    .have E:∀w:World,(Op.equalIn 10000 t (.agg us) (.agg vs)).run P w=.ok b w:=by
      intro w;split at hl
      .rename_i J A;obtain rfl:=Option.some.inj hl;have s:∃fs,P.underlying t=some (.struct fs):=by grind [ty,eqL,uy]
       obtain⟨fs,e⟩:=s;exact XK (P:=P) (w:=w) (H:=H) 20 10000 t J _ _ us.toList vs.toList (.agg us) (.agg vs) b kQ1 A hb (uc f) (uc g) (by simp[packed,e]) (by simp[packed,e])
      exact S9 hl hb (uc f) (uc g)
     cases op with
     |eql=>
      refine⟨.bool b,_,?_,gR,h⟩
      grind [Sem.run_bind,run_eqGuard_agg,Result.andThen_ok,run_eql_struct]
     |neq=>
      refine⟨.bool (!b),_,?_,gR,h⟩
      grind [Sem.run_bind,run_eqGuard_agg,Result.andThen_ok,run_neq_struct]
     |_=>grind
    grind
 |.one (.c (.d (.int _ _))),.one (.c (.d b)),h=>exact two _ _ rfl rfl (by
   cases b with
   |mp z=>cases z with
    |none=>exact h.2.elim
    |some r=>exact h
   |_=>exact h)
 |.one (.c (.d (.str _))),.one (.c (.d b)),h=>exact two _ _ rfl rfl (by
   cases b with
   |mp z=>cases z with
    |none=>exact h.2.elim
    |some r=>exact h
   |_=>exact h)
theorem aiA{op:UnOp}(h:unK op x k)(hx:AR w H γ m x u):∃z d,(∀w:World,(Op.unary op u).run P w=.ok z w)/\AR w H γ m d z/\k d:=by
 match op,x,h with
 |.not,.one (.c (.d (.bool b))),h=>obtain rfl:=yk hx;exact⟨_,_,λ_=>rfl,gR,h⟩
 |.neg,.one (.c (.d (.int κ n))),h=>obtain⟨rfl,_⟩:=oh hx;exact⟨_,_,λ_=>rfl,mS (wf_wrap _ _),h⟩
 |.xor,.one (.c (.d (.int κ n))),h=>obtain⟨rfl,_⟩:=oh hx;exact⟨_,_,λ_=>rfl,mS (wf_wrap _ _),h⟩
theorem Pe:∀{xs:List AV1}{ys:List Value}{i:Nat}{x:AV1},ARs w H γ m xs ys->xs[i]? = some x->∃y,ys[i]? = some y/\AR1 w H γ m x y
 |x::xs,y::ys,0,z,h,hz=>by simp only[al0,akJ]at hz;subst hz;exact⟨y,rfl,h.1⟩
 |x::xs,y::ys,i+1,z,h,hz=>by simp only[List.getElem?_cons_succ]at hz|-;exact Pe h.2 hz
 |[],[],i,z,_,hz=>by grind
 |[],_::_,_,_,h,_=>h.elim
 |_::_,[],_,_,h,_=>h.elim
theorem I3(h:lq x i k)(hx:AR w H γ m x u):∃z d,(∀w:World,(Instr.extract u i).run P w=.ok z w)/\AR w H γ m d z/\k d:=by
 match x,h with
 |.tup vs,h=>
  obtain⟨l,rfl,hl⟩:=hx;simp only[lq]at h;cases hv:vs[i]? with
  |none=>grind
  |some v=>
   rw[hv]at h;obtain⟨y,hy,hr⟩:=Pe hl hv;refine⟨y,.one v,?_,hr,h⟩
   simp_all[Instr.extract]
theorem gS{y:Value}(h:FDx H (.li l) y):∃a c,y=.slice a l.length c/\l.length<=c/\l.length<=BIG/\(l=[]\/∃b o e k,a=some ⟨b,o,none⟩/\FEl H k l b o e):=by
 obtain⟨n,h⟩:=h;cases n with
 |zero=>exact h.elim
 |succ n=>grind [pC]
theorem UY{i:AV}{v:Value}(e:(ty P t).k=.str)(h:xh x i k)(hx:AR w H γ m x u)(hi:AR w H γ m i v) :
  ∃z d,(∀w:World,(Instr.index t u v).run P w=.ok z w)/\AR w H γ m d z/\k d:=by
 match x,i,h with
 |.one (.c (.d (.str l))),.one (.c (.d (.int κ n))),h=>
  obtain⟨h0,h⟩:=h;have hn:n.toNat<l.length:=by grind
  have h:∀b,l[n.toNat]? = some b->k (sc (.int .u8 b.toNat)):=λb hb=>by grind
  obtain⟨rfl,_⟩:=Et hx;obtain⟨rfl,_⟩:=oh hi;obtain⟨_,d,_,hd,f,_⟩:=bh e (by simp);obtain rfl:=F9 f;obtain⟨b,hb⟩:∃b,l[n.toNat]? = some b:=⟨_,akL hn⟩
  refine⟨.int .u8 b.toNat,_,?_,mS ?_,h b hb⟩
  .have a:(⟨l.toArray⟩:ByteArray)[n.toNat]? = some b:=by
    have hs:n.toNat < (⟨l.toArray⟩:ByteArray).size:=by
     show n.toNat<l.toArray.size
     omega
    refine(getElem?_pos (⟨l.toArray⟩:ByteArray) n.toNat hs).trans ?_;rw[akL hn]at hb;rw[<- hb];rfl
   simp_all[Instr.index,asIntOf,run_underlying]
  have:=b.toNat_lt
  simp only[Lit.wf,akI,decide_eq_true_eq];have h1:IntKind.u8.min=0:=by decide
  have h2:IntKind.u8.max=255:=by decide
  omega
end
def RE(w:World)(H:FH)(γ:Gam)(m:Mm):Option AV->Option Value->Prop
 |none,none=>True
 |some x,some v=>AR w H γ m x v
 |_,_=>False
variable{hi lo:Option AV}{n:Nat}{vhi vlo:Option Value}
section
variable {P:Program} {w:World} {H:FH} {γ:Gam} {m:Mm}
theorem C9{x:Value}{κ:IntKind}{n:Int}{y:Nat}{a:BoundsCode}(hx:x=.int κ n)(h0:0<=n)(h1:n.toNat<=y):(Instr.sliceBound x y a).run P w=.ok n.toNat w:=by grind [Instr.sliceBound,asIntOf,Sem.run_pure]
theorem lh{isS:Bool}{len cap:Nat}{k:Nat->Nat->Prop}
  (g:RE w H γ m lo vlo)
  (i:RE w H γ m hi vhi)
  (l:len<=cap)
  (h:iI lo 0 λa=>iI hi len λb=>k a b) (hk:∀a b,k a b->a<=b/\b<=len) :
  ∃a b,k a b/\∀w:World,(Instr.sliceBounds isS len cap vlo vhi none).run P w=.ok (a,b,cap) w:=by
 have up:∀a,iI hi len (λb=>k a b)->∃b,k a b/\∀e f(w:World),(match vhi,(none:Option Value)with
   |some v,some _=>Instr.sliceBound v cap .slice3B
   |some v,none=>Instr.sliceBound v cap (if isS then e else f)
   |none,none=>pure len
   |none,some _=>stuck "Slice: max without high").run P w=.ok b w:=by
  intro a j;cases hi with
  |none=>
   cases vhi with
   |none=>exact⟨len,j,λ_ _ _=>rfl⟩
   |some _=>exact i.elim
  |some y=>
   cases vhi with
   |none=>exact i.elim
   |some v=>
    match y,j with
    |.one (.c (.d (.int κ n))),j=>
     obtain⟨rfl,_⟩:=oh (w:=w) (H:=H) (γ:=γ) (m:=m) i;have:=hk _ _ j.2
     exact⟨n.toNat,j.2,λ_ _ _=>C9 rfl j.1 kQ1⟩
 cases lo with
 |none=>
  cases vlo with
  |some _=>exact g.elim
  |none=>
   obtain⟨b,h1,h2⟩:=up 0 h;refine⟨0,b,h1,?_⟩;intro w;have h3:=h2 .sliceAcap .sliceAlen w
   grind [Instr.sliceBounds,Sem.run_bind,Sem.run_pure,Result.andThen_ok]
 |some x=>
  cases vlo with
  |none=>exact g.elim
  |some v=>
   match x,h with
   |.one (.c (.d (.int κ n))),h=>
    obtain⟨rfl,_⟩:=oh (w:=w) (H:=H) (γ:=γ) (m:=m) g;obtain⟨h0,h⟩:=h;obtain⟨b,h1,h2⟩:=up n.toNat h;have hb:=hk _ _ h1
    refine⟨n.toNat,b,h1,?_⟩;intro w;have h3:=h2 .sliceAcap .sliceAlen w
    grind [C9,Sem.run_pure,Instr.sliceBounds,Sem.run_bind,Result.andThen_ok]
theorem VB{a0:Option Addr}{c e a b:Nat}(h:FDx H (.li l) (.slice a0 n c))(q:∀x∈l,x.length=e)(j:a<=b)(hb:b<=l.length) :
  FDx H (.li ((l.drop a).take (b-a))) (.slice (if c=a then a0 else a0.map (·.add (a*e))) (b-a) (c-a)):=by
 obtain⟨p,r,h1,h2,h3,h4⟩:=gS h;simp only[Value.slice.injEq]at h1;obtain⟨rfl,rfl,rfl⟩:=h1;have d:((l.drop a).take (b-a)).length=b-a:=by grind
 by_cases hz:b-a=0
 .have:(l.drop a).take (b-a)=[]:=alX kQ1
  rw[this];exact⟨1,pC.2 ⟨_,_,by rw[hz];rfl,by simp,by simp,.inl rfl⟩⟩
 rcases h4 with h4|⟨b0,o,e0,k,rfl,h5⟩
 .grind
 have g:c≠a:=by omega
 have f:e0=e:=by
  have:=(h5 0 kQ1).1
  grind
 subst f;refine⟨k+1,pC.2 ⟨_,_,by rw[d,if_neg g],by omega,by omega,.inr ⟨b0,o+a*e0,e0,by simp[eF],λi hi=>?_⟩⟩⟩;rw[d]at hi;have m:((l.drop a).take (b-a)).getD i []=l.getD (a+i) []:=by grind
 rw[m];obtain⟨g1,g2⟩:=h5 (a+i) kQ1
 grind
theorem UO{k:AV->Prop}(h:mQ P t x lo hi k)(hx:AR w H γ m x u)
  (n:RE w H γ m lo vlo)
  (p:RE w H γ m hi vhi) :
  ∃z d,(∀w:World,(Instr.sliceAt t u vlo vhi none).run P w=.ok z w)/\AR w H γ m d z/\k d:=by
 match x,h with
 |.one (.c (.d (.str l))),h=>
  obtain⟨hk,h⟩:=h;obtain⟨rfl,hl⟩:=Et hx;obtain⟨_,d,_,hd,q,_⟩:=bh hk (by simp);obtain rfl:=F9 q;have hs:(⟨l.toArray⟩:ByteArray).size=l.length:=by rfl
  obtain⟨a,b,⟨⟨h1,h2⟩,h3⟩,h4⟩:=lh (P:=P) (isS:=false) (len:=l.length) (cap:=l.length) (k:=λa b=>(a<=b/\b<=l.length)/\k (sc (.str ((l.drop a).take (b-a))))) n p (akK _) h (λa b h=>h.1);refine⟨.string ⟨((l.drop a).take (b-a)).toArray⟩,_,?_,mT ?_,h3⟩
  .simp_all[Instr.sliceAt,run_underlying,Instr.slice,ByteArray.ext_iff]
  grind
 |.one (.c (.d (.li l))),h=>
  simp only[mQ]at h;cases hk:(ty P t).k with
  |sl e=>
   rw[hk]at h;obtain⟨g,f,h⟩:=h;obtain⟨_,d,_,hd,q,_⟩:=bh hk (by simp);obtain rfl:=pJ q;obtain⟨i,A,hi,_⟩:=jY g;obtain⟨b0,c,rfl,hc,hb,_⟩:=gS hx.2;obtain⟨a,b,⟨⟨h1,h2⟩,h3⟩,h4⟩:=lh (P:=P) (isS:=true) (len:=l.length) (cap:=c) (k:=λa b=>(a<=b/\b<=l.length)/\k (sc (.li ((l.drop a).take (b-a))))) n p hc h (λa b h=>h.1);refine⟨_,sc _,?_,⟨λ_=>rfl,VB hx.2 f h1 h2⟩,h3⟩;intro w;simp only[Instr.sliceAt,Sem.run_bind,run_underlying hd,Result.andThen_ok]
   simp_all[Instr.slice,run_underlying,cJ,mA]
  |_=>grind
 |.one (.c .nil),h=>
  simp only[mQ]at h;cases hk:(ty P t).k with
  |sl e=>
   rw[hk]at h;obtain⟨g,h⟩:=h;obtain⟨_,d,_,hd,q,_⟩:=bh hk (by simp);obtain rfl:=pJ q;obtain⟨i,A,hi,_⟩:=jY g;obtain⟨h0,rfl⟩:=hx;obtain⟨a,b,⟨h1,h2,h3⟩,h4⟩:=lh (P:=P) (isS:=true) (len:=0) (cap:=0) (k:=λa b=>a<=b/\b<=0/\k (.one (.c .nil))) n p (akK _) h (λa b h=>⟨h.1,h.2.1⟩);obtain rfl:b=0:=by omega
   obtain rfl:a=0:=by omega
   refine⟨.slice none 0 0,.one (.c .nil),?_,⟨λ_=>rfl,rfl⟩,h3⟩
   simp_all[Instr.sliceAt,run_underlying,Instr.slice,cJ]
  |_=>grind
 |.one (.c (.el row o)),h=>
  simp only[mQ]at h;cases hk:(ty P t).k with
  |ar N e=>
   rw[hk]at h;obtain⟨g,C,hN,B,h⟩:=h;obtain⟨_,d,_,hd,q,_⟩:=bh hk (by simp);obtain rfl:=afN q;obtain⟨i,A,hi,_⟩:=jY g;obtain⟨_,b0,o0,kk,rfl,r⟩:=hx;obtain⟨a,b,⟨⟨h1,h2⟩,h3⟩,h4⟩:=lh (P:=P) (isS:=false) (len:=N) (cap:=N) (k:=λa b=>(a<=b/\b<=N)/\k (sc (.li (((((row.drop o).take N).drop a).take (b-a)).map λx=>[x])))) n p (akK _) h (λa b h=>h.1);have f:(((((row.drop o).take N).drop a).take (b-a)).map λx=>[x]).length=b-a:=by grind
   refine⟨.slice (some (if N=a then⟨b0,o0+o,none⟩else(⟨b0,o0+o,none⟩:Addr).add (a*1))) (b-a) (N-a),sc _,?_,⟨λ_=>rfl,?_⟩,h3⟩
   .simp_all[mA,Instr.sliceAt,run_underlying,Instr.sureAddr,cJ]
   by_cases hz:b-a=0
   .have:(((((row.drop o).take N).drop a).take (b-a)).map λx=>[x])=[]:=alX kQ1
    rw[this,hz];exact⟨1,pC.2 ⟨_,_,rfl,by simp,by simp,.inl rfl⟩⟩
   have v:N≠a:=by omega
   refine⟨kk+1,pC.2 ⟨_,_,by rw[f,if_neg v],by omega,by grind [BIG],.inr ⟨b0,o0+o+a,1,by simp[eF],λi hi=>?_⟩⟩⟩;rw[f]at hi;have s:o+(a+i)<row.length:=by omega
   have D:(((((row.drop o).take N).drop a).take (b-a)).map λx=>[x]).getD i []=[row.getD (o+(a+i)) default]:=by grind
   rw[D];refine⟨rfl,λj hj=>?_⟩;obtain rfl:j=0:=by omega
   obtain⟨y,hy,hf⟩:=r (o+(a+i)) s
   grind
  |_=>grind
end
def Co(q:Pl):T->T
 |.ow _ _=>.rf q
 |.mp _=>.rf q
 |.it _ _=>.rf q
 |t=>t
def vA(p:Pl)(ts:List T):List T:=ts.zipIdx.map λx=>Co (p.add x.2) x.1
theorem lZ:∀(p:List Step)(n:Nat),p≠[]->bj p n≠[]:=by
 intro p n h;cases p with
 |nil=>grind
 |cons st r=>cases r<;>simp[bj]
variable{F:Nm->Fp}
section
variable {P:Program} {w:World} {H:FH} {γ:Gam} {m:Mm}
theorem aaW{t:T}{f:Fp}{y:Value}(h:TR w H γ m t f y)(hn:t.owned=false):TR w H γ m t (λ_=>0) y/\∀b,f b=0:=by
 cases t with
 |d x=>exact⟨⟨λ_=>rfl,h.2⟩,h.1⟩
 |nil=>exact⟨⟨λ_=>rfl,h.2⟩,h.1⟩
 |ow sub l=>grind [T.owned]
 |mp l=>grind [T.owned]
 |it c l=>grind [T.owned]
 |el row off=>exact⟨⟨λ_=>rfl,h.2⟩,h.1⟩
 |pl p=>exact⟨⟨λ_=>rfl,h.2⟩,h.1⟩
 |rf p=>exact⟨⟨λ_=>rfl,h.2⟩,h.1⟩
 |any=>exact⟨λ_=>rfl,h⟩
theorem rT{F:Nm->Fp}(hm:Mem w H γ m F){q:Pl}(hq:cq m q){t:T}(d:bi m q=some t) :
  ∃v,plV w γ q=some v/\(∀a,plA w γ q=some a->w.cell? a=some v)/\TR w H γ m (Co q t) (λ_=>0) v/\∃f,TR w H γ m t f v:=by
 obtain⟨r,hr,hc⟩:=ay.1 hq;have i:=hm.roots _ (al hr)
 obtain⟨n,off,path⟩:=q;dsimp only at hr hc;have D:∀c,F n c<=1:=λc=>by have:=hm.le1 c;have:=bV (F:=F) (al hr) c;grind
 unfold bi at d;rw[hr]at d;dsimp only at d;have fin:∀(v:Value)(f:Fp),plV w γ ⟨n,off,path⟩=some v->TR w H γ m t f v->(t.owned=true->iB m ⟨n,off,path⟩)->TR w H γ m (Co ⟨n,off,path⟩ t) (λ_=>0) v:=by
  intro v f hv hT ho;by_cases E:t.owned=true
  .cases t with
   |ow sub l=>exact⟨λ_=>rfl,ho rfl,hv⟩
   |mp l=>exact⟨λ_=>rfl,ho rfl,hv⟩
   |it c l=>exact⟨λ_=>rfl,ho rfl,hv⟩
   |_=>grind [T.owned]
  have e:Co ⟨n,off,path⟩ t=t:=by cases t<;>first|rfl|grind [T.owned]
  grind [aaW]
 cases path with
 |nil=>
  dsimp only at d;obtain⟨v,g,j,y,_⟩:=fe i d;dsimp only at j;refine⟨v,j,λa p=>?_,fin v g j y (λho=>?_),g,y⟩
  .simp only[plA]at p;cases A:γ n with
   |gh u=>grind
   |blk b=>rw[A]at p j;simp only[akJ]at p;subst p;exact j
  rw[cr];refine⟨r,hr,?_⟩;cases t with
  |ow sub l=>simp_all[bO]
  |mp l=>simp_all[bO]
  |it c l=>simp_all[bO]
  |_=>grind [T.owned]
 |cons st u=>
  dsimp only[bf]at hc;dsimp only at d;cases C:r.cells[off]? with
  |none=>grind
  |some tt=>
   rw[C]at hc d;cases tt with
   |ow sub l=>
    dsimp only at d hc;obtain⟨v0,g,j,⟨k,y⟩,c3⟩:=fe i C;dsimp only at j c3;obtain⟨b,k',z,s,x,cs,ty,fz,f1,N,J,O,L,K,G,I,M,B,_⟩:=ym (st::u) k sub l g v0 y (λb=>by grind) hc;have hz:w.cell? ⟨b,k',none⟩=some z:=by grind [World.cell?]
    have o:plV w γ ⟨n,off,st::u⟩=some z:=by grind [plV]
    rw[G]at d;have hT:TR w H γ m t f1 z/\(t.owned=true->∃s' l',s=.ow s'/\x=.li l'):=by
     cases s with
     |fr=>simp only[akJ]at d;subst d;exact⟨gr.1 B,λh=>by simp[T.owned]at h⟩
     |ow s'=>cases x with
      |li l'=>simp only[akJ]at d;subst d;exact⟨⟨k,B⟩,λ_=>⟨s',l',rfl,rfl⟩⟩
      |any=>
       simp only[akJ]at d;subst d;refine⟨?_,λh=>by simp[T.owned]at h⟩;show ∀b,f1 b=0
       grind [OD]
      |_=>grind [OD]
    refine⟨z,o,λa p=>?_,fin z f1 o hT.1 (λho=>?_),f1,hT.1⟩
    .grind [plA]
    obtain⟨s',l',rfl,rfl⟩:=hT.2 ho
    simp_all[cr,bO]
   |_=>grind
theorem adK:∀(p:List Step)(sub:List Sh)(l:List (List D))(n k:Nat),okO sub l p->xL sub p=some k->n<k->okO sub l (bj p n):=by
 intro p;induction p with
 |nil=>intro sub l n k h;exact h.elim
 |cons st r ih=>
  intro sub l n k h hr hn;cases r with
  |nil=>obtain⟨h1,h2,h3⟩:=h;simp only[xL,akJ]at hr;exact⟨h1,h2,by grind⟩
  |cons t u=>
   obtain⟨h1,h2⟩:=h;cases hs:sub[st.off]? with
   |none=>grind
   |some s=>
    rw[hs]at h2;cases s with
    |fr=>grind
    |ow s=>
     cases hd:(l.getD st.idx []).getD st.off default with
     |li l'=>
      rw[hd]at h2;simp only[xL,hs]at hr;have:=ih s l' n k h2 hr hn
      cases u<;>grind [bj,okO]
     |_=>grind
theorem AY{p:Pl}(h:cq m p)(hr:jD m p n):cq m (p.add n):=by
 obtain⟨r,h1,h2⟩:=ay.1 h;obtain⟨nm,off,path⟩:=p;dsimp only at h1 h2;unfold jD room at hr;rw[h1]at hr;dsimp only at hr;rw[ay];cases path with
 |nil=>grind [Pl.add,bf]
 |cons st u=>
  refine⟨r,by grind [Pl.add],?_⟩;dsimp only[bf]at h2;simp only[Pl.add];cases b:r.cells[off]? with
  |none=>grind
  |some t=>
   rw[b]at h2 hr;cases t with
   |ow sub l=>
    dsimp only at h2 hr;cases a:xL sub (st::u)with
    |none=>grind
    |some k=>
     rw[a]at hr;have:=adK (st::u) sub l n k h2 a hr
     cases c:bj (st::u) n<;>grind [bf]
   |_=>grind
theorem U6:∀(p:List Step)(y:Value)(n b k:Nat),bM w y p=some ⟨b,k,none⟩->bM w y (bj p n)=some ⟨b,k+n,none⟩:=by
 intro p;induction p with
 |nil=>grind [bM]
 |cons st r ih=>
  intro y n b k h;cases y with
  |slice a len c=>
   cases a with
   |none=>grind [bM]
   |some a=>
    obtain⟨b0,o,sp⟩:=a;cases sp with
    |some _=>grind [bM]
    |none=>cases r<;>grind [bM,bj]
  |_=>grind [bM]
theorem yD{p:Pl}{b k:Nat}(h:plA w γ p=some ⟨b,k,none⟩):plA w γ (p.add n)=some ⟨b,k+n,none⟩:=by
 obtain⟨nm,off,path⟩:=p;cases path with
 |nil=>grind [plA,Pl.add]
 |cons st u=>
  simp only[plA]at h;simp only[Pl.add,plA];cases c:bj (st::u) n with
  |nil=>grind [lZ]
  |cons a b'=>dsimp only;cases hv:aI w (γ nm) off<;>grind [U6]
theorem qv(hm:Mem w H γ m F){p:Pl}(c:cq m p){a:Addr}(h:plA w γ p=some a):∃b k,a=⟨b,k,none⟩:=by
 obtain⟨b,k,sp⟩:=a;have:=(A7 hm c h).2
 grind
def mkL:Option (Sh×D)->Option T
 |some (s,x)=>some (mkT s x)
 |none=>none
theorem ahJ:∀(p:List Step)(sub:List Sh)(l:List (List D))(n:Nat)(k:List T->Prop),(∀N,wfO N sub l)->okO sub l p->inK sub l n p k ->
  ∃ts:List T,ts.length=n/\k ts/\∀j t,ts[j]? = some t->okO sub l (bj p j)/\mkL (bU sub l (bj p j))=some t:=by
 intro p;induction p with
 |nil=>intro sub l n k _ h;exact h.elim
 |cons st r ih=>
  intro sub l n k c b a;cases r with
  |nil=>
   obtain⟨h1,h2,h3⟩:=b;obtain⟨hn,a⟩:=a;have hx:l[st.idx]? = some l[st.idx]:=akL h1
   have g:(l[st.idx]).length=sub.length:=(c 1).1 _ (amF h1)
   have o:l.getD st.idx []=l[st.idx]:=by grind
   rw[hx]at a;refine⟨_,?_,a,λj t hj=>?_⟩
   .grind
   have e:j<n:=by grind
   simp only[List.getElem?_zipWith]at hj;rw[List.getElem?_take_of_lt e,List.getElem?_take_of_lt e,amH,amH]at hj;have hs:sub[st.off+j]? = some (sub[st.off+j]' kQ1):=akL kQ1
   have hd:(l[st.idx])[st.off+j]? = some ((l[st.idx])[st.off+j]' kQ1):=akL kQ1
   rw[hs,hd]at hj;simp only[akJ]at hj;refine⟨⟨h1,h2,by grind⟩,?_⟩
   grind [bj,bU,mkL]
  |cons t u=>
   obtain⟨⟨h1,h2,h3⟩,b⟩:=b;have hx:l[st.idx]? = some l[st.idx]:=akL h1
   have o:l.getD st.idx []=l[st.idx]:=by grind
   unfold inK at a;rw[hx]at a;dsimp only at a;cases hs:sub[st.off]? with
   |none=>grind
   |some s=>
    rw[hs]at b a;cases s with
    |fr=>grind
    |ow s=>
     cases hd:(l[st.idx])[st.off]? with
     |none=>grind
     |some d=>
      have f:(l.getD st.idx []).getD st.off default=d:=by grind
      rw[f]at b;rw[hd]at a;cases d with
      |li l'=>dsimp only at a b;obtain⟨ts,i,q,m⟩:=ih s l' n k (λN=>(c (N+1)).2 st.idx st.off s l' hs f) b a;refine⟨ts,i,q,λj t' hj=>?_⟩;obtain⟨w,v⟩:=m j t' hj;cases u<;>grind [bj,okO,bU]
      |_=>grind
theorem Mn(hm:Mem w H γ m F){p:Pl}(q:cq m p){k:List T->Prop}(h:atK m p n k) :
  ∃ts:List T,ts.length=n/\k ts/\∀j t,ts[j]? = some t->bi m (p.add j)=some t/\cq m (p.add j):=by
 obtain⟨r,h1,h2⟩:=ay.1 q;obtain⟨nm,off,path⟩:=p;dsimp only at h1 h2;unfold atK at h;rw[h1]at h;dsimp only at h;cases path with
 |nil=>grind [Pl.add,bi,ay,bf]
 |cons st u=>
  dsimp only[bf]at h2;cases o:r.cells[off]? with
  |none=>grind
  |some t=>
   rw[o]at h2 h;cases t with
   |ow sub l=>
    dsimp only at h2 h;have i:∀N,wfO N sub l:=by
     intro N;obtain⟨v,g,_,⟨k,C⟩,_⟩:=fe (hm.roots _ (al h1)) o
     grind [EB]
    obtain⟨ts,y,B,z⟩:=ahJ (st::u) sub l n k i h2 h;refine⟨ts,y,B,λj t' hj=>?_⟩;obtain⟨A,c⟩:=z j t' hj;cases e:bj (st::u) j with
    |nil=>grind [lZ]
    |cons a b=>
     rw[e]at A c;refine⟨?_,?_⟩
     .simp only[Pl.add,e,bi,h1,o];cases f:bU sub l (a::b)with
      |none=>rw[f]at c;exact c
      |some x=>
       obtain⟨s,d⟩:=x;rw[f]at c;cases s with
       |fr=>exact c
       |ow s=>cases d<;>exact c
     grind [ay,Pl.add,bf]
   |_=>grind
end
def gV(P:Program)(m:Mm)(t:TypeId)(x:AV)(i:Nat)(k:AV->Prop):Prop:=
 match(ty P t).k with
 |.st fs=>match fs[i]? with
  |some (off,size,_)=>size≠0/\match x with
   |.one (.c (.pl p))=>jD m p off/\k (.one (.c (.pl (p.add off))))
   |.one (.c (.el row o))=>k (.one (.c (.el row (o+off))))
   |_=>False
  |none=>False
 |_=>False
def Pl.at(p:Pl)(i e:Nat):Pl:={ p with path:=p.path++[⟨i,e,0⟩] }
def gY(P:Program)(m:Mm)(t:TypeId)(x i:AV)(k:AV->Prop):Prop:=
 match i with
 |.one (.c (.d (.int _ n)))=>match(ty P t).k,x with
  |.sl e,.one (.c (.d (.li l)))=>(ty P e).ok=true/\0<=n/\match l[n.toNat]? with
   |some row=>row.length=(ty P e).size/\k (.one (.c (.el row 0)))
   |none=>False
  |.sl e,.one (.c (.rf p))=>(ty P e).ok=true/\(ty P e).size≠0/\atK m p 1 λts=>match ts with
   |[.ow sub l]=>(0<=n/\n<l.length)/\sub.length=(ty P e).size/\k (.one (.c (.pl (p.at n.toNat (ty P e).size))))
   |_=>False
  |.ar N e,.one (.c (.pl p))=>(ty P e).ok=true/\(0<=n/\n<N)/\jD m p (n.toNat*(ty P e).size)/\k (.one (.c (.pl (p.add (n.toNat*(ty P e).size)))))
  |.ar N e,.one (.c (.el row o))=>(ty P e).ok=true/\(0<=n/\n<N)/\k (.one (.c (.el row (o+n.toNat*(ty P e).size))))
  |_,_=>False
 |_=>False
def Y6:T->Prop
 |.d x=>okv x
 |_=>True
def QM:List T->Prop
 |[]=>True
 |t::ts=>Y6 t/\QM ts
def uZ(P:Program)(m:Mm)(t:TypeId)(x:AV)(k:AV->Prop):Prop:=
 (ty P t).ok=true/\match x with
 |.one (.c (.el row o))=>if(ty P t).agg=true then o+(ty P t).size<=row.length/\(okvs ((row.drop o).take (ty P t).size)->k (.one (.agg (((row.drop o).take (ty P t).size).map T.d))))
  else match row[o]? with
   |some x=>okv x->k (sc x)
   |none=>False
 |.one (.c (.pl p))=>if(ty P t).agg=true then atK m p (ty P t).size λts=>QM ts->k (.one (.agg (vA p ts)))
  else atK m p 1 λts=>match ts with
   |[t']=>Y6 t'->k (.one (.c (Co p t')))
   |_=>False
 |_=>False
def wz(P:Program)(t:TypeId)(x:AV)(i:Nat)(k:AV->Prop):Prop:=
 match(ty P t).k,x with
 |.st fs,.one (.agg ts)=>match fs[i]? with
  |some (off,size,some false)=>match ts[off]? with
   |some t'=>k (.one (.c t'))
   |none=>False
  |some (off,size,some true)=>off+size<=ts.length/\k (.one (.agg ((ts.drop off).take size)))
  |_=>False
 |_,_=>False
def nN(x:AV)(k:AV->Prop):Prop:=
 match x with
 |.one (.c (.pl p))=>k x
 |.one (.c (.el row o))=>k x
 |_=>False
variable{ts:List T}{vs:List Value}
section
variable {P:Program} {w:World} {H:FH} {γ:Gam} {m:Mm}
theorem yn(hl:vs.length=ts.length)(h:∀(i:Nat) (t:T),ts[i]? = some t->∃v,vs[i]? = some v/\TR w H γ m t (λ_=>0) v):Ts (TR w H γ m) ts (λ_=>0) vs:=by
 induction ts generalizing vs with
 |nil=>exact λ_=>rfl
 |cons t ts ih=>
  cases vs with
  |nil=>grind
  |cons v vs=>
   obtain⟨c,hv,a⟩:=h 0 t rfl;simp only[al0,akJ]at hv;subst hv;refine⟨v,vs,λ_=>0,λ_=>0,rfl,λ_=>rfl,a,ih (by grind) (λi t' b=>?_)⟩;obtain⟨c,hv,a⟩:=h (i+1) t' (by grind)
   grind
theorem EF{f:Fp}(h:Ts (TR w H γ m) ts f vs){t:T}(a:ts[i]? = some t):∃v g,vs[i]? = some v/\TR w H γ m t g v/\∀b,g b<=f b:=by
 obtain⟨_,v,g,_,h2,h3,h4⟩:=sP h a
 grind
theorem EG(h:Ts (TR w H γ m) ts (λ_=>0) vs){t:T}(a:ts[i]? = some t):∃v,vs[i]? = some v/\TR w H γ m t (λ_=>0) v:=by
 obtain⟨v,g,h1,h2,h3⟩:=EF h a;have e:g=λ_=>0:=by grind
 grind
theorem BO(hn:n<=BIG):(Lit.int .i64 (n:Int)).wf=true:=by
 simp only[Lit.wf,akI,decide_eq_true_eq];have h1:IntKind.i64.min=-9223372036854775808:=by decide
 have h2:IntKind.i64.max=9223372036854775807:=by decide
 grind [BIG]
theorem ZF(hm:Mem w H γ m F){p:Pl}(hx:TR w H γ m (.rf p) (λ_=>0) u){k:List T->Prop}(h:atK m p 1 k) :
  ∃t,k [t]/\bi m p=some t/\cq m p/\plV w γ p=some u/\∃f,TR w H γ m t f u:=by
 obtain⟨_,hr,hv⟩:=hx;have e:=fP hr
 obtain⟨ts,i,j,g⟩:=Mn hm e h
 match ts,i with
 |[t],_=>
  obtain⟨g1,g2⟩:=g 0 t rfl;have hp:p.add 0=p:=by
   obtain⟨n,o,path⟩:=p;cases path with
   |nil=>rfl
   |cons st r=>
    simp only[Pl.add];have:∀q:List Step,bj q 0=q:=by
     intro q;induction q with
     |nil=>rfl
     |cons a b ih=>cases b with
      |nil=>rfl
      |cons c d=>grind [bj]
    rw[this]
  grind [rT]
theorem add_zero(p:Pl):p.add 0=p:=by
 obtain⟨n,o,path⟩:=p;cases path with
 |nil=>rfl
 |cons st r=>
  simp only[Pl.add];have:∀q:List Step,bj q 0=q:=by
   intro q;induction q with
   |nil=>rfl
   |cons a b ih=>cases b with
    |nil=>rfl
    |cons c d=>grind [bj]
  rw[this]
def rA:AV->Bool
 |.one (.c (.d (.str _)))=>true
 |_=>false
theorem ac9(hm:Mem w H γ m F){k:Nat->Prop}(h:Km m x k)(hx:AR w H γ m x u) :
  ∃n:Nat,k n/\(Lit.int .i64 (n:Int)).wf=true/\((∃l:Array UInt8,u=.string ⟨l⟩/\l.size=n/\rA x=true)\/∃b c,u=.slice b n c/\rA x=false):=by
 match x,h with
 |.one (.c (.d (.str l))),h=>obtain⟨rfl,hl⟩:=Et hx;exact⟨l.length,h hl,BO hl,.inl ⟨_,rfl,by simp,rfl⟩⟩
 |.one (.c (.d (.li l))),h=>obtain⟨b,c,rfl,_,hl,_⟩:=gS hx.2;exact⟨l.length,h hl,BO hl,.inr ⟨_,_,rfl,rfl⟩⟩
 |.one (.c .nil),h=>obtain⟨_,rfl⟩:=hx;exact⟨0,h,BO (alJ _),.inr ⟨_,_,rfl,rfl⟩⟩
 |.one (.c (.rf p)),h=>
  simp only[Km]at h;obtain⟨t,h1,_,_,_,f,h2⟩:=ZF hm hx h;cases t with
  |ow sub l=>
   obtain⟨j,h2⟩:=h2;cases j with
   |zero=>simp[OD]at h2
   |succ j=>obtain⟨b,c,_,_,rfl,_,hl,_⟩:=mY h2;exact⟨l.length,h1 hl,BO hl,.inr ⟨_,_,rfl,rfl⟩⟩
  |_=>grind
theorem B0(hm:Mem w H γ m F)(h:gV P m t x i k)(hx:AR w H γ m x u) :
  ∃z d,(∀w:World,(Instr.fieldAt t u i).run P w=.ok z w)/\AR w H γ m d z/\k d:=by
 unfold gV at h;cases hk:(ty P t).k with
 |st fs=>
  rw[hk]at h;dsimp only at h;obtain⟨_,d,_,hd,s,_⟩:=bh hk (by simp);obtain⟨e,rfl,rfl⟩:=afO s;cases hf:(e.toList.map λf=>(f.offset,P.cellsOf f.type,WC P f.type))[i]? with
  |none=>grind
  |some q=>
   obtain⟨off,size,A⟩:=q;rw[hf]at h;obtain⟨h0,h⟩:=h;simp only[akN,ak0,Prod.mk.injEq]at hf;obtain⟨f,v,rfl,rfl,rfl⟩:=hf;have y:e[i]? = some f:=by grind
   have j:∃i,P.info? f.type=some i:=by cases hi:P.info? f.type<;>grind [Program.cellsOf]
   obtain⟨it,hit⟩:=j;have run:∀b o(w:World),(Instr.fieldAt t (.pointer (some ⟨b,o,none⟩)) i).run P w=.ok (.pointer (some ⟨b,o+f.offset,none⟩)) w:=by simp_all[Instr.fieldAt,run_underlying,Instr.sureAddr,fieldPlace,cJ,eF]
   match x,h with
   |.one (.c (.pl p)),h=>obtain⟨hr,h⟩:=h;obtain⟨hz,l,a,r,rfl⟩:=hx;obtain⟨b,o,rfl⟩:=qv hm l r;exact⟨_,.one (.c (.pl (p.add f.offset))),run b o,⟨λ_=>rfl,AY l hr,_,yD r,rfl⟩,h⟩
   |.one (.c (.el row o)),h=>obtain⟨hz,b,o',n,rfl,g⟩:=hx;exact⟨_,.one (.c (.el row (o+f.offset))),run b (o'+o),⟨λ_=>rfl,b,o',n,by grind,g⟩,h⟩
 |_=>grind
end
end Go.Am
end
