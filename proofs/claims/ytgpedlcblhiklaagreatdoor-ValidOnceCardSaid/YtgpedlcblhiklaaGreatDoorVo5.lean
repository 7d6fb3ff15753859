/-
  Part 5: AmValOk · AmPtr · AmPlace · AmLoad.
-/
import Derived.Test.YtgpedlcblhiklaaGreatDoorVo4
import Derived.ChangeKeysEq
set_option linter.unusedSimpArgs false
set_option linter.unusedVariables false
set_option linter.unusedSectionVars false
set_option linter.unnecessarySimpa false
section
namespace Go.Am
theorem rV{P:Program}{d:TypeDesc}{k e:TypeId}(h:gA P d=.mp k e):d=.map k e:=by cases d<;>simp[gA]at h;grind
theorem m5{P:Program}(w:World)(d:Nat)(t k e:TypeId)(p:Option Nat)(h:P.underlying t=some (.map k e)):(Op.equalIn (d+1) t (.map p) (.map none)).run P w=.ok p.isNone w:=by
 cases p<;>simp[Op.equalIn,run_underlying h]
variable{t:TypeId}
theorem SF{P:Program}{w:World}{H:FH}{l:List (Nat×CK)}{xs p:List D}{us vs:Array Value}{b:Bool}(h:WM P t=some l)(hb:jU l xs p=some b)(hx:Cells H xs us.toList)(hy:Cells H p vs.toList):(Op.equalIn 10000 t (.agg us) (.agg vs)).run P w=.ok b w:=by
 unfold WM at h;split at h
 ·rename_i n e B;split at h
  ·rename_i ck c;split at h
   ·rename_i hc;obtain rfl:=Option.some.inj h;have a:∃td,P.underlying e=some td/\tU td=false:=by
     simp only[eqL]at c;cases f:P.underlying e with
     |none=>grind
     |some td=>
      rw[f]at c;cases td with
      |struct fs=>
       exfalso
       dsimp only at c;split at c
       ·grind
       ·cases s:fs.toList<;>grind
      |int k=>exact⟨_,rfl,rfl⟩
      |string=>exact⟨_,rfl,rfl⟩
      |bool=>exact⟨_,rfl,rfl⟩
      |_=>grind
    obtain⟨td,a,d⟩:=a;obtain⟨i,hi⟩:=Fa a;rw[run_equalIn_array (P:=P) (w:=w) 9999 us vs B hi,hc];have key:∀(g:List Nat)(b:Bool),jU (g.map fun i=>(i,ck)) xs p=some b->(Op.eqItems 9999 e 1 us vs g).run P w=.ok b w:=by
     intro g;induction g with
     |nil=>
      simp_all[jU,Op.eqItems]
     |cons j g ih=>
      intro b hb;rw[aiZ]at hb;obtain⟨x,y,b1,G,h1,h2,h3,h4,rfl⟩:=mC hb;obtain⟨u,o,f⟩:=hx _ _ h1;obtain⟨v,q,r⟩:=hy _ _ h2;have F:=jh (P:=P) (w:=w) a d (us:=us.toList) (off:=j*1) (by rw[Nat.mul_one];exact o)
      have A:=jh (P:=P) (w:=w) a d (us:=vs.toList) (off:=j*1) (by rw[Nat.mul_one];exact q)
      have m:∀z:Value,packed P e [z] z:=by
       grind [packed,tU]
      have one:∀{zs:D}{z:Value},FDx H zs z->Cells H [zs] [z]:=by
       intro zs z hz i x C
       grind
      have E:=WO (P:=P) (w:=w) (H:=H) 1 9999 e [(0,ck)] [x] [y] [u] [v] u v b1 kQ1 c (by simp[jU,h3]) (one f) (one r) (m u) (m v)
      have rest:=ih G h4
      simp only[Op.eqItems,Sem.run_bind];rw[show us=us.toList.toArray from by simp,show vs=vs.toList.toArray from by simp]at *;rw[F,Result.andThen_ok,A,Result.andThen_ok,E,Result.andThen_ok];cases b1<;>simp_all
    grind
   grind
  grind
 grind
variable{i:Nat}{k:AV->Prop}{l:List (List D)}{u:Value}{x:AV}
section
variable {P:Program} {w:World} {H:FH} {γ:Gam} {m:Mm}
theorem X9{c y:AV}{e f a:Value}(h:KM c x y k)(hc:AR w H γ m c e)(hx:AR w H γ m x f)(hy:AR w H γ m y a) :
  ∃b v,e=.bool b/\AR w H γ m v (if b then f else a)/\k v:=by
 match c,h with
 |.one (.c (.d (.bool b))),h=>
  obtain rfl:=yi hc;cases b with
  |true=>exact⟨true,x,rfl,hx,h⟩
  |false=>exact⟨false,y,rfl,hy,h⟩
theorem tz:∀{ts:List T}{f:Fp}{us:List Value},Ts (TR w H γ m) ts f us->Cells H (ts.map TD) us:=by
 intro ts f us h i x hx;simp only[ai4,ajF]at hx;obtain⟨t,a,rfl⟩:=hx;obtain⟨_,v,g,_,h2,h3,_⟩:=r9 h a;refine⟨v,h2,?_⟩;cases t with
 |d x=>exact h3.2
 |_=>exact⟨0,trivial⟩
theorem ZF{op:BinOp}{t:TypeId}{xo yo:Operand}{y:AV}{v:Value}(h:Mt P op t x y k)(hx:AR w H γ m x u)(hy:AR w H γ m y v) :
  ∃z d,(∀w:World,(do eqGuard op t xo yo u v;binOp op t u v:Sem Value).run P w=.ok z w)/\AR w H γ m d z/\k d:=by
 have two:∀(a b:D),x=sc a->y=sc b->vI op a b (fun d=>k (sc d))->∃z d,(∀w:World,(do eqGuard op t xo yo u v;binOp op t u v:Sem Value).run P w=.ok z w)/\AR w H γ m d z/\k d:=by
  intro a b G hb B;subst G;subst hb;obtain⟨z,d,h1,h2,h3⟩:=ZE (P:=P) (t:=t) hx.2 hy.2 B;refine⟨z,sc d,?_,⟨fun _=>rfl,h2⟩,h3⟩;intro w;have o:(eqGuard op t xo yo u v).run P w=.ok () w:=by
   cases a with
   |int κ n=>
    obtain⟨rfl,_⟩:=fH hx.2
    simp_all[eqGuard]
   |str l=>
    obtain⟨rfl,_⟩:=il hx.2
    simp_all[eqGuard]
   |_=>exact B.elim
  grind [Sem.run_bind,Result.andThen_ok]
 match x,y,h with
 |.one (.c (.d (.bool a))),.one (.c (.d (.bool b))),h=>
  obtain⟨hk,h⟩:=h;obtain rfl:=yi hx;obtain rfl:=yi hy;obtain⟨i,d,hi,hd,he,_⟩:=aY hk (by simp);obtain rfl:=acT he;cases op<;>first|exact h.elim|skip
  ·refine⟨.bool (a==b),_,?_,gE,h⟩
   simp_all[eqGuard,binOp,Op.equal,Op.maxDepth,run_equalIn_bool']
  ·refine⟨.bool (!(a==b)),_,?_,gE,h⟩
   simp_all[eqGuard,binOp,Op.equal,Op.maxDepth,run_equalIn_bool']
 |.one (.c (.d q)),.one (.c (.d (.mp none))),h=>
  have h:af4 P op t q k:=by cases q<;>exact h
  obtain⟨⟨kt,et,hk⟩,h⟩:=h;obtain⟨i,d,hi,hd,he,_⟩:=aY hk (by simp);obtain rfl:=rV he;obtain rfl:v=.map none:=by obtain⟨_,m,hv⟩:=hy;cases m<;>exact hv
  cases hq:af3 q with
  |none=>grind
  |some z=>
  rw[hq]at h;obtain⟨p,rfl,hp⟩:∃p:Option Nat,u=.map p/\p.isNone=z:=by
   obtain⟨_,m,j⟩:=hx;cases q with
   |mp K=>
    obtain rfl:=Option.some.inj hq;cases K with
    |none=>exact⟨none,by cases m<;>exact j,rfl⟩
    |some l=>cases m with
     |zero=>exact j.elim
     |succ m=>obtain⟨b,_,_,j,_⟩:=j;grind
   |_=>cases hq
  cases op<;>first|exact h.elim|skip
  ·refine⟨.bool p.isNone,_,fun w=>?_,gE,by grind⟩;have o:(eqGuard .eql t xo yo (.map p) (.map none)).run P w=.ok () w:=by rfl
   rw[Sem.run_bind,o,Result.andThen_ok];simp only[binOp];simp[Op.equal,Op.maxDepth,m5 w 9999 t kt et p hd]
  ·refine⟨.bool (!p.isNone),_,fun w=>?_,gE,by grind⟩;have o:(eqGuard .neq t xo yo (.map p) (.map none)).run P w=.ok () w:=by rfl
   rw[Sem.run_bind,o,Result.andThen_ok];simp only[binOp];simp[Op.equal,Op.maxDepth,m5 w 9999 t kt et p hd]
 |.one (.agg xs),.one (.agg I),h=>
  simp only[Mt]at h;cases hl:P5 P t with
  |none=>grind
  |some l=>
   rw[hl]at h;dsimp only at h;cases hb:jU l (xs.map TD) (I.map TD)with
   |none=>grind
   |some b=>
    rw[hb]at h;obtain⟨us,rfl,hus,f⟩:=hx;obtain⟨vs,rfl,F,g⟩:=hy;unfold P5 at hl;split at hl
    ·rename_i hc;obtain⟨L,J⟩:=hc;have C:∀w:World,(Op.equalIn 10000 t (.agg us) (.agg vs)).run P w=.ok b w:=by
      intro w;split at hl
      ·rename_i E s;obtain rfl:=Option.some.inj hl;have A:∃fs,P.underlying t=some (.struct fs):=by
        grind [ty,eqL,tU]
       obtain⟨fs,e⟩:=A;exact WO (P:=P) (w:=w) (H:=H) 20 10000 t E _ _ us.toList vs.toList (.agg us) (.agg vs) b kQ1 s hb (tz f) (tz g) (by simp[packed,e]) (by simp[packed,e])
      ·exact SF hl hb (tz f) (tz g)
     cases op with
     |eql=>
      refine⟨.bool b,_,?_,gE,h⟩
      grind [Sem.run_bind,run_eqGuard_agg,Result.andThen_ok,run_eql_struct]
     |neq=>
      refine⟨.bool (!b),_,?_,gE,h⟩
      grind [Sem.run_bind,run_eqGuard_agg,Result.andThen_ok,run_neq_struct]
     |_=>grind
    grind
 |.one (.c (.d (.int _ _))),.one (.c (.d b)),h=>exact two _ _ rfl rfl (by
   cases b with
   |mp z=>cases z with
    |none=>exact h.2.elim
    |some r=>exact h
   |_=>exact h)
 |.one (.c (.d (.str _))),.one (.c (.d b)),h=>exact two _ _ rfl rfl (by
   cases b with
   |mp z=>cases z with
    |none=>exact h.2.elim
    |some r=>exact h
   |_=>exact h)
theorem agT{op:UnOp}(h:unK op x k)(hx:AR w H γ m x u):∃z d,(∀w:World,(Op.unary op u).run P w=.ok z w)/\AR w H γ m d z/\k d:=by
 match op,x,h with
 |.not,.one (.c (.d (.bool b))),h=>obtain rfl:=yi hx;exact⟨_,_,fun _=>rfl,gE,h⟩
 |.neg,.one (.c (.d (.int κ n))),h=>obtain⟨rfl,_⟩:=nl hx;exact⟨_,_,fun _=>rfl,mh (wf_wrap _ _),h⟩
 |.xor,.one (.c (.d (.int κ n))),h=>obtain⟨rfl,_⟩:=nl hx;exact⟨_,_,fun _=>rfl,mh (wf_wrap _ _),h⟩
theorem OT:∀{xs:List AV1}{a:List Value}{i:Nat}{x:AV1},ARs w H γ m xs a->xs[i]? = some x->∃y,a[i]? = some y/\AR1 w H γ m x y
 |x::xs,y::a,0,z,h,hz=>by
  simp only[akP,aiX]at hz;subst hz;exact⟨y,rfl,h.1⟩
 |x::xs,y::a,i+1,z,h,hz=>by
  simp only[List.getElem?_cons_succ]at hz⊢;exact OT h.2 hz
 |[],[],i,z,_,hz=>by grind
 |[],_::_,_,_,h,_=>h.elim
 |_::_,[],_,_,h,_=>h.elim
theorem Ja(h:kB x i k)(hx:AR w H γ m x u):∃z d,(∀w:World,(Instr.extract u i).run P w=.ok z w)/\AR w H γ m d z/\k d:=by
 match x,h with
 |.tup vs,h=>
  obtain⟨l,rfl,hl⟩:=hx;simp only[kB]at h;cases hv:vs[i]? with
  |none=>grind
  |some v=>
   rw[hv]at h;obtain⟨y,hy,hr⟩:=OT hl hv;refine⟨y,.one v,?_,hr,h⟩
   simp_all[Instr.extract]
theorem gG{y:Value}(h:FDx H (.li l) y):∃a c,y=.slice a l.length c/\l.length<=c/\l.length<=BIG/\(l=[]\/∃b o e k,a=some ⟨b,o,none⟩/\FEl H k l b o e):=by
 obtain⟨n,h⟩:=h;cases n with
 |zero=>exact h.elim
 |succ n=>
  grind [kj]
theorem Uo{i:AV}{v:Value}(a:(ty P t).k=.str)(h:wT x i k)(hx:AR w H γ m x u)(hi:AR w H γ m i v) :
  ∃z d,(∀w:World,(Instr.index t u v).run P w=.ok z w)/\AR w H γ m d z/\k d:=by
 match x,i,h with
 |.one (.c (.d (.str l))),.one (.c (.d (.int κ n))),h=>
  obtain⟨h0,h⟩:=h;have hn:n.toNat<l.length:=by
   grind
  have h:∀b,l[n.toNat]? = some b->k (sc (.int .u8 b.toNat)):=fun b hb=>by grind
  obtain⟨rfl,_⟩:=Ep hx;obtain⟨rfl,_⟩:=nl hi;obtain⟨_,d,_,hd,he,_⟩:=aY a (by simp);obtain rfl:=Gh he;obtain⟨b,hb⟩:∃b,l[n.toNat]? = some b:=⟨_,aiY hn⟩
  refine⟨.int .u8 b.toNat,_,?_,mh ?_,h b hb⟩
  ·have hget:(⟨l.toArray⟩:ByteArray)[n.toNat]? = some b:=by
    have hs:n.toNat < (⟨l.toArray⟩:ByteArray).size:=by
     show n.toNat<l.toArray.size
     omega
    refine(getElem?_pos (⟨l.toArray⟩:ByteArray) n.toNat hs).trans ?_;rw[aiY hn]at hb;simp only[aiX]at hb;rw[<- hb];rfl
   simp_all[Instr.index,asIntOf,run_underlying]
  ·have:=b.toNat_lt
   simp only[Lit.wf,aiW,decide_eq_true_eq];have h1:IntKind.u8.min=0:=by decide
   have h2:IntKind.u8.max=255:=by decide
   omega
end
def Q3(w:World)(H:FH)(γ:Gam)(m:Mm):Option AV->Option Value->Prop
 |none,none=>True
 |some x,some v=>AR w H γ m x v
 |_,_=>False
variable{hi lo:Option AV}{n:Nat}{vhi vlo:Option Value}
section
variable {P:Program} {w:World} {H:FH} {γ:Gam} {m:Mm}
theorem C6{x:Value}{κ:IntKind}{n:Int}{y:Nat}{a:BoundsCode}(hx:x=.int κ n)(h0:0<=n)(h1:n.toNat<=y):(Instr.sliceBound x y a).run P w=.ok n.toNat w:=by
 grind [Instr.sliceBound,asIntOf,Sem.run_pure]
theorem ko{isS:Bool}{len cap:Nat}{k:Nat->Nat->Prop}
  (f:Q3 w H γ m lo vlo)
  (g:Q3 w H γ m hi vhi)
  (hlc:len<=cap)
  (h:im lo 0 fun a=>im hi len fun b=>k a b) (hk:∀a b,k a b->a<=b/\b<=len) :
  ∃a b,k a b/\∀w:World,(Instr.sliceBounds isS len cap vlo vhi none).run P w=.ok (a,b,cap) w:=by
 have up:∀a,im hi len (fun b=>k a b)->∃b,k a b/\∀e i(w:World),(match vhi,(none:Option Value)with
   |some v,some _=>Instr.sliceBound v cap .slice3B
   |some v,none=>Instr.sliceBound v cap (if isS then e else i)
   |none,none=>pure len
   |none,some _=>stuck "Slice: max without high").run P w=.ok b w:=by
  intro a j;cases hi with
  |none=>
   cases vhi with
   |none=>exact⟨len,j,fun _ _ _=>rfl⟩
   |some _=>exact g.elim
  |some y=>
   cases vhi with
   |none=>exact g.elim
   |some v=>
    match y,j with
    |.one (.c (.d (.int κ n))),j=>
     obtain⟨rfl,_⟩:=nl (w:=w) (H:=H) (γ:=γ) (m:=m) g;have:=hk _ _ j.2
     exact⟨n.toNat,j.2,fun _ _ _=>C6 rfl j.1 kQ1⟩
 cases lo with
 |none=>
  cases vlo with
  |some _=>exact f.elim
  |none=>
   obtain⟨b,h1,h2⟩:=up 0 h;refine⟨0,b,h1,?_⟩;intro w;have h3:=h2 .sliceAcap .sliceAlen w
   grind [Instr.sliceBounds,Sem.run_bind,Sem.run_pure,Result.andThen_ok]
 |some x=>
  cases vlo with
  |none=>exact f.elim
  |some v=>
   match x,h with
   |.one (.c (.d (.int κ n))),h=>
    obtain⟨rfl,_⟩:=nl (w:=w) (H:=H) (γ:=γ) (m:=m) f;obtain⟨h0,h⟩:=h;obtain⟨b,h1,h2⟩:=up n.toNat h;have hb:=hk _ _ h1
    refine⟨n.toNat,b,h1,?_⟩;intro w;have h3:=h2 .sliceAcap .sliceAlen w
    grind [C6,Sem.run_pure,Instr.sliceBounds,Sem.run_bind,Result.andThen_ok]
theorem UW{a0:Option Addr}{c e a b:Nat}(h:FDx H (.li l) (.slice a0 n c))(he:∀x∈l,x.length=e)(j:a<=b)(hb:b<=l.length) :
  FDx H (.li ((l.drop a).take (b-a))) (.slice (if c=a then a0 else a0.map (·.add (a*e))) (b-a) (c-a)):=by
 obtain⟨p,q,h1,h2,h3,h4⟩:=gG h;simp only[Value.slice.injEq]at h1;obtain⟨rfl,rfl,rfl⟩:=h1;have d:((l.drop a).take (b-a)).length=b-a:=by grind
 by_cases hz:b-a=0
 ·have:(l.drop a).take (b-a)=[]:=aj5 kQ1
  rw[this];exact⟨1,kj.2 ⟨_,_,by rw[hz];rfl,by simp,by simp,.inl rfl⟩⟩
 ·rcases h4 with h4|⟨b0,o,e0,k,rfl,h5⟩
  ·grind
  ·have g:c≠a:=by omega
   have f:e0=e:=by
    have:=(h5 0 kQ1).1
    grind
   subst f;refine⟨k+1,kj.2 ⟨_,_,by rw[d,if_neg g],by omega,by omega,.inr ⟨b0,o+a*e0,e0,by simp[dA],fun i hi=>?_⟩⟩⟩;rw[d]at hi;have m:((l.drop a).take (b-a)).getD i []=l.getD (a+i) []:=by
    grind
   rw[m];obtain⟨g1,g2⟩:=h5 (a+i) kQ1
   grind
theorem Uf{k:AV->Prop}(h:mg P t x lo hi k)(hx:AR w H γ m x u)
  (n:Q3 w H γ m lo vlo)
  (p:Q3 w H γ m hi vhi) :
  ∃z d,(∀w:World,(Instr.sliceAt t u vlo vhi none).run P w=.ok z w)/\AR w H γ m d z/\k d:=by
 match x,h with
 |.one (.c (.d (.str l))),h=>
  obtain⟨hk,h⟩:=h;obtain⟨rfl,hl⟩:=Ep hx;obtain⟨_,d,_,hd,he,_⟩:=aY hk (by simp);obtain rfl:=Gh he;have hs:(⟨l.toArray⟩:ByteArray).size=l.length:=by rfl
  obtain⟨a,b,⟨⟨h1,h2⟩,h3⟩,h4⟩:=ko (P:=P) (isS:=false) (len:=l.length) (cap:=l.length) (k:=fun a b=>(a<=b/\b<=l.length)/\k (sc (.str ((l.drop a).take (b-a))))) n p (ai0 _) h (fun a b h=>h.1);refine⟨.string ⟨((l.drop a).take (b-a)).toArray⟩,_,?_,qg ?_,h3⟩
  ·simp_all[Instr.sliceAt,run_underlying,Instr.slice,ByteArray.ext_iff]
  grind
 |.one (.c (.d (.li l))),h=>
  simp only[mg]at h;cases hk:(ty P t).k with
  |sl e=>
   rw[hk]at h;obtain⟨g,f,h⟩:=h;obtain⟨_,d,_,hd,he,_⟩:=aY hk (by simp);obtain rfl:=oS he;obtain⟨i,v,hi,_⟩:=jE g;obtain⟨b0,c,rfl,hc,hb,_⟩:=gG hx.2;obtain⟨a,b,⟨⟨h1,h2⟩,h3⟩,h4⟩:=ko (P:=P) (isS:=true) (len:=l.length) (cap:=c) (k:=fun a b=>(a<=b/\b<=l.length)/\k (sc (.li ((l.drop a).take (b-a))))) n p hc h (fun a b h=>h.1);refine⟨_,sc _,?_,⟨fun _=>rfl,UW hx.2 f h1 h2⟩,h3⟩;intro w;simp only[Instr.sliceAt,Sem.run_bind,run_underlying hd,Result.andThen_ok]
   simp_all[Instr.slice,run_underlying,cG,lN]
  |_=>grind
 |.one (.c .nil),h=>
  simp only[mg]at h;cases hk:(ty P t).k with
  |sl e=>
   rw[hk]at h;obtain⟨g,h⟩:=h;obtain⟨_,d,_,hd,he,_⟩:=aY hk (by simp);obtain rfl:=oS he;obtain⟨i,v,hi,_⟩:=jE g;obtain⟨h0,rfl⟩:=hx;obtain⟨a,b,⟨h1,h2,h3⟩,h4⟩:=ko (P:=P) (isS:=true) (len:=0) (cap:=0) (k:=fun a b=>a<=b/\b<=0/\k (.one (.c .nil))) n p (ai0 _) h (fun a b h=>⟨h.1,h.2.1⟩);obtain rfl:b=0:=by omega
   obtain rfl:a=0:=by omega
   refine⟨.slice none 0 0,.one (.c .nil),?_,⟨fun _=>rfl,rfl⟩,h3⟩
   simp_all[Instr.sliceAt,run_underlying,Instr.slice,cG]
  |_=>grind
 |.one (.c (.el row o)),h=>
  simp only[mg]at h;cases hk:(ty P t).k with
  |ar N e=>
   rw[hk]at h;obtain⟨g,C,hN,A,h⟩:=h;obtain⟨_,d,_,hd,he,_⟩:=aY hk (by simp);obtain rfl:=ad6 he;obtain⟨i,v,hi,_⟩:=jE g;obtain⟨_,b0,o0,kk,rfl,q⟩:=hx;obtain⟨a,b,⟨⟨h1,h2⟩,h3⟩,h4⟩:=ko (P:=P) (isS:=false) (len:=N) (cap:=N) (k:=fun a b=>(a<=b/\b<=N)/\k (sc (.li (((((row.drop o).take N).drop a).take (b-a)).map fun x=>[x])))) n p (ai0 _) h (fun a b h=>h.1);have f:(((((row.drop o).take N).drop a).take (b-a)).map fun x=>[x]).length=b-a:=by grind
   refine⟨.slice (some (if N=a then⟨b0,o0+o,none⟩else(⟨b0,o0+o,none⟩:Addr).add (a*1))) (b-a) (N-a),sc _,?_,⟨fun _=>rfl,?_⟩,h3⟩
   ·simp_all[lN,Instr.sliceAt,run_underlying,Instr.sureAddr,cG]
   ·by_cases hz:b-a=0
    ·have:(((((row.drop o).take N).drop a).take (b-a)).map fun x=>[x])=[]:=aj5 kQ1
     rw[this,hz];exact⟨1,kj.2 ⟨_,_,rfl,by simp,by simp,.inl rfl⟩⟩
    ·have s:N≠a:=by omega
     refine⟨kk+1,kj.2 ⟨_,_,by rw[f,if_neg s],by omega,by grind [BIG],.inr ⟨b0,o0+o+a,1,by simp[dA],fun i hi=>?_⟩⟩⟩;rw[f]at hi;have r:o+(a+i)<row.length:=by omega
     have B:(((((row.drop o).take N).drop a).take (b-a)).map fun x=>[x]).getD i []=[row.getD (o+(a+i)) default]:=by
      grind
     rw[B];refine⟨rfl,fun j hj=>?_⟩;obtain rfl:j=0:=by omega
     obtain⟨y,hy,hf⟩:=q (o+(a+i)) r
     grind
  |_=>grind
end
def Cl(q:Pl):T->T
 |.ow _ _=>.rf q
 |.mp _=>.rf q
 |.it _ _=>.rf q
 |t=>t
def uT(p:Pl)(ts:List T):List T:=ts.zipIdx.map fun x=>Cl (p.add x.2) x.1
theorem ll:∀(p:List Step)(n:Nat),p≠[]->ba p n≠[]:=by
 intro p n h;cases p with
 |nil=>grind
 |cons st r=>cases r<;>simp[ba]
variable{F:Nm->Fp}
section
variable {P:Program} {w:World} {H:FH} {γ:Gam} {m:Mm}
theorem Zs{t:T}{f:Fp}{y:Value}(h:TR w H γ m t f y)(hn:t.owned=false):TR w H γ m t (fun _=>0) y/\∀b,f b=0:=by
 cases t with
 |d x=>exact⟨⟨fun _=>rfl,h.2⟩,h.1⟩
 |nil=>exact⟨⟨fun _=>rfl,h.2⟩,h.1⟩
 |ow sub l=>grind [T.owned]
 |mp l=>grind [T.owned]
 |it c l=>grind [T.owned]
 |el row off=>exact⟨⟨fun _=>rfl,h.2⟩,h.1⟩
 |pl p=>exact⟨⟨fun _=>rfl,h.2⟩,h.1⟩
 |rf p=>exact⟨⟨fun _=>rfl,h.2⟩,h.1⟩
 |any=>exact⟨fun _=>rfl,h⟩
theorem q8{F:Nm->Fp}(B:Mem w H γ m F){q:Pl}(hq:cj m q){t:T}(d:aZ m q=some t) :
  ∃v,plV w γ q=some v/\(∀a,plA w γ q=some a->w.cell? a=some v)/\TR w H γ m (Cl q t) (fun _=>0) v/\∃f,TR w H γ m t f v:=by
 obtain⟨r,hr,hc⟩:=aA.1 hq;have i:=B.roots _ (ak hr)
 obtain⟨n,off,path⟩:=q;dsimp only at hr hc;have E:∀c,F n c<=1:=fun c=>by have:=B.le1 c;have:=bX (F:=F) (ak hr) c;grind
 unfold aZ at d;rw[hr]at d;dsimp only at d;have fin:∀(v:Value)(f:Fp),plV w γ ⟨n,off,path⟩=some v->TR w H γ m t f v->(t.owned=true->iG m ⟨n,off,path⟩)->TR w H γ m (Cl ⟨n,off,path⟩ t) (fun _=>0) v:=by
  intro v f hv hT ho;by_cases C:t.owned=true
  ·cases t with
   |ow sub l=>exact⟨fun _=>rfl,ho rfl,hv⟩
   |mp l=>exact⟨fun _=>rfl,ho rfl,hv⟩
   |it c l=>exact⟨fun _=>rfl,ho rfl,hv⟩
   |_=>grind [T.owned]
  ·have e:Cl ⟨n,off,path⟩ t=t:=by cases t<;>first|rfl|grind [T.owned]
   grind [Zs]
 cases path with
 |nil=>
  dsimp only at d;obtain⟨v,g,j,c2,_⟩:=eB i d;dsimp only at j;refine⟨v,j,fun a p=>?_,fin v g j c2 (fun ho=>?_),g,c2⟩
  ·simp only[plA]at p;cases y:γ n with
   |gh u=>grind
   |blk b=>rw[y]at p j;simp only[aiX]at p;subst p;exact j
  ·rw[cm];refine⟨r,hr,?_⟩;cases t with
   |ow sub l=>simp_all[bF]
   |mp l=>simp_all[bF]
   |it c l=>simp_all[bF]
   |_=>grind [T.owned]
 |cons st u=>
  dsimp only[aT]at hc;dsimp only at d;cases D:r.cells[off]? with
  |none=>grind
  |some tt=>
   rw[D]at hc d;cases tt with
   |ow sub l=>
    dsimp only at d hc;obtain⟨v0,g,j,⟨k,c2⟩,c3⟩:=eB i D;dsimp only at j c3;obtain⟨b,k',z,s,x,cs,ty,fz,f1,I,J,M,K,N,G,L,O,A,_⟩:=yl (st::u) k sub l g v0 c2 (fun b=>by grind) hc;have hz:w.cell? ⟨b,k',none⟩=some z:=by grind [World.cell?]
    have o:plV w γ ⟨n,off,st::u⟩=some z:=by grind [plV]
    rw[G]at d;have hT:TR w H γ m t f1 z/\(t.owned=true->∃s' l',s=.ow s'/\x=.li l'):=by
     cases s with
     |fr=>
      simp only[aiX]at d;subst d;exact⟨fZ.1 A,fun h=>by simp[T.owned]at h⟩
     |ow s'=>cases x with
      |li l'=>
       simp only[aiX]at d;subst d;exact⟨⟨k,A⟩,fun _=>⟨s',l',rfl,rfl⟩⟩
      |any=>
       simp only[aiX]at d;subst d;refine⟨?_,fun h=>by simp[T.owned]at h⟩;show ∀b,f1 b=0
       grind [OD]
      |_=>grind [OD]
    refine⟨z,o,fun a p=>?_,fin z f1 o hT.1 (fun ho=>?_),f1,hT.1⟩
    ·grind [plA]
    ·obtain⟨s',l',rfl,rfl⟩:=hT.2 ho
     simp_all[cm,bF]
   |_=>grind
theorem abP:∀(p:List Step)(sub:List Sh)(l:List (List D))(n k:Nat),okO sub l p->xG sub p=some k->n<k->okO sub l (ba p n):=by
 intro p;induction p with
 |nil=>intro sub l n k h;exact h.elim
 |cons st r ih=>
  intro sub l n k h hr hn;cases r with
  |nil=>
   obtain⟨h1,h2,h3⟩:=h;simp only[xG,aiX]at hr;exact⟨h1,h2,by grind⟩
  |cons t u=>
   obtain⟨h1,h2⟩:=h;cases hs:sub[st.off]? with
   |none=>grind
   |some s=>
    rw[hs]at h2;cases s with
    |fr=>grind
    |ow s=>
     cases hd:(l.getD st.idx []).getD st.off default with
     |li l'=>
      rw[hd]at h2;simp only[xG,hs]at hr;have:=ih s l' n k h2 hr hn
      cases u<;>grind [ba,okO]
     |_=>grind
theorem AT{p:Pl}(h:cj m p)(hr:jd m p n):cj m (p.add n):=by
 obtain⟨r,h1,h2⟩:=aA.1 h;obtain⟨nm,off,path⟩:=p;dsimp only at h1 h2;unfold jd room at hr;rw[h1]at hr;dsimp only at hr;rw[aA];cases path with
 |nil=>
  grind [Pl.add,aT]
 |cons st u=>
  refine⟨r,by grind [Pl.add],?_⟩;dsimp only[aT]at h2;simp only[Pl.add];cases b:r.cells[off]? with
  |none=>grind
  |some t=>
   rw[b]at h2 hr;cases t with
   |ow sub l=>
    dsimp only at h2 hr;cases a:xG sub (st::u)with
    |none=>grind
    |some k=>
     rw[a]at hr;have:=abP (st::u) sub l n k h2 a hr
     cases c:ba (st::u) n<;>grind [aT]
   |_=>grind
theorem Uw:∀(p:List Step)(y:Value)(n b k:Nat),bv w y p=some ⟨b,k,none⟩->bv w y (ba p n)=some ⟨b,k+n,none⟩:=by
 intro p;induction p with
 |nil=>grind [bv]
 |cons st r ih=>
  intro y n b k h;cases y with
  |slice a len c=>
   cases a with
   |none=>grind [bv]
   |some a=>
    obtain⟨b0,o,sp⟩:=a;cases sp with
    |some _=>grind [bv]
    |none=>
     cases r<;>grind [bv,ba]
  |_=>grind [bv]
theorem yA{p:Pl}{b k:Nat}(h:plA w γ p=some ⟨b,k,none⟩):plA w γ (p.add n)=some ⟨b,k+n,none⟩:=by
 obtain⟨nm,off,path⟩:=p;cases path with
 |nil=>
  grind [plA,Pl.add]
 |cons st u=>
  simp only[plA]at h;simp only[Pl.add,plA];cases c:ba (st::u) n with
  |nil=>grind [ll]
  |cons a b'=>
   dsimp only;cases hv:aI w (γ nm) off<;>grind [Uw]
theorem pT(d:Mem w H γ m F){p:Pl}(c:cj m p){a:Addr}(h:plA w γ p=some a):∃b k,a=⟨b,k,none⟩:=by
 obtain⟨b,k,sp⟩:=a;have:=(A3 d c h).2
 grind
def mkL:Option (Sh×D)->Option T
 |some (s,x)=>some (mkT s x)
 |none=>none
theorem afX:∀(p:List Step)(sub:List Sh)(l:List (List D))(n:Nat)(k:List T->Prop),(∀N,wfO N sub l)->okO sub l p->inK sub l n p k ->
  ∃ts:List T,ts.length=n/\k ts/\∀j t,ts[j]? = some t->okO sub l (ba p j)/\mkL (bJ sub l (ba p j))=some t:=by
 intro p;induction p with
 |nil=>intro sub l n k _ h;exact h.elim
 |cons st r ih=>
  intro sub l n k c b a;cases r with
  |nil=>
   obtain⟨h1,h2,h3⟩:=b;obtain⟨hn,a⟩:=a;have hx:l[st.idx]? = some l[st.idx]:=aiY h1
   have g:(l[st.idx]).length=sub.length:=(c 1).1 _ (ak6 h1)
   have q:l.getD st.idx []=l[st.idx]:=by grind
   rw[hx]at a;refine⟨_,?_,a,fun j t hj=>?_⟩
   ·grind
   ·have e:j<n:=by grind
    simp only[List.getElem?_zipWith]at hj;rw[List.getElem?_take_of_lt e,List.getElem?_take_of_lt e,ak7,ak7]at hj;have hs:sub[st.off+j]? = some (sub[st.off+j]' kQ1):=aiY kQ1
    have hd:(l[st.idx])[st.off+j]? = some ((l[st.idx])[st.off+j]' kQ1):=aiY kQ1
    rw[hs,hd]at hj;simp only[aiX]at hj;refine⟨⟨h1,h2,by grind⟩,?_⟩
    grind [ba,bJ,mkL]
  |cons t u=>
   obtain⟨⟨h1,h2,h3⟩,b⟩:=b;have hx:l[st.idx]? = some l[st.idx]:=aiY h1
   have q:l.getD st.idx []=l[st.idx]:=by grind
   unfold inK at a;rw[hx]at a;dsimp only at a;cases hs:sub[st.off]? with
   |none=>grind
   |some s=>
    rw[hs]at b a;cases s with
    |fr=>grind
    |ow s=>
     cases hd:(l[st.idx])[st.off]? with
     |none=>grind
     |some d=>
      have f:(l.getD st.idx []).getD st.off default=d:=by grind
      rw[f]at b;rw[hd]at a;cases d with
      |li l'=>
       dsimp only at a b;obtain⟨ts,m,i,o⟩:=ih s l' n k (fun N=>(c (N+1)).2 st.idx st.off s l' hs f) b a;refine⟨ts,m,i,fun j t' hj=>?_⟩;obtain⟨v,w⟩:=o j t' hj;cases u<;>grind [ba,okO,bJ]
      |_=>grind
theorem Mp(B:Mem w H γ m F){p:Pl}(o:cj m p){k:List T->Prop}(h:atK m p n k) :
  ∃ts:List T,ts.length=n/\k ts/\∀j t,ts[j]? = some t->aZ m (p.add j)=some t/\cj m (p.add j):=by
 obtain⟨r,h1,h2⟩:=aA.1 o;obtain⟨nm,off,path⟩:=p;dsimp only at h1 h2;unfold atK at h;rw[h1]at h;dsimp only at h;cases path with
 |nil=>
  grind [Pl.add,aZ,aA,aT]
 |cons st u=>
  dsimp only[aT]at h2;cases i:r.cells[off]? with
  |none=>grind
  |some t=>
   rw[i]at h2 h;cases t with
   |ow sub l=>
    dsimp only at h2 h;have q:∀N,wfO N sub l:=by
     intro N;obtain⟨v,g,_,⟨k,c2⟩,_⟩:=eB (B.roots _ (ak h1)) i
     grind [Ez]
    obtain⟨ts,z,y,A⟩:=afX (st::u) sub l n k q h2 h;refine⟨ts,z,y,fun j t' hj=>?_⟩;obtain⟨C,c⟩:=A j t' hj;cases f:ba (st::u) j with
    |nil=>grind [ll]
    |cons a b=>
     rw[f]at C c;refine⟨?_,?_⟩
     ·simp only[Pl.add,f,aZ,h1,i];cases e:bJ sub l (a::b)with
      |none=>rw[e]at c;exact c
      |some x=>
       obtain⟨s,d⟩:=x;rw[e]at c;cases s with
       |fr=>exact c
       |ow s=>cases d<;>exact c
     grind [aA,Pl.add,aT]
   |_=>grind
end
def gL(P:Program)(m:Mm)(t:TypeId)(x:AV)(i:Nat)(k:AV->Prop):Prop:=
 match(ty P t).k with
 |.st fs=>match fs[i]? with
  |some (off,size,_)=>size≠0/\match x with
   |.one (.c (.pl p))=>jd m p off/\k (.one (.c (.pl (p.add off))))
   |.one (.c (.el row o))=>k (.one (.c (.el row (o+off))))
   |_=>False
  |none=>False
 |_=>False
def Pl.at(p:Pl)(i e:Nat):Pl:={ p with path:=p.path++[⟨i,e,0⟩] }
def gO(P:Program)(m:Mm)(t:TypeId)(x i:AV)(k:AV->Prop):Prop:=
 match i with
 |.one (.c (.d (.int _ n)))=>match(ty P t).k,x with
  |.sl e,.one (.c (.d (.li l)))=>(ty P e).ok=true/\0<=n/\match l[n.toNat]? with
   |some row=>row.length=(ty P e).size/\k (.one (.c (.el row 0)))
   |none=>False
  |.sl e,.one (.c (.rf p))=>(ty P e).ok=true/\(ty P e).size≠0/\atK m p 1 fun ts=>match ts with
   |[.ow sub l]=>(0<=n/\n<l.length)/\sub.length=(ty P e).size/\k (.one (.c (.pl (p.at n.toNat (ty P e).size))))
   |_=>False
  |.ar N e,.one (.c (.pl p))=>(ty P e).ok=true/\(0<=n/\n<N)/\jd m p (n.toNat*(ty P e).size)/\k (.one (.c (.pl (p.add (n.toNat*(ty P e).size)))))
  |.ar N e,.one (.c (.el row o))=>(ty P e).ok=true/\(0<=n/\n<N)/\k (.one (.c (.el row (o+n.toNat*(ty P e).size))))
  |_,_=>False
 |_=>False
def XZ:T->Prop
 |.d x=>okv x
 |_=>True
def Qo:List T->Prop
 |[]=>True
 |t::ts=>XZ t/\Qo ts
def uC(P:Program)(m:Mm)(t:TypeId)(x:AV)(k:AV->Prop):Prop:=
 (ty P t).ok=true/\match x with
 |.one (.c (.el row o))=>if(ty P t).agg=true then o+(ty P t).size<=row.length/\(okvs ((row.drop o).take (ty P t).size)->k (.one (.agg (((row.drop o).take (ty P t).size).map T.d))))
  else match row[o]? with
   |some x=>okv x->k (sc x)
   |none=>False
 |.one (.c (.pl p))=>if(ty P t).agg=true then atK m p (ty P t).size fun ts=>Qo ts->k (.one (.agg (uT p ts)))
  else atK m p 1 fun ts=>match ts with
   |[t']=>XZ t'->k (.one (.c (Cl p t')))
   |_=>False
 |_=>False
def vW(P:Program)(t:TypeId)(x:AV)(i:Nat)(k:AV->Prop):Prop:=
 match(ty P t).k,x with
 |.st fs,.one (.agg ts)=>match fs[i]? with
  |some (off,size,some false)=>match ts[off]? with
   |some t'=>k (.one (.c t'))
   |none=>False
  |some (off,size,some true)=>off+size<=ts.length/\k (.one (.agg ((ts.drop off).take size)))
  |_=>False
 |_,_=>False
def mV(x:AV)(k:AV->Prop):Prop:=
 match x with
 |.one (.c (.pl p))=>k x
 |.one (.c (.el row o))=>k x
 |_=>False
variable{ts:List T}{vs:List Value}
section
variable {P:Program} {w:World} {H:FH} {γ:Gam} {m:Mm}
theorem tR(hl:vs.length=ts.length)(h:∀(i:Nat) (t:T),ts[i]? = some t->∃v,vs[i]? = some v/\TR w H γ m t (fun _=>0) v):Ts (TR w H γ m) ts (fun _=>0) vs:=by
 induction ts generalizing vs with
 |nil=>exact fun _=>rfl
 |cons t ts ih=>
  cases vs with
  |nil=>grind
  |cons v vs=>
   obtain⟨b,hv,a⟩:=h 0 t rfl;simp only[akP,aiX]at hv;subst hv;refine⟨v,vs,fun _=>0,fun _=>0,rfl,fun _=>rfl,a,ih (by grind) (fun i t' c=>?_)⟩;obtain⟨b,hv,a⟩:=h (i+1) t' (by grind)
   grind
theorem EE{f:Fp}(h:Ts (TR w H γ m) ts f vs){t:T}(a:ts[i]? = some t):∃v g,vs[i]? = some v/\TR w H γ m t g v/\∀b,g b<=f b:=by
 obtain⟨_,v,g,_,h2,h3,h4⟩:=r9 h a
 grind
theorem EF(h:Ts (TR w H γ m) ts (fun _=>0) vs){t:T}(a:ts[i]? = some t):∃v,vs[i]? = some v/\TR w H γ m t (fun _=>0) v:=by
 obtain⟨v,g,h1,h2,h3⟩:=EE h a;have e:g=fun _=>0:=by grind
 grind
theorem BK(hn:n<=BIG):(Lit.int .i64 (n:Int)).wf=true:=by
 simp only[Lit.wf,aiW,decide_eq_true_eq];have h1:IntKind.i64.min=-9223372036854775808:=by decide
 have h2:IntKind.i64.max=9223372036854775807:=by decide
 grind [BIG]
theorem Yx(j:Mem w H γ m F){p:Pl}(hx:TR w H γ m (.rf p) (fun _=>0) u){k:List T->Prop}(h:atK m p 1 k) :
  ∃t,k [t]/\aZ m p=some t/\cj m p/\plV w γ p=some u/\∃f,TR w H γ m t f u:=by
 obtain⟨_,hr,hv⟩:=hx;have e:=fC hr
 obtain⟨ts,g,l,i⟩:=Mp j e h
 match ts,g with
 |[t],_=>
  obtain⟨g1,g2⟩:=i 0 t rfl;have hp:p.add 0=p:=by
   obtain⟨n,o,path⟩:=p;cases path with
   |nil=>rfl
   |cons st r=>
    simp only[Pl.add];have:∀q:List Step,ba q 0=q:=by
     intro q;induction q with
     |nil=>rfl
     |cons a b ih=>cases b with
      |nil=>rfl
      |cons c d=>grind [ba]
    rw[this]
  grind [q8]
theorem add_zero(p:Pl):p.add 0=p:=by
 obtain⟨n,o,path⟩:=p;cases path with
 |nil=>rfl
 |cons st r=>
  simp only[Pl.add];have:∀q:List Step,ba q 0=q:=by
   intro q;induction q with
   |nil=>rfl
   |cons a b ih=>cases b with
    |nil=>rfl
    |cons c d=>grind [ba]
  rw[this]
def qH:AV->Bool
 |.one (.c (.d (.str _)))=>true
 |_=>false
theorem abF(a:Mem w H γ m F){k:Nat->Prop}(h:Ki m x k)(hx:AR w H γ m x u) :
  ∃n:Nat,k n/\(Lit.int .i64 (n:Int)).wf=true/\((∃l:Array UInt8,u=.string ⟨l⟩/\l.size=n/\qH x=true)\/∃b c,u=.slice b n c/\qH x=false):=by
 match x,h with
 |.one (.c (.d (.str l))),h=>
  obtain⟨rfl,hl⟩:=Ep hx;exact⟨l.length,h hl,BK hl,.inl ⟨_,rfl,by simp,rfl⟩⟩
 |.one (.c (.d (.li l))),h=>
  obtain⟨b,c,rfl,_,hl,_⟩:=gG hx.2;exact⟨l.length,h hl,BK hl,.inr ⟨_,_,rfl,rfl⟩⟩
 |.one (.c .nil),h=>
  obtain⟨_,rfl⟩:=hx;exact⟨0,h,BK (ajW _),.inr ⟨_,_,rfl,rfl⟩⟩
 |.one (.c (.rf p)),h=>
  simp only[Ki]at h;obtain⟨t,h1,_,_,_,f,h2⟩:=Yx a hx h;cases t with
  |ow sub l=>
   obtain⟨j,h2⟩:=h2;cases j with
   |zero=>simp[OD]at h2
   |succ j=>
    obtain⟨b,c,_,_,rfl,_,hl,_⟩:=mm h2;exact⟨l.length,h1 hl,BK hl,.inr ⟨_,_,rfl,rfl⟩⟩
  |_=>grind
theorem BU(s:Mem w H γ m F)(h:gL P m t x i k)(hx:AR w H γ m x u) :
  ∃z d,(∀w:World,(Instr.fieldAt t u i).run P w=.ok z w)/\AR w H γ m d z/\k d:=by
 unfold gL at h;cases hk:(ty P t).k with
 |st fs=>
  rw[hk]at h;dsimp only at h;obtain⟨_,d,_,hd,he,_⟩:=aY hk (by simp);obtain⟨l,rfl,rfl⟩:=ad7 he;cases hf:(l.toList.map fun f=>(f.offset,P.cellsOf f.type,VI P f.type))[i]? with
  |none=>grind
  |some q=>
   obtain⟨off,size,A⟩:=q;rw[hf]at h;obtain⟨h0,h⟩:=h;simp only[ai4,ajF,Prod.mk.injEq]at hf;obtain⟨f,v,rfl,rfl,rfl⟩:=hf;have y:l[i]? = some f:=by grind
   have g:∃i,P.info? f.type=some i:=by
    cases hi:P.info? f.type<;>grind [Program.cellsOf]
   obtain⟨it,hit⟩:=g;have run:∀b o(w:World),(Instr.fieldAt t (.pointer (some ⟨b,o,none⟩)) i).run P w=.ok (.pointer (some ⟨b,o+f.offset,none⟩)) w:=by
    simp_all[Instr.fieldAt,run_underlying,Instr.sureAddr,fieldPlace,cG,dA]
   match x,h with
   |.one (.c (.pl p)),h=>
    obtain⟨hr,h⟩:=h;obtain⟨hz,e,a,r,rfl⟩:=hx;obtain⟨b,o,rfl⟩:=pT s e r;exact⟨_,.one (.c (.pl (p.add f.offset))),run b o,⟨fun _=>rfl,AT e hr,_,yA r,rfl⟩,h⟩
   |.one (.c (.el row o)),h=>
    obtain⟨hz,b,o',n,rfl,j⟩:=hx;exact⟨_,.one (.c (.el row (o+f.offset))),run b (o'+o),⟨fun _=>rfl,b,o',n,by grind,j⟩,h⟩
 |_=>grind
end
end Go.Am
end
