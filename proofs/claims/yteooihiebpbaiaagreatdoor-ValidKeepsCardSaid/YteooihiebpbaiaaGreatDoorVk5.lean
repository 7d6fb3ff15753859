/-
  Part 5: AmValOk · AmPtr · AmPlace · AmLoad.
-/
import Derived.Test.YteooihiebpbaiaaGreatDoorVk4
import Derived.ChangeKeysEq
set_option linter.unusedSimpArgs false
set_option linter.unusedVariables false
set_option linter.unusedSectionVars false
set_option linter.unnecessarySimpa false
section
namespace Go.Am
theorem oz{P:Program}{d:TypeDesc}{k e:TypeId}(h:eC P d=.mp k e):d=.map k e:=by cases d<;>simp[eC]at h;obtain⟨rfl,rfl⟩:=h;rfl
theorem kU{P:Program}(w:World)(d:Nat)(t k e:TypeId)(p:Option Nat)(h:P.underlying t=some (.map k e)):(Op.equalIn (d+1) t (.map p) (.map none)).run P w=.ok p.isNone w:=by
 cases p<;>simp[Op.equalIn,run_underlying h]
theorem KZ{P:Program}{w:World}{H:FH}{t:TypeId}{l:List (Nat×CK)}{xs ys:List D}{us vs:Array Value}{b:Bool}(h:Oe P t=some l)(hb:gJ l xs ys=some b)(hx:Cells H xs us.toList)(hy:Cells H ys vs.toList):(Op.equalIn 10000 t (.agg us) (.agg vs)).run P w=.ok b w:=by
 unfold Oe at h;split at h
 ·rename_i n e hu;split at h
  ·rename_i ck hck;split at h
   ·rename_i hc;obtain rfl:=Option.some.inj h;have hund:∃td,P.underlying e=some td/\pJ td=false:=by
     simp only[eqL]at hck;cases hu2:P.underlying e with
     |none=>rw[hu2]at hck;simp at hck
     |some td=>
      rw[hu2]at hck;cases td with
      |struct fs=>
       exfalso
       dsimp only at hck;split at hck
       ·simp at hck
       ·cases hfs:fs.toList with
        |nil=>rw[hfs]at hck;simp at hck
        |cons f r=>rw[hfs]at hck;simp at hck
      |int k=>exact⟨_,rfl,rfl⟩
      |string=>exact⟨_,rfl,rfl⟩
      |bool=>exact⟨_,rfl,rfl⟩
      |_=>simp at hck
    obtain⟨td,hund,hagg⟩:=hund;obtain⟨i,hi⟩:=zt hund;rw[run_equalIn_array (P:=P) (w:=w) 9999 us vs hu hi,hc];have key:∀(is:List Nat)(b:Bool),gJ (is.map fun i=>(i,ck)) xs ys=some b->(Op.eqItems 9999 e 1 us vs is).run P w=.ok b w:=by
     intro is;induction is with
     |nil=>
      intro b hb;simp only[List.map_nil,gJ,WG]at hb;subst hb;simp[Op.eqItems]
     |cons j is ih=>
      intro b hb;rw[List.map_cons]at hb;obtain⟨x,y,b1,c1,h1,h2,h3,h4,rfl⟩:=kA hb;obtain⟨u,hu1,hu2⟩:=hx _ _ h1;obtain⟨v,hv1,hv2⟩:=hy _ _ h2;have p1:=eB (P:=P) (w:=w) hund hagg (us:=us.toList) (off:=j*1) (by rw[Nat.mul_one];exact hu1)
      have p2:=eB (P:=P) (w:=w) hund hagg (us:=vs.toList) (off:=j*1) (by rw[Nat.mul_one];exact hv1)
      have hpk:∀z:Value,packed P e [z] z:=by
       intro z;simp only[packed,hund];cases td<;>first|rfl|(simp[pJ]at hagg)
      have one:∀{zs:D}{z:Value},FDx H zs z->Cells H [zs] [z]:=by
       intro zs z hz i x hxi;cases i with
       |zero=>simp only[Xi,WG]at hxi;subst hxi;exact⟨z,rfl,hz⟩
       |succ i=>simp at hxi
      have p3:=Og (P:=P) (w:=w) (H:=H) 1 9999 e [(0,ck)] [x] [y] [u] [v] u v b1 Z1 hck (by simp[gJ,h3]) (one hu2) (one hv2) (hpk u) (hpk v)
      have rest:=ih c1 h4
      simp only[Op.eqItems,Sem.run_bind];rw[show us=us.toList.toArray from by simp,show vs=vs.toList.toArray from by simp]at *;rw[p1,Result.andThen_ok,p2,Result.andThen_ok,p3,Result.andThen_ok];cases b1 with
      |true=>simpa using rest
      |false=>simp
    exact key _ _ hb
   ·cases h
  ·cases h
 ·cases h
section
variable {P:Program} {w:World} {H:FH} {γ:Gam} {m:Mm}
theorem Pk{c x y:AV}{k:AV->Prop}{vc vx vy:Value}(h:Di c x y k)(hc:AR w H γ m c vc)(hx:AR w H γ m x vx)(hy:AR w H γ m y vy) :
  ∃b v,vc=.bool b/\AR w H γ m v (if b then vx else vy)/\k v:=by
 match c,h with
 |.one (.c (.d (.bool b))),h=>
  obtain rfl:=tc hc;cases b with
  |true=>exact⟨true,x,rfl,hx,h⟩
  |false=>exact⟨false,y,rfl,hy,h⟩
theorem pv:∀{ts:List T}{f:Fp}{us:List Value},Ts (TR w H γ m) ts f us->Cells H (ts.map TD) us:=by
 intro ts f us h i x hx;simp only[WK,WW]at hx;obtain⟨t,ht,rfl⟩:=hx;obtain⟨_,v,g,_,h2,h3,_⟩:=oC h ht;refine⟨v,h2,?_⟩;cases t with
 |d x=>exact h3.2
 |_=>exact⟨0,trivial⟩
theorem QE{op:BinOp}{t:TypeId}{xo yo:Operand}{x y:AV}{k:AV->Prop}{u v:Value}(h:EM P op t x y k)(hx:AR w H γ m x u)(hy:AR w H γ m y v) :
  ∃z d,(∀w:World,(do eqGuard op t xo yo u v;binOp op t u v:Sem Value).run P w=.ok z w)/\AR w H γ m d z/\k d:=by
 have two:∀(a b:D),x=sc a->y=sc b->q9 op a b (fun d=>k (sc d))->∃z d,(∀w:World,(do eqGuard op t xo yo u v;binOp op t u v:Sem Value).run P w=.ok z w)/\AR w H γ m d z/\k d:=by
  intro a b ha hb hD;subst ha;subst hb;obtain⟨z,d,h1,h2,h3⟩:=QD (P:=P) (t:=t) hx.2 hy.2 hD;refine⟨z,sc d,?_,⟨fun _=>rfl,h2⟩,h3⟩;intro w;have hg:(eqGuard op t xo yo u v).run P w=.ok () w:=by
   cases a with
   |int κ n=>
    obtain⟨rfl,_⟩:=dL hx.2;unfold eqGuard;cases op<;>rfl
   |str l=>
    obtain⟨rfl,_⟩:=fm hx.2;unfold eqGuard;cases op<;>rfl
   |_=>exact hD.elim
  rw[Sem.run_bind,hg,Result.andThen_ok,h1]
 match x,y,h with
 |.one (.c (.d (.bool a))),.one (.c (.d (.bool b))),h=>
  obtain⟨hk,h⟩:=h;obtain rfl:=tc hx;obtain rfl:=tc hy;obtain⟨i,d,hi,hd,he,_⟩:=aP hk (by simp);obtain rfl:=SR he;cases op<;>first|exact h.elim|skip
  ·refine⟨.bool (a==b),_,?_,eJ,h⟩;intro w;rw[Sem.run_bind];have hg:(eqGuard .eql t xo yo (.bool a) (.bool b)).run P w=.ok () w:=rfl
   rw[hg,Result.andThen_ok];simp only[binOp];simp[Op.equal,Op.maxDepth,run_equalIn_bool' w 9999 t a b hd]
  ·refine⟨.bool (!(a==b)),_,?_,eJ,h⟩;intro w;rw[Sem.run_bind];have hg:(eqGuard .neq t xo yo (.bool a) (.bool b)).run P w=.ok () w:=rfl
   rw[hg,Result.andThen_ok];simp only[binOp];simp[Op.equal,Op.maxDepth,run_equalIn_bool' w 9999 t a b hd]
 |.one (.c (.d q)),.one (.c (.d (.mp none))),h=>
  have h:UI P op t q k:=by cases q<;>exact h
  obtain⟨⟨kt,et,hk⟩,h⟩:=h;obtain⟨i,d,hi,hd,he,_⟩:=aP hk (by simp);obtain rfl:=oz he;obtain rfl:v=.map none:=by obtain⟨_,m,hv⟩:=hy;cases m<;>exact hv
  cases hq:UH q with
  |none=>rw[hq]at h;exact h.elim
  |some z=>
  rw[hq]at h;obtain⟨p,rfl,hp⟩:∃p:Option Nat,u=.map p/\p.isNone=z:=by
   obtain⟨_,m,hu⟩:=hx;cases q with
   |mp z'=>
    obtain rfl:=Option.some.inj hq;cases z' with
    |none=>exact⟨none,by cases m<;>exact hu,rfl⟩
    |some l=>cases m with
     |zero=>exact hu.elim
     |succ m=>obtain⟨b,_,_,hu,_⟩:=hu;exact⟨some b,hu,rfl⟩
   |_=>cases hq
  cases op<;>first|exact h.elim|skip
  ·refine⟨.bool p.isNone,_,fun w=>?_,eJ,by rw[hp];exact h⟩;have hg:(eqGuard .eql t xo yo (.map p) (.map none)).run P w=.ok () w:=by cases p<;>rfl
   rw[Sem.run_bind,hg,Result.andThen_ok];simp only[binOp];simp[Op.equal,Op.maxDepth,kU w 9999 t kt et p hd]
  ·refine⟨.bool (!p.isNone),_,fun w=>?_,eJ,by rw[hp];exact h⟩;have hg:(eqGuard .neq t xo yo (.map p) (.map none)).run P w=.ok () w:=by cases p<;>rfl
   rw[Sem.run_bind,hg,Result.andThen_ok];simp only[binOp];simp[Op.equal,Op.maxDepth,kU w 9999 t kt et p hd]
 |.one (.agg xs),.one (.agg ys),h=>
  simp only[EM]at h;cases hl:BW P t with
  |none=>rw[hl]at h;exact h.elim
  |some l=>
   rw[hl]at h;dsimp only at h;cases hb:gJ l (xs.map TD) (ys.map TD)with
   |none=>rw[hb]at h;exact h.elim
   |some b=>
    rw[hb]at h;obtain⟨us,rfl,hus,hxs⟩:=hx;obtain⟨vs,rfl,hvs,hys⟩:=hy;unfold BW at hl;split at hl
    ·rename_i hc;obtain⟨hgt,hag⟩:=hc;have hrun:∀w:World,(Op.equalIn 10000 t (.agg us) (.agg vs)).run P w=.ok b w:=by
      intro w;split at hl
      ·rename_i l0 hl0;obtain rfl:=Option.some.inj hl;have hty:∃fs,P.underlying t=some (.struct fs):=by
        have hok:(ty P t).ok=true:=by
         unfold ty at hag⊢;split at hag
         ·rfl
         ·simp at hag
        obtain⟨i,d,h1,h2,h3,_⟩:=eE hok;rw[hag]at h3;cases d with
        |struct fs=>exact⟨fs,h2⟩
        |array n e=>simp[eqL,h2]at hl0
        |_=>simp[pJ]at h3
       obtain⟨fs,hfs⟩:=hty;exact Og (P:=P) (w:=w) (H:=H) 20 10000 t l0 _ _ us.toList vs.toList (.agg us) (.agg vs) b Z1 hl0 hb (pv hxs) (pv hys) (by simp[packed,hfs]) (by simp[packed,hfs])
      ·exact KZ hl hb (pv hxs) (pv hys)
     cases op with
     |eql=>
      refine⟨.bool b,_,?_,eJ,h⟩;intro w;rw[Sem.run_bind,run_eqGuard_agg w _ t xo yo us vs hgt,Result.andThen_ok,run_eql_struct,hrun,Result.andThen_ok]
     |neq=>
      refine⟨.bool (!b),_,?_,eJ,h⟩;intro w;rw[Sem.run_bind,run_eqGuard_agg w _ t xo yo us vs hgt,Result.andThen_ok,run_neq_struct,hrun,Result.andThen_ok]
     |_=>exact h.elim
    ·simp at hl
 |.one (.c (.d (.int _ _))),.one (.c (.d b)),h=>exact two _ _ rfl rfl (by
   cases b with
   |mp z=>cases z with
    |none=>exact h.2.elim
    |some r=>exact h
   |_=>exact h)
 |.one (.c (.d (.str _))),.one (.c (.d b)),h=>exact two _ _ rfl rfl (by
   cases b with
   |mp z=>cases z with
    |none=>exact h.2.elim
    |some r=>exact h
   |_=>exact h)
theorem U0{op:UnOp}{x:AV}{k:AV->Prop}{u:Value}(h:unK op x k)(hx:AR w H γ m x u):∃z d,(∀w:World,(Op.unary op u).run P w=.ok z w)/\AR w H γ m d z/\k d:=by
 match op,x,h with
 |.not,.one (.c (.d (.bool b))),h=>obtain rfl:=tc hx;exact⟨_,_,fun _=>rfl,eJ,h⟩
 |.neg,.one (.c (.d (.int κ n))),h=>obtain⟨rfl,_⟩:=ld hx;exact⟨_,_,fun _=>rfl,ke (wf_wrap _ _),h⟩
 |.xor,.one (.c (.d (.int κ n))),h=>obtain⟨rfl,_⟩:=ld hx;exact⟨_,_,fun _=>rfl,ke (wf_wrap _ _),h⟩
theorem GV:∀{xs:List AV1}{ys:List Value}{i:Nat}{x:AV1},ARs w H γ m xs ys->xs[i]? = some x->∃y,ys[i]? = some y/\AR1 w H γ m x y
 |x::xs,y::ys,0,z,h,hz=>by
  simp only[Xi,WG]at hz;subst hz;exact⟨y,rfl,h.1⟩
 |x::xs,y::ys,i+1,z,h,hz=>by
  simp only[Xx]at hz⊢;exact GV h.2 hz
 |[],[],i,z,_,hz=>by simp at hz
 |[],_::_,_,_,h,_=>h.elim
 |_::_,[],_,_,h,_=>h.elim
theorem BY{x:AV}{i:Nat}{k:AV->Prop}{u:Value}(h:iO x i k)(hx:AR w H γ m x u):∃z d,(∀w:World,(Instr.extract u i).run P w=.ok z w)/\AR w H γ m d z/\k d:=by
 match x,h with
 |.tup vs,h=>
  obtain⟨l,rfl,hl⟩:=hx;simp only[iO]at h;cases hv:vs[i]? with
  |none=>rw[hv]at h;exact h.elim
  |some v=>
   rw[hv]at h;obtain⟨y,hy,hr⟩:=GV hl hv;refine⟨y,.one v,?_,hr,h⟩;intro w;have hy':l[i]? = some y:=by simpa using hy
   simp[Instr.extract,hy']
theorem eK{l:List (List D)}{y:Value}(h:FDx H (.li l) y):∃a c,y=.slice a l.length c/\l.length<=c/\l.length<=BIG/\(l=[]\/∃b o e k,a=some ⟨b,o,none⟩/\FEl H k l b o e):=by
 obtain⟨n,h⟩:=h;cases n with
 |zero=>exact h.elim
 |succ n=>
  obtain⟨a,c,h1,h2,h3,h4⟩:=kh.1 h;refine⟨a,c,h1,h2,h3,?_⟩;rcases h4 with h4|⟨b,o,e,h5,h6⟩
  ·exact .inl h4
  ·exact .inr ⟨b,o,e,n,h5,h6⟩
theorem Md{t:TypeId}{x i:AV}{k:AV->Prop}{u v:Value}(ht:(ty P t).k=.str)(h:r8 x i k)(hx:AR w H γ m x u)(hi:AR w H γ m i v) :
  ∃z d,(∀w:World,(Instr.index t u v).run P w=.ok z w)/\AR w H γ m d z/\k d:=by
 match x,i,h with
 |.one (.c (.d (.str l))),.one (.c (.d (.int κ n))),h=>
  obtain⟨h0,h⟩:=h;have hn:n.toNat<l.length:=by
   rcases W4 n.toNat l.length with h'|h'
   ·exact h'
   ·rw[W8 h']at h;exact h.elim
  have h:∀b,l[n.toNat]? = some b->k (sc (.int .u8 b.toNat)):=fun b hb=>by rw[hb]at h;exact h
  obtain⟨rfl,_⟩:=yC hx;obtain⟨rfl,_⟩:=ld hi;obtain⟨_,d,_,hd,he,_⟩:=aP ht (by simp);obtain rfl:=Ak he;obtain⟨b,hb⟩:∃b,l[n.toNat]? = some b:=⟨_,WH hn⟩
  refine⟨.int .u8 b.toNat,_,?_,ke ?_,h b hb⟩
  ·have hget:(⟨l.toArray⟩:ByteArray)[n.toNat]? = some b:=by
    have hs:n.toNat < (⟨l.toArray⟩:ByteArray).size:=by
     show n.toNat<l.toArray.size
     simpa using hn
    refine(getElem?_pos (⟨l.toArray⟩:ByteArray) n.toNat hs).trans ?_;rw[WH hn]at hb;simp only[WG]at hb;rw[<- hb];rfl
   intro w;simp only[Instr.index,asIntOf,Sem.run_bind,run_underlying hd,Sem.run_pure,Result.andThen_ok];rw[if_pos h0,hget];rfl
  ·have:=b.toNat_lt
   simp only[Lit.wf,WI,decide_eq_true_eq];have h1:IntKind.u8.min=0:=by decide
   have h2:IntKind.u8.max=255:=by decide
   rw[h1,h2];omega
end
def JL(w:World)(H:FH)(γ:Gam)(m:Mm):Option AV->Option Value->Prop
 |none,none=>True
 |some x,some v=>AR w H γ m x v
 |_,_=>False
section
variable {P:Program} {w:World} {H:FH} {γ:Gam} {m:Mm}
theorem xH{x:Value}{κ:IntKind}{n:Int}{y:Nat}{code:BoundsCode}(hx:x=.int κ n)(h0:0<=n)(h1:n.toNat<=y):(Instr.sliceBound x y code).run P w=.ok n.toNat w:=by
 subst hx;simp only[Instr.sliceBound,asIntOf,Sem.run_bind,Sem.run_pure,Result.andThen_ok];rw[if_pos ⟨h0,by omega⟩];rfl
theorem iL{isS:Bool}{len cap:Nat}{lo hi:Option AV}{vlo vhi:Option Value}{k:Nat->Nat->Prop}
  (hlo:JL w H γ m lo vlo)
  (hhi:JL w H γ m hi vhi)
  (hlc:len<=cap)
  (h:fq lo 0 fun a=>fq hi len fun b=>k a b) (hk:∀a b,k a b->a<=b/\b<=len) :
  ∃a b,k a b/\∀w:World,(Instr.sliceBounds isS len cap vlo vhi none).run P w=.ok (a,b,cap) w:=by
 have up:∀a,fq hi len (fun b=>k a b)->∃b,k a b/\∀code1 code2(w:World),(match vhi,(none:Option Value)with
   |some v,some _=>Instr.sliceBound v cap .slice3B
   |some v,none=>Instr.sliceBound v cap (if isS then code1 else code2)
   |none,none=>pure len
   |none,some _=>stuck "Slice: max without high").run P w=.ok b w:=by
  intro a ha;cases hi with
  |none=>
   cases vhi with
   |none=>exact⟨len,ha,fun _ _ _=>rfl⟩
   |some _=>exact hhi.elim
  |some y=>
   cases vhi with
   |none=>exact hhi.elim
   |some v=>
    match y,ha with
    |.one (.c (.d (.int κ n))),ha=>
     obtain⟨rfl,_⟩:=ld (w:=w) (H:=H) (γ:=γ) (m:=m) hhi;have:=hk _ _ ha.2
     exact⟨n.toNat,ha.2,fun _ _ _=>xH rfl ha.1 Z1⟩
 cases lo with
 |none=>
  cases vlo with
  |some _=>exact hlo.elim
  |none=>
   obtain⟨b,h1,h2⟩:=up 0 h;refine⟨0,b,h1,?_⟩;intro w;have h3:=h2 .sliceAcap .sliceAlen w
   cases vhi with
   |none=>
    simp only[Instr.sliceBounds,Sem.run_bind,Sem.run_pure,Result.andThen_ok];simp only[Sem.run_pure,Result.ok.injEq,and_true]at h3;rw[h3]
   |some v=>
    dsimp only at h3;simp only[Instr.sliceBounds,Sem.run_bind,Sem.run_pure,Result.andThen_ok,h3]
 |some x=>
  cases vlo with
  |none=>exact hlo.elim
  |some v=>
   match x,h with
   |.one (.c (.d (.int κ n))),h=>
    obtain⟨rfl,_⟩:=ld (w:=w) (H:=H) (γ:=γ) (m:=m) hlo;obtain⟨h0,h⟩:=h;obtain⟨b,h1,h2⟩:=up n.toNat h;have hb:=hk _ _ h1
    refine⟨n.toNat,b,h1,?_⟩;intro w;have h3:=h2 .sliceAcap .sliceAlen w
    have h4:∀code,(Instr.sliceBound (.int κ n) b code).run P w=.ok n.toNat w:=fun code=>xH rfl h0 hb.1
    cases vhi with
    |none=>
     simp only[Sem.run_pure,Result.ok.injEq,and_true]at h3;subst h3;simp only[Instr.sliceBounds,Sem.run_bind,Sem.run_pure,Result.andThen_ok,h4]
    |some v=>
     dsimp only at h3;simp only[Instr.sliceBounds,Sem.run_bind,Sem.run_pure,Result.andThen_ok,h3,h4]
theorem MJ{l:List (List D)}{a0:Option Addr}{n c e a b:Nat}(h:FDx H (.li l) (.slice a0 n c))(he:∀x∈l,x.length=e)(hab:a<=b)(hb:b<=l.length) :
  FDx H (.li ((l.drop a).take (b-a))) (.slice (if c=a then a0 else a0.map (·.add (a*e))) (b-a) (c-a)):=by
 obtain⟨a1,c1,h1,h2,h3,h4⟩:=eK h;simp only[Value.slice.injEq]at h1;obtain⟨rfl,rfl,rfl⟩:=h1;have hlen:((l.drop a).take (b-a)).length=b-a:=by simp;omega
 by_cases hz:b-a=0
 ·have:(l.drop a).take (b-a)=[]:=Xw (by rw[hlen];exact hz)
  rw[this];exact⟨1,kh.2 ⟨_,_,by rw[hz];rfl,by simp,by simp,.inl rfl⟩⟩
 ·rcases h4 with h4|⟨b0,o,e0,k,rfl,h5⟩
  ·subst h4;simp at hb;omega
  ·have hca:c≠a:=by omega
   have he0:e0=e:=by
    have:=(h5 0 Z1).1
    have h0:l.getD 0 []=l[0]' Z1:=by rw[List.getD,WH Z1];rfl
    rw[h0,he _ (Xj _)]at this;exact this.symm
   subst he0;refine⟨k+1,kh.2 ⟨_,_,by rw[hlen,if_neg hca],by rw[hlen];omega,by rw[hlen];omega,.inr ⟨b0,o+a*e0,e0,by simp[cH],fun i hi=>?_⟩⟩⟩;rw[hlen]at hi;have hg:((l.drop a).take (b-a)).getD i []=l.getD (a+i) []:=by
    simp only[List.getD];rw[W3 hi,Xc]
   rw[hg];obtain⟨g1,g2⟩:=h5 (a+i) Z1;refine⟨g1,fun j hj=>?_⟩;obtain⟨y,hy,hf⟩:=g2 j hj;refine⟨y,?_,hf⟩;rw[<- hy];congr 1;rw[XH];first|omega|rfl
theorem L6{t:TypeId}{x:AV}{lo hi:Option AV}{vlo vhi:Option Value}{k:AV->Prop}{u:Value}(h:kc P t x lo hi k)(hx:AR w H γ m x u)
  (hlo:JL w H γ m lo vlo)
  (hhi:JL w H γ m hi vhi) :
  ∃z d,(∀w:World,(Instr.sliceAt t u vlo vhi none).run P w=.ok z w)/\AR w H γ m d z/\k d:=by
 match x,h with
 |.one (.c (.d (.str l))),h=>
  obtain⟨hk,h⟩:=h;obtain⟨rfl,hl⟩:=yC hx;obtain⟨_,d,_,hd,he,_⟩:=aP hk (by simp);obtain rfl:=Ak he;have hs:(⟨l.toArray⟩:ByteArray).size=l.length:=by show l.toArray.size=_;simp
  obtain⟨a,b,⟨⟨h1,h2⟩,h3⟩,h4⟩:=iL (P:=P) (isS:=false) (len:=l.length) (cap:=l.length) (k:=fun a b=>(a<=b/\b<=l.length)/\k (sc (.str ((l.drop a).take (b-a))))) hlo hhi (WN _) h (fun a b h=>h.1);refine⟨.string ⟨((l.drop a).take (b-a)).toArray⟩,_,?_,m9 ?_,h3⟩
  ·intro w;simp only[Instr.sliceAt,Sem.run_bind,run_underlying hd,Result.andThen_ok];simp only[Instr.slice,Sem.run_bind,run_underlying hd,Result.andThen_ok,XJ,WP,if_false];rw[hs,h4,Result.andThen_ok];simp only[Sem.run_pure]
   congr 2
   rw[ByteArray.ext_iff];simp[ByteArray.data_extract,List.extract_eq_take_drop]
  ·simp;omega
 |.one (.c (.d (.li l))),h=>
  simp only[kc]at h;cases hk:(ty P t).k with
  |sl e=>
   rw[hk]at h;obtain⟨hok,hlen,h⟩:=h;obtain⟨_,d,_,hd,he,_⟩:=aP hk (by simp);obtain rfl:=lZ he;obtain⟨i,de,hi,_⟩:=eE hok;obtain⟨b0,c,rfl,hc,hb,_⟩:=eK hx.2;obtain⟨a,b,⟨⟨h1,h2⟩,h3⟩,h4⟩:=iL (P:=P) (isS:=true) (len:=l.length) (cap:=c) (k:=fun a b=>(a<=b/\b<=l.length)/\k (sc (.li ((l.drop a).take (b-a))))) hlo hhi hc h (fun a b h=>h.1);refine⟨_,sc _,?_,⟨fun _=>rfl,MJ hx.2 hlen h1 h2⟩,h3⟩;intro w;simp only[Instr.sliceAt,Sem.run_bind,run_underlying hd,Result.andThen_ok];simp only[Instr.slice,Sem.run_bind,run_underlying hd,Result.andThen_ok,h4,bM hi,Sem.run_pure,iv hok]
  |_=>rw[hk]at h;exact h.elim
 |.one (.c .nil),h=>
  simp only[kc]at h;cases hk:(ty P t).k with
  |sl e=>
   rw[hk]at h;obtain⟨hok,h⟩:=h;obtain⟨_,d,_,hd,he,_⟩:=aP hk (by simp);obtain rfl:=lZ he;obtain⟨i,de,hi,_⟩:=eE hok;obtain⟨h0,rfl⟩:=hx;obtain⟨a,b,⟨h1,h2,h3⟩,h4⟩:=iL (P:=P) (isS:=true) (len:=0) (cap:=0) (k:=fun a b=>a<=b/\b<=0/\k (.one (.c .nil))) hlo hhi (WN _) h (fun a b h=>⟨h.1,h.2.1⟩);obtain rfl:b=0:=by omega
   obtain rfl:a=0:=by omega
   refine⟨.slice none 0 0,.one (.c .nil),?_,⟨fun _=>rfl,rfl⟩,h3⟩;intro w;simp only[Instr.sliceAt,Sem.run_bind,run_underlying hd,Result.andThen_ok];simp only[Instr.slice,Sem.run_bind,run_underlying hd,Result.andThen_ok,h4,bM hi,Sem.run_pure];rfl
  |_=>rw[hk]at h;exact h.elim
 |.one (.c (.el row o)),h=>
  simp only[kc]at h;cases hk:(ty P t).k with
  |ar N e=>
   rw[hk]at h;obtain⟨hok,hsz,hN,hN2,h⟩:=h;obtain⟨_,d,_,hd,he,_⟩:=aP hk (by simp);obtain rfl:=TM he;obtain⟨i,de,hi,_⟩:=eE hok;obtain⟨_,b0,o0,kk,rfl,hrow⟩:=hx;obtain⟨a,b,⟨⟨h1,h2⟩,h3⟩,h4⟩:=iL (P:=P) (isS:=false) (len:=N) (cap:=N) (k:=fun a b=>(a<=b/\b<=N)/\k (sc (.li (((((row.drop o).take N).drop a).take (b-a)).map fun x=>[x])))) hlo hhi (WN _) h (fun a b h=>h.1);have hlen:(((((row.drop o).take N).drop a).take (b-a)).map fun x=>[x]).length=b-a:=by simp;omega
   refine⟨.slice (some (if N=a then⟨b0,o0+o,none⟩else(⟨b0,o0+o,none⟩:Addr).add (a*1))) (b-a) (N-a),sc _,?_,⟨fun _=>rfl,?_⟩,h3⟩
   ·intro w;have hce:P.cellsOf e=1:=by first|(rw[<- iv hok];exact hsz)|(rw[iv hok];exact hsz)
    simp only[Instr.sliceAt,Sem.run_bind,run_underlying hd,Result.andThen_ok,Instr.sureAddr,Sem.run_pure,h4,bM hi,hce]
   ·by_cases hz:b-a=0
    ·have:(((((row.drop o).take N).drop a).take (b-a)).map fun x=>[x])=[]:=Xw (by rw[hlen];exact hz)
     rw[this,hz];exact⟨1,kh.2 ⟨_,_,rfl,by simp,by simp,.inl rfl⟩⟩
    ·have hca:N≠a:=by omega
     refine⟨kk+1,kh.2 ⟨_,_,by rw[hlen,if_neg hca],by rw[hlen];omega,by rw[hlen];unfold BIG;omega,.inr ⟨b0,o0+o+a,1,by simp[cH],fun i hi=>?_⟩⟩⟩;rw[hlen]at hi;have hlt:o+(a+i)<row.length:=by omega
     have hg:(((((row.drop o).take N).drop a).take (b-a)).map fun x=>[x]).getD i []=[row.getD (o+(a+i)) default]:=by
      simp only[List.getD,WK];rw[W3 hi,Xc,W3 Z1,Xc,WH hlt];rfl
     rw[hg];refine⟨rfl,fun j hj=>?_⟩;obtain rfl:j=0:=by omega
     obtain⟨y,hy,hf⟩:=hrow (o+(a+i)) hlt;refine⟨y,?_,hf⟩;rw[<- hy];congr 1;omega
  |_=>rw[hk]at h;exact h.elim
end
def xa(q:Pl):T->T
 |.ow _ _=>.rf q
 |.mp _=>.rf q
 |.it _ _=>.rf q
 |t=>t
def qq(p:Pl)(ts:List T):List T:=ts.zipIdx.map fun x=>xa (p.add x.2) x.1
theorem gz:∀(p:List Step)(n:Nat),p≠[]->aI p n≠[]:=by
 intro p n h;cases p with
 |nil=>exact absurd rfl h
 |cons st r=>cases r<;>simp[aI]
section
variable {P:Program} {w:World} {H:FH} {γ:Gam} {m:Mm}
theorem Qs{t:T}{f:Fp}{y:Value}(h:TR w H γ m t f y)(hn:t.owned=false):TR w H γ m t (fun _=>0) y/\∀b,f b=0:=by
 cases t with
 |d x=>exact⟨⟨fun _=>rfl,h.2⟩,h.1⟩
 |nil=>exact⟨⟨fun _=>rfl,h.2⟩,h.1⟩
 |ow sub l=>simp[T.owned]at hn
 |mp l=>simp[T.owned]at hn
 |it c l=>simp[T.owned]at hn
 |el row off=>exact⟨⟨fun _=>rfl,h.2⟩,h.1⟩
 |pl p=>exact⟨⟨fun _=>rfl,h.2⟩,h.1⟩
 |rf p=>exact⟨⟨fun _=>rfl,h.2⟩,h.1⟩
 |any=>exact⟨fun _=>rfl,h⟩
theorem nP{F:Nm->Fp}(hm:Mem w H γ m F){q:Pl}(hq:bD m q){t:T}(hg:aQ m q=some t) :
  ∃v,plV w γ q=some v/\(∀a,plA w γ q=some a->w.cell? a=some v)/\TR w H γ m (xa q t) (fun _=>0) v/\∃f,TR w H γ m t f v:=by
 obtain⟨r,hr,hc⟩:=ap.1 hq;have hroot:=hm.roots _ (ae hr)
 obtain⟨n,off,path⟩:=q;dsimp only at hr hc;have hle0:∀c,F n c<=1:=fun c=>by have:=hm.le1 c;have:=aW (F:=F) (ae hr) c;dsimp only at this;omega
 unfold aQ at hg;rw[hr]at hg;dsimp only at hg;have fin:∀(v:Value)(f:Fp),plV w γ ⟨n,off,path⟩=some v->TR w H γ m t f v->(t.owned=true->fh m ⟨n,off,path⟩)->TR w H γ m (xa ⟨n,off,path⟩ t) (fun _=>0) v:=by
  intro v f hv hT ho;by_cases hown:t.owned=true
  ·cases t with
   |ow sub l=>exact⟨fun _=>rfl,ho rfl,hv⟩
   |mp l=>exact⟨fun _=>rfl,ho rfl,hv⟩
   |it c l=>exact⟨fun _=>rfl,ho rfl,hv⟩
   |_=>simp[T.owned]at hown
  ·have e:xa ⟨n,off,path⟩ t=t:=by cases t<;>first|rfl|(simp[T.owned]at hown)
   rw[e];exact(Qs hT (by simpa using hown)).1
 cases path with
 |nil=>
  dsimp only at hg;obtain⟨v,g,c1,c2,_⟩:=da hroot hg;dsimp only at c1;refine⟨v,c1,fun a ha=>?_,fin v g c1 c2 (fun ho=>?_),g,c2⟩
  ·simp only[plA]at ha;cases hgm:γ n with
   |gh u=>rw[hgm]at ha;simp at ha
   |blk b=>rw[hgm]at ha c1;simp only[WG]at ha;subst ha;exact c1
  ·rw[bx];refine⟨r,hr,?_⟩;cases t with
   |ow sub l=>simp only[bf,hg]
   |mp l=>simp only[bf,hg]
   |it c l=>simp only[bf,hg]
   |_=>simp[T.owned]at ho
 |cons st u=>
  dsimp only[aF]at hc;dsimp only at hg;cases ht:r.cells[off]? with
  |none=>rw[ht]at hc;exact hc.elim
  |some tt=>
   rw[ht]at hc hg;cases tt with
   |ow sub l=>
    dsimp only at hg hc;obtain⟨v0,g,c1,⟨k,c2⟩,c3⟩:=da hroot ht;dsimp only at c1 c3;obtain⟨b,k',z,s,x,cs,ty,fz,f1,f2,d1,d2,d3,d4,d5,d6,d7,d8,_⟩:=tg (st::u) k sub l g v0 c2 (fun b=>by have:=c3 b;have:=hle0 b;omega) hc;have hz:w.cell? ⟨b,k',none⟩=some z:=by simp[World.cell?,d2,d4]
    have hpv:plV w γ ⟨n,off,st::u⟩=some z:=by simp only[plV,c1,W6,d1,hz]
    rw[d5]at hg;have hT:TR w H γ m t f1 z/\(t.owned=true->∃s' l',s=.ow s'/\x=.li l'):=by
     cases s with
     |fr=>
      simp only[WG]at hg;subst hg;exact⟨dU.1 d8,fun h=>by simp[T.owned]at h⟩
     |ow s'=>cases x with
      |li l'=>
       simp only[WG]at hg;subst hg;exact⟨⟨k,d8⟩,fun _=>⟨s',l',rfl,rfl⟩⟩
      |any=>
       simp only[WG]at hg;subst hg;refine⟨?_,fun h=>by simp[T.owned]at h⟩;show ∀b,f1 b=0
       cases k<;>simpa[OD]using d8
      |_=>cases k<;>simp[OD]at d8
    refine⟨z,hpv,fun a ha=>?_,fin z f1 hpv hT.1 (fun ho=>?_),f1,hT.1⟩
    ·simp only[plA,c1,W6,d1,WG]at ha;subst ha;exact hz
    ·obtain⟨s',l',rfl,rfl⟩:=hT.2 ho;rw[bx];refine⟨r,hr,?_⟩;simp only[bf,ht,d5];exact⟨hc,trivial⟩
   |_=>exact hc.elim
theorem Sa:∀(p:List Step)(sub:List Sh)(l:List (List D))(n k:Nat),okO sub l p->sQ sub p=some k->n<k->okO sub l (aI p n):=by
 intro p;induction p with
 |nil=>intro sub l n k h;exact h.elim
 |cons st r ih=>
  intro sub l n k h hr hn;cases r with
  |nil=>
   obtain⟨h1,h2,h3⟩:=h;simp only[sQ,WG]at hr;exact⟨h1,h2,by dsimp only;omega⟩
  |cons t u=>
   obtain⟨h1,h2⟩:=h;cases hs:sub[st.off]? with
   |none=>rw[hs]at h2;exact h2.elim
   |some s=>
    rw[hs]at h2;cases s with
    |fr=>exact h2.elim
    |ow s=>
     cases hd:(l.getD st.idx []).getD st.off default with
     |li l'=>
      rw[hd]at h2;simp only[sQ,hs]at hr;have:=ih s l' n k h2 hr hn
      cases u with
      |nil=>simp only[aI,okO,hs,hd]at this⊢;exact⟨h1,this⟩
      |cons _ _=>simp only[aI,okO,hs,hd]at this⊢;exact⟨h1,this⟩
     |_=>rw[hd]at h2;exact h2.elim
theorem vC{p:Pl}{n:Nat}(h:bD m p)(hr:gk m p n):bD m (p.add n):=by
 obtain⟨r,h1,h2⟩:=ap.1 h;obtain⟨nm,off,path⟩:=p;dsimp only at h1 h2;unfold gk room at hr;rw[h1]at hr;dsimp only at hr;rw[ap];cases path with
 |nil=>
  refine⟨r,by simpa[Pl.add]using h1,?_⟩;simp only[Pl.add,aF];dsimp only at hr;omega
 |cons st u=>
  refine⟨r,by simpa[Pl.add]using h1,?_⟩;dsimp only[aF]at h2;simp only[Pl.add];cases ht:r.cells[off]? with
  |none=>rw[ht]at h2;exact h2.elim
  |some t=>
   rw[ht]at h2 hr;cases t with
   |ow sub l=>
    dsimp only at h2 hr;cases hro:sQ sub (st::u)with
    |none=>rw[hro]at hr;exact hr.elim
    |some k=>
     rw[hro]at hr;have:=Sa (st::u) sub l n k h2 hro hr
     cases hal:aI (st::u) n with
     |nil=>exact absurd hal (gz _ _ (by simp))
     |cons a b=>rw[hal]at this;simp only[aF,ht];exact this
   |_=>exact h2.elim
theorem Mh:∀(p:List Step)(y:Value)(n b k:Nat),aO w y p=some ⟨b,k,none⟩->aO w y (aI p n)=some ⟨b,k+n,none⟩:=by
 intro p;induction p with
 |nil=>intro y n b k h;cases y<;>simp[aO]at h
 |cons st r ih=>
  intro y n b k h;cases y with
  |slice a len c=>
   cases a with
   |none=>cases r<;>simp[aO]at h
   |some a=>
    obtain⟨b0,o,sp⟩:=a;cases sp with
    |some _=>cases r<;>simp[aO]at h
    |none=>
     cases r with
     |nil=>
      simp only[aO,WG,Addr.mk.injEq,and_true]at h;simp only[aI,aO,WG,Addr.mk.injEq,and_true];omega
     |cons t u=>
      simp only[aO]at h;cases hc:w.cell? ⟨b0,o+st.idx*st.esz+st.off,none⟩with
      |none=>rw[hc]at h;simp at h
      |some v=>
       rw[hc]at h;have:=ih v n b k h
       cases u with
       |nil=>simp only[aI,aO,hc]at this⊢;exact this
       |cons _ _=>simp only[aI,aO,hc]at this⊢;exact this
  |_=>cases r<;>simp[aO]at h
theorem tA{p:Pl}{n b k:Nat}(h:plA w γ p=some ⟨b,k,none⟩):plA w γ (p.add n)=some ⟨b,k+n,none⟩:=by
 obtain⟨nm,off,path⟩:=p;cases path with
 |nil=>
  simp only[plA]at h;cases hg:γ nm with
  |gh _=>rw[hg]at h;simp at h
  |blk b0=>
   rw[hg]at h;simp only[WG,Addr.mk.injEq,and_true]at h;simp only[Pl.add,plA,hg,WG,Addr.mk.injEq,and_true];omega
 |cons st u=>
  simp only[plA]at h;simp only[Pl.add,plA];cases hal:aI (st::u) n with
  |nil=>exact absurd hal (gz _ _ (by simp))
  |cons a b'=>
   dsimp only;cases hv:aq w (γ nm) off with
   |none=>rw[hv]at h;simp at h
   |some v=>
    rw[hv]at h;simp only[W6]at h⊢;rw[<- hal];exact Mh _ _ _ _ _ h
theorem mM{F:Nm->Fp}(hm:Mem w H γ m F){p:Pl}(hok:bD m p){a:Addr}(h:plA w γ p=some a):∃b k,a=⟨b,k,none⟩:=by
 obtain⟨b,k,sp⟩:=a;have:=(vK hm hok h).2
 dsimp only at this;subst this;exact⟨b,k,rfl⟩
def mkL:Option (Sh×D)->Option T
 |some (s,x)=>some (mkT s x)
 |none=>none
theorem Uz:∀(p:List Step)(sub:List Sh)(l:List (List D))(n:Nat)(k:List T->Prop),(∀N,wfO N sub l)->okO sub l p->inK sub l n p k ->
  ∃ts:List T,ts.length=n/\k ts/\∀j t,ts[j]? = some t->okO sub l (aI p j)/\mkL (aY sub l (aI p j))=some t:=by
 intro p;induction p with
 |nil=>intro sub l n k _ h;exact h.elim
 |cons st r ih=>
  intro sub l n k hwf hok hin;cases r with
  |nil=>
   obtain⟨h1,h2,h3⟩:=hok;obtain⟨hn,hin⟩:=hin;have hx:l[st.idx]? = some l[st.idx]:=WH h1
   have hlen:(l[st.idx]).length=sub.length:=(hwf 1).1 _ (Xj h1)
   have hg:l.getD st.idx []=l[st.idx]:=by simp[List.getD,h1]
   rw[hx]at hin;refine⟨_,?_,hin,fun j t hj=>?_⟩
   ·simp;omega
   ·have hjn:j<n:=by have:=ah hj;simp at this;omega
    simp only[List.getElem?_zipWith]at hj;rw[W3 hjn,W3 hjn,Xc,Xc]at hj;have hs:sub[st.off+j]? = some (sub[st.off+j]' Z1):=WH Z1
    have hd:(l[st.idx])[st.off+j]? = some ((l[st.idx])[st.off+j]' Z1):=WH Z1
    rw[hs,hd]at hj;simp only[WG]at hj;refine⟨⟨h1,h2,by dsimp only;omega⟩,?_⟩;simp only[aI,aY,hs,hg,Option.map_some,mkL];rw[List.getD,hd,Xb,hj]
  |cons t u=>
   obtain⟨⟨h1,h2,h3⟩,hok⟩:=hok;have hx:l[st.idx]? = some l[st.idx]:=WH h1
   have hg:l.getD st.idx []=l[st.idx]:=by simp[List.getD,h1]
   unfold inK at hin;rw[hx]at hin;dsimp only at hin;cases hs:sub[st.off]? with
   |none=>rw[hs]at hok;exact hok.elim
   |some s=>
    rw[hs]at hok hin;cases s with
    |fr=>exact hok.elim
    |ow s=>
     cases hd:(l[st.idx])[st.off]? with
     |none=>rw[hd]at hin;exact hin.elim
     |some d=>
      have hd':(l.getD st.idx []).getD st.off default=d:=by rw[hg,List.getD,hd];rfl
      rw[hd']at hok;rw[hd]at hin;cases d with
      |li l'=>
       dsimp only at hin hok;obtain⟨ts,e1,e2,e3⟩:=ih s l' n k (fun N=>(hwf (N+1)).2 st.idx st.off s l' hs hd') hok hin;refine⟨ts,e1,e2,fun j t' hj=>?_⟩;obtain⟨e4,e5⟩:=e3 j t' hj;cases u with
       |nil=>simp only[aI,okO,aY,hs,hd']at e4 e5⊢;exact⟨⟨⟨h1,h2,h3⟩,e4⟩,e5⟩
       |cons _ _=>simp only[aI,okO,aY,hs,hd']at e4 e5⊢;exact⟨⟨⟨h1,h2,h3⟩,e4⟩,e5⟩
      |_=>exact hok.elim
theorem EI{F:Nm->Fp}(hm:Mem w H γ m F){p:Pl}(hok:bD m p){n:Nat}{k:List T->Prop}(h:atK m p n k) :
  ∃ts:List T,ts.length=n/\k ts/\∀j t,ts[j]? = some t->aQ m (p.add j)=some t/\bD m (p.add j):=by
 obtain⟨r,h1,h2⟩:=ap.1 hok;obtain⟨nm,off,path⟩:=p;dsimp only at h1 h2;unfold atK at h;rw[h1]at h;dsimp only at h;cases path with
 |nil=>
  dsimp only at h;obtain⟨hn,hk⟩:=h;refine⟨_,by simp;omega,hk,fun j t hj=>?_⟩;have hjn:j<n:=by have:=ah hj;simp at this;omega
  rw[W3 hjn,Xc]at hj;refine⟨by simp only[Pl.add,aQ,h1,hj],?_⟩;rw[ap];refine⟨r,by simpa[Pl.add]using h1,?_⟩;simp only[Pl.add,aF];omega
 |cons st u=>
  dsimp only[aF]at h2;cases ht:r.cells[off]? with
  |none=>rw[ht]at h2;exact h2.elim
  |some t=>
   rw[ht]at h2 h;cases t with
   |ow sub l=>
    dsimp only at h2 h;have hwf:∀N,wfO N sub l:=by
     intro N;obtain⟨v,g,_,⟨k,c2⟩,_⟩:=da (hm.roots _ (ae h1)) ht;exact yL N k sub l g v c2
    obtain⟨ts,e1,e2,e3⟩:=Uz (st::u) sub l n k hwf h2 h;refine⟨ts,e1,e2,fun j t' hj=>?_⟩;obtain⟨e4,e5⟩:=e3 j t' hj;cases hal:aI (st::u) j with
    |nil=>exact absurd hal (gz _ _ (by simp))
    |cons a b=>
     rw[hal]at e4 e5;refine⟨?_,?_⟩
     ·simp only[Pl.add,hal,aQ,h1,ht];cases hlo:aY sub l (a::b)with
      |none=>rw[hlo]at e5;exact e5
      |some x=>
       obtain⟨s,d⟩:=x;rw[hlo]at e5;cases s with
       |fr=>exact e5
       |ow s=>cases d<;>exact e5
     ·rw[ap];refine⟨r,by simpa[Pl.add]using h1,?_⟩;simp only[Pl.add,hal,aF,ht];exact e4
   |_=>exact h2.elim
end
def eQ(P:Program)(m:Mm)(t:TypeId)(x:AV)(i:Nat)(k:AV->Prop):Prop:=
 match(ty P t).k with
 |.st fs=>match fs[i]? with
  |some (off,size,_)=>size≠0/\match x with
   |.one (.c (.pl p))=>gk m p off/\k (.one (.c (.pl (p.add off))))
   |.one (.c (.el row o))=>k (.one (.c (.el row (o+off))))
   |_=>False
  |none=>False
 |_=>False
def Pl.at(p:Pl)(i e:Nat):Pl:={ p with path:=p.path++[⟨i,e,0⟩] }
def eV(P:Program)(m:Mm)(t:TypeId)(x i:AV)(k:AV->Prop):Prop:=
 match i with
 |.one (.c (.d (.int _ n)))=>match(ty P t).k,x with
  |.sl e,.one (.c (.d (.li l)))=>(ty P e).ok=true/\0<=n/\match l[n.toNat]? with
   |some row=>row.length=(ty P e).size/\k (.one (.c (.el row 0)))
   |none=>False
  |.sl e,.one (.c (.rf p))=>(ty P e).ok=true/\(ty P e).size≠0/\atK m p 1 fun ts=>match ts with
   |[.ow sub l]=>(0<=n/\n<l.length)/\sub.length=(ty P e).size/\k (.one (.c (.pl (p.at n.toNat (ty P e).size))))
   |_=>False
  |.ar N e,.one (.c (.pl p))=>(ty P e).ok=true/\(0<=n/\n<N)/\gk m p (n.toNat*(ty P e).size)/\k (.one (.c (.pl (p.add (n.toNat*(ty P e).size)))))
  |.ar N e,.one (.c (.el row o))=>(ty P e).ok=true/\(0<=n/\n<N)/\k (.one (.c (.el row (o+n.toNat*(ty P e).size))))
  |_,_=>False
 |_=>False
def Pa:T->Prop
 |.d x=>okv x
 |_=>True
def Jg:List T->Prop
 |[]=>True
 |t::ts=>Pa t/\Jg ts
def p5(P:Program)(m:Mm)(t:TypeId)(x:AV)(k:AV->Prop):Prop:=
 (ty P t).ok=true/\match x with
 |.one (.c (.el row o))=>if(ty P t).agg=true then o+(ty P t).size<=row.length/\(okvs ((row.drop o).take (ty P t).size)->k (.one (.agg (((row.drop o).take (ty P t).size).map T.d))))
  else match row[o]? with
   |some x=>okv x->k (sc x)
   |none=>False
 |.one (.c (.pl p))=>if(ty P t).agg=true then atK m p (ty P t).size fun ts=>Jg ts->k (.one (.agg (qq p ts)))
  else atK m p 1 fun ts=>match ts with
   |[t']=>Pa t'->k (.one (.c (xa p t')))
   |_=>False
 |_=>False
def rz(P:Program)(t:TypeId)(x:AV)(i:Nat)(k:AV->Prop):Prop:=
 match(ty P t).k,x with
 |.st fs,.one (.agg ts)=>match fs[i]? with
  |some (off,size,some false)=>match ts[off]? with
   |some t'=>k (.one (.c t'))
   |none=>False
  |some (off,size,some true)=>off+size<=ts.length/\k (.one (.agg ((ts.drop off).take size)))
  |_=>False
 |_,_=>False
def kM(x:AV)(k:AV->Prop):Prop:=
 match x with
 |.one (.c (.pl p))=>k x
 |.one (.c (.el row o))=>k x
 |_=>False
section
variable {P:Program} {w:World} {H:FH} {γ:Gam} {m:Mm}
theorem pH{ts:List T}{vs:List Value}(hl:vs.length=ts.length)(h:∀(i:Nat) (t:T),ts[i]? = some t->∃v,vs[i]? = some v/\TR w H γ m t (fun _=>0) v):Ts (TR w H γ m) ts (fun _=>0) vs:=by
 induction ts generalizing vs with
 |nil=>exact fun _=>rfl
 |cons t ts ih=>
  cases vs with
  |nil=>simp at hl
  |cons v vs=>
   obtain⟨v',hv,ht⟩:=h 0 t rfl;simp only[Xi,WG]at hv;subst hv;refine⟨v,vs,fun _=>0,fun _=>0,rfl,fun _=>rfl,ht,ih (by simpa using hl) (fun i t' ht'=>?_)⟩;obtain⟨v',hv,ht⟩:=h (i+1) t' (by simpa using ht');exact⟨v',by simpa using hv,ht⟩
theorem yQ{ts:List T}{f:Fp}{vs:List Value}(h:Ts (TR w H γ m) ts f vs){i:Nat}{t:T}(ht:ts[i]? = some t):∃v g,vs[i]? = some v/\TR w H γ m t g v/\∀b,g b<=f b:=by
 obtain⟨_,v,g,_,h2,h3,h4⟩:=oC h ht;exact⟨v,g,h2,h3,h4⟩
theorem th{ts:List T}{vs:List Value}(h:Ts (TR w H γ m) ts (fun _=>0) vs){i:Nat}{t:T}(ht:ts[i]? = some t):∃v,vs[i]? = some v/\TR w H γ m t (fun _=>0) v:=by
 obtain⟨v,g,h1,h2,h3⟩:=yQ h ht;have e:g=fun _=>0:=by funext b;have:=h3 b;omega
 subst e;exact⟨v,h1,h2⟩
theorem wy{n:Nat}(hn:n<=BIG):(Lit.int .i64 (n:Int)).wf=true:=by
 simp only[Lit.wf,WI,decide_eq_true_eq];have h1:IntKind.i64.min=-9223372036854775808:=by decide
 have h2:IntKind.i64.max=9223372036854775807:=by decide
 have h3:BIG=4611686018427387904:=rfl
 rw[h1,h2];omega
theorem PH{F:Nm->Fp}(hm:Mem w H γ m F){p:Pl}{u:Value}(hx:TR w H γ m (.rf p) (fun _=>0) u){k:List T->Prop}(h:atK m p 1 k) :
  ∃t,k [t]/\aQ m p=some t/\bD m p/\plV w γ p=some u/\∃f,TR w H γ m t f u:=by
 obtain⟨_,hr,hv⟩:=hx;have hok:=dH hr
 obtain⟨ts,e1,e2,e3⟩:=EI hm hok h
 match ts,e1 with
 |[t],_=>
  obtain⟨g1,g2⟩:=e3 0 t rfl;have hp:p.add 0=p:=by
   obtain⟨n,o,path⟩:=p;cases path with
   |nil=>rfl
   |cons st r=>
    simp only[Pl.add];have:∀q:List Step,aI q 0=q:=by
     intro q;induction q with
     |nil=>rfl
     |cons a b ih=>cases b with
      |nil=>rfl
      |cons c d=>simp only[aI]at ih⊢;rw[ih]
    rw[this]
  rw[hp]at g1 g2;obtain⟨v,h1,_,_,h4⟩:=nP hm hok g1;rw[hv]at h1;simp only[WG]at h1;subst h1;exact⟨t,e2,g1,hok,hv,h4⟩
theorem add_zero(p:Pl):p.add 0=p:=by
 obtain⟨n,o,path⟩:=p;cases path with
 |nil=>rfl
 |cons st r=>
  simp only[Pl.add];have:∀q:List Step,aI q 0=q:=by
   intro q;induction q with
   |nil=>rfl
   |cons a b ih=>cases b with
    |nil=>rfl
    |cons c d=>simp only[aI]at ih⊢;rw[ih]
  rw[this]
def nE:AV->Bool
 |.one (.c (.d (.str _)))=>true
 |_=>false
theorem RR{F:Nm->Fp}(hm:Mem w H γ m F){x:AV}{k:Nat->Prop}{u:Value}(h:CQ m x k)(hx:AR w H γ m x u) :
  ∃n:Nat,k n/\(Lit.int .i64 (n:Int)).wf=true/\((∃l:Array UInt8,u=.string ⟨l⟩/\l.size=n/\nE x=true)\/∃b c,u=.slice b n c/\nE x=false):=by
 match x,h with
 |.one (.c (.d (.str l))),h=>
  obtain⟨rfl,hl⟩:=yC hx;exact⟨l.length,h hl,wy hl,.inl ⟨_,rfl,by simp,rfl⟩⟩
 |.one (.c (.d (.li l))),h=>
  obtain⟨b,c,rfl,_,hl,_⟩:=eK hx.2;exact⟨l.length,h hl,wy hl,.inr ⟨_,_,rfl,rfl⟩⟩
 |.one (.c .nil),h=>
  obtain⟨_,rfl⟩:=hx;exact⟨0,h,wy (Xq _),.inr ⟨_,_,rfl,rfl⟩⟩
 |.one (.c (.rf p)),h=>
  simp only[CQ]at h;obtain⟨t,h1,_,_,_,f,h2⟩:=PH hm hx h;cases t with
  |ow sub l=>
   obtain⟨j,h2⟩:=h2;cases j with
   |zero=>simp[OD]at h2
   |succ j=>
    obtain⟨b,c,_,_,rfl,_,hl,_⟩:=kl h2;exact⟨l.length,h1 hl,wy hl,.inr ⟨_,_,rfl,rfl⟩⟩
  |_=>exact h1.elim
theorem wI{F:Nm->Fp}(hm:Mem w H γ m F){t:TypeId}{x:AV}{i:Nat}{k:AV->Prop}{u:Value}(h:eQ P m t x i k)(hx:AR w H γ m x u) :
  ∃z d,(∀w:World,(Instr.fieldAt t u i).run P w=.ok z w)/\AR w H γ m d z/\k d:=by
 unfold eQ at h;cases hk:(ty P t).k with
 |st fs=>
  rw[hk]at h;dsimp only at h;obtain⟨_,d,_,hd,he,_⟩:=aP hk (by simp);obtain⟨fs',rfl,rfl⟩:=TN he;cases hf:(fs'.toList.map fun f=>(f.offset,P.cellsOf f.type,Nr P f.type))[i]? with
  |none=>rw[hf]at h;exact h.elim
  |some q=>
   obtain⟨off,size,ag⟩:=q;rw[hf]at h;obtain⟨h0,h⟩:=h;simp only[WK,WW,Prod.mk.injEq]at hf;obtain⟨f,hf1,rfl,rfl,rfl⟩:=hf;have hf2:fs'[i]? = some f:=by simpa using hf1
   have hinf:∃i,P.info? f.type=some i:=by
    cases hi:P.info? f.type with
    |none=>simp[Program.cellsOf,hi]at h0
    |some i=>exact⟨i,rfl⟩
   obtain⟨it,hit⟩:=hinf;have run:∀b o(w:World),(Instr.fieldAt t (.pointer (some ⟨b,o,none⟩)) i).run P w=.ok (.pointer (some ⟨b,o+f.offset,none⟩)) w:=by
    intro b o w;simp only[Instr.fieldAt,Sem.run_bind,run_underlying hd,Result.andThen_ok,hf2,Instr.sureAddr,Sem.run_pure,fieldPlace,bM hit];rw[if_neg h0];simp only[Sem.run_pure,Result.andThen_ok,cH]
   match x,h with
   |.one (.c (.pl p)),h=>
    obtain⟨hr,h⟩:=h;obtain⟨hz,hok,a,ha,rfl⟩:=hx;obtain⟨b,o,rfl⟩:=mM hm hok ha;exact⟨_,.one (.c (.pl (p.add f.offset))),run b o,⟨fun _=>rfl,vC hok hr,_,tA ha,rfl⟩,h⟩
   |.one (.c (.el row o)),h=>
    obtain⟨hz,b,o',n,rfl,hrow⟩:=hx;exact⟨_,.one (.c (.el row (o+f.offset))),run b (o'+o),⟨fun _=>rfl,b,o',n,by rw[Yy],hrow⟩,h⟩
 |_=>rw[hk]at h;exact h.elim
end
end Go.Am
end
