/-
  Part 13: AmL27 · AmL20b · AmL28 · AmNice18v · AmG31 · AmL31 · AmG32 · AmG33 · AmL32 · AmPkS.
-/
import Derived.Test.YteooihiebpbaiaaGreatDoorVk12
set_option linter.unusedSimpArgs false
set_option linter.unusedVariables false
set_option linter.unusedSectionVars false
set_option linter.unnecessarySimpa false
open Lt
open Go.IntKind (i64)
section
namespace Go.Am
open Go
open Lt (nmB toB Gd Rc bkB phB dZ Bare aT)
theorem Ge{f:Lt.Func}{y:List Int}{t0:Nat}{ins outs:List Lt.Vs}{ch:Bool}(hg:Gd f.Blocks)(hy:Lt.Od (gM f) y)(h:RI f y t0 y.length ins outs ch)(hc:ch=false):qe f ins:=by
 have pos:∀k,k<f.Blocks.length->∃i,i<y.length/\(y.getD i default).toNat=k:=fun k hk=>by
  obtain⟨i,hi,e⟩:=X0.1 (hy.all k (L0 hg hk));exact⟨i,hi,by rw[List.getD,WH hi];show(y[i]).toNat=k;rw[e];rfl⟩
 refine h.ai.fin (fun k hk=>?_) fun k hk v hv=>?_
 ·obtain⟨i,hi,rfl⟩:=pos k hk;exact h.dn i hi
 ·obtain⟨i,hi,rfl⟩:=pos k hk;exact h.fx hc i hi v hv
theorem Lg(f:Lt.Func)(hp:qf f)(KK:List Lt.Vs->Prop)(h:∀y,qe f y->KK y):G4 f KK:=by
 unfold G4;have hul:=PZ hp
 obtain⟨hpo,hg,hpar,hbk⟩:=hp;have hn:=hpo.1
 have hps:=hg.ps
 dsimp only;have hz:(f.Blocks.length:Int).toNat=f.Blocks.length:=Int.toNat_natCast _
 rw[hz];refine⟨hpo,B7 hpo,Oh hpo hg,fun y hy _=>⟨⟨by omega,by omega,by omega⟩,fun _=>⟨⟨by omega,by omega,by omega⟩,?_⟩⟩⟩;have hy:Lt.Od (gM f) y:=hy
 have ylt:∀i,i<y.length->∃k:Nat,y.getD i default=(k:Int)/\k<f.Blocks.length:=fun i hi=>by
  have:=hy.lt _ (bt _ hi)
  rw[fy]at this;exact⟨(y.getD i default).toNat,by omega,by omega⟩
 have hpl:(fA (gM f)).length=f.Blocks.length:=by unfold fA;rw[WJ,X1,fy]
 have hst:AI f (List.replicate f.Blocks.length (dflt (.mp .s .bo))) (List.replicate f.Blocks.length (dflt (.mp .s .bo))):=by
  have e:∀k,(List.replicate f.Blocks.length (dflt (.mp .s .bo)):List Lt.Vs).getD k default=default:=fun k=>qt _ _ _
  exact⟨XO,XO,fun k _ _=>e k,fun k _ hk=>absurd (e k) hk,fun k _ hk=>absurd (e k) hk,fun k _ hk=>absurd (e k) hk⟩
 refine qb (fun v=>AI f v.1 v.2.1/\(v.2.2=false->qe f v.1)) (fun v=>DO (univ f).length v.1+v.2.2.toNat) (fun R v⟨hai,hfi⟩ih=>?_) _ ⟨hst,fun e=>by cases e⟩;obtain⟨ins0,outs0,ch0⟩:=v;dsimp only at hai hfi ih⊢;refine ifk (fun hc0=>?_) (fun hc0=>h _ (hfi (by simpa using hc0)));subst hc0;intro hyl;refine az _ y.length (fun j v=>v.2.2.2=(j:Int)/\RI f y (DO (univ f).length ins0) j v.1 v.2.1 v.2.2.1) (fun R4 j v hj⟨e,hri⟩ih4=>?_) (fun R4 v⟨e,hri⟩=>?_) _ ⟨rfl,⟨hai,fun i hi=>by omega,WN _,fun e=>(by cases e),fun _ i hi=>by omega⟩⟩
 rotate_left
 ·obtain⟨ins,outs,ch,v4⟩:=v;dsimp only at e hri⊢;subst e;rw[if_neg (by simp)];refine ih _ ⟨hri.ai,Ge hg hy hri⟩ ?_;dsimp only;have h1:=hri.sz
  cases ch with
  |true=>have:=hri.s2 rfl;simp only[Bool.toNat_true];omega
  |false=>simp only[Bool.toNat_true,Bool.toNat_false];omega
 obtain⟨ins,outs,ch,v4⟩:=v;dsimp only at e hri⊢;subst e;rw[if_pos (aH hj)];refine⟨ob hj,?_⟩;obtain⟨k,ek,hk⟩:=ylt j hj;dsimp +instances only [Int.toNat_natCast]
 have hpr:k≠0->∃i,i<f.Blocks.length/\nmB f.Blocks k∈toB f.Blocks i/\outs.getD i default≠default:=fun hk0=>by
  obtain⟨j',hj',hm⟩:=hy.pr j hj (by show y.getD j default≠0;rw[ek];omega);have hm:y.getD j default∈(gM f).getD (y.getD j' default).toNat []:=hm
  rw[ek]at hm;obtain⟨h1,h2,h3⟩:=(pT hg).1 hm;refine⟨_,h1,h3,?_⟩;rw[(hri.ai.ok _ h1 (hri.dn j' hj')).2];exact nO _ _
 have ylts:∀i,i<j->(y.getD i default).toNat<f.Blocks.length:=fun i hi=>by
  obtain⟨q,e,hq⟩:=ylt i Z1;rw[e];exact hq
 have hpi:=LV hg hk
 have hstep:=fun x hx he c hc=>hri.step (x:=x) (c:=c) ek hk ylts hx he hc
 rw[ek];dsimp +instances only [Int.toNat_natCast]
 generalize(fA (gM f)).getD k []=L at hpi;have hli:=hri.ai.li
 have hlo:=hri.ai.lo
 intro J6 hJ6;have start:∀in0,(in0=default/\k≠0)\/(okU (univ f) in0/\∀v,aT in0 v=true ↔ (k=0->v∈f.Params.map (·.Name)))->J6 in0:=fun in0 hin0=>by
  refine hJ6 _ ⟨⟨by omega,by rw[hpl];exact hk⟩,fun hll=>?_⟩;refine az _ L.length (fun i v=>v.2=(i:Int)/\((v.1=default/\k≠0/\∀z∈L.take i,outs.getD z.toNat default=default)\/(okU (univ f) v.1/\∀w,aT v.1 w=true ↔ (k=0->w∈f.Params.map (·.Name))/\∀z∈L.take i,outs.getD z.toNat default≠default->aT (outs.getD z.toNat default) w=true))) (fun R8 i v hi⟨e,hin⟩ih8=>?_) (fun R8 v⟨e,hin⟩=>?_) _ ⟨rfl,hin0.imp (fun⟨a,b⟩=>⟨a,b,fun z hz=>(by cases hz)⟩) (fun⟨a,b⟩=>⟨a,fun w=>(b w).trans ⟨fun h=>⟨h,fun z hz=>(by cases hz)⟩,fun h=>h.1⟩⟩)⟩
  ·obtain⟨inn,v9⟩:=v;dsimp only at e hin⊢;subst e;rw[if_pos (aH hi)];intro J10 hJ10;dsimp +instances only [Int.toNat_natCast]at hJ10⊢
   have hzm:L.getD i default∈L:=bt _ hi
   have tk:=bg L hi
   generalize L.getD i default=z at hzm tk hJ10⊢;obtain⟨q,ez,hq,_⟩:=(hpi z).1 hzm;subst ez;rw[Int.toNat_natCast];refine⟨ob hi,⟨by omega,by omega⟩,?_⟩;have mem:∀z',z'∈L.take (i+1) ↔ z'∈L.take i\/z'=(q:Int):=fun z'=>by rw[tk,WX,WU]
   refine ifk (fun hc=>⟨⟨by omega,by omega⟩,?_,fun x hx=>?_⟩) (fun hc=>?_)
   ·rcases hin with⟨e,_⟩|⟨hok,_⟩
    ·exact .inl e
    ·exact .inr ⟨_,hok.okV⟩
   ·have hsome:outs.getD q default≠default:=fun e=>by rw[e]at hc;simp at hc;cases hc
    have hoq:=hri.ai.ok q hq (hri.ai.on hq hsome)
    have hou:okU (univ f) (outs.getD q default):=by rw[hoq.2];exact hoq.1.put (U4 hq)
    refine hJ10 _ (ih8 _ ⟨ao Z1,.inr ?_⟩);dsimp only;rcases hin with⟨e,hk0,hno⟩|⟨hok,hw⟩
    ·have hx:=hx.1 e
     subst hx;refine⟨hou,fun w=>⟨fun hw=>⟨fun e=>absurd e hk0,fun z hz hs=>?_⟩,fun hw=>?_⟩⟩
     ·rcases(mem z).1 hz with hz|rfl
      ·exact absurd (hno z hz) hs
      ·exact hw
     ·exact hw.2 (q:Int) ((mem _).2 (.inr rfl)) hsome
    ·have hne:inn≠none:=fun e=>by have:=hok.isS;rw[e]at this;cases this
     obtain⟨hx1,hx2⟩:=hx.2 hne;refine⟨O9 hok (hx1 _ hok.okV) hx2,fun w=>?_⟩;rw[hx2,WI,hw];refine⟨fun⟨⟨a,b⟩,c⟩=>⟨a,fun z hz hs=>?_⟩,fun⟨a,b⟩=>⟨⟨a,fun z hz hs=>b z ((mem z).2 (.inl hz)) hs⟩,b (q:Int) ((mem _).2 (.inr rfl)) hsome⟩⟩;rcases(mem z).1 hz with hz|rfl
     ·exact b z hz hs
     ·exact c
   ·have hnone:outs.getD q default=default:=by
     cases e:outs.getD q default with
     |none=>rfl
     |some m=>rw[e]at hc;simp at hc
    refine hJ10 _ (ih8 _ ⟨ao Z1,?_⟩);dsimp only;rcases hin with⟨e,hk0,hno⟩|⟨hok,hw⟩
    ·refine .inl ⟨e,hk0,fun z hz=>?_⟩;rcases(mem z).1 hz with hz|rfl
     ·exact hno z hz
     ·exact hnone
    ·refine .inr ⟨hok,fun w=>(hw w).trans ⟨fun⟨a,b⟩=>⟨a,fun z hz hs=>?_⟩,fun⟨a,b⟩=>⟨a,fun z hz hs=>b z ((mem z).2 (.inl hz)) hs⟩⟩⟩;rcases(mem z).1 hz with hz|rfl
     ·exact b z hz hs
     ·exact absurd hnone hs
  ·obtain⟨inn,v9⟩:=v;dsimp only at e hin⊢;subst e;rw[if_neg (by simp)];rw[Xz]at hin;have hin:okU (univ f) inn/\∀w,aT inn w=true ↔ mf f outs k w:=by
    rcases hin with⟨_,hk0,hno⟩|⟨hok,hw⟩
    ·obtain⟨i,h1,h2,h3⟩:=hpr hk0;exact absurd (hno (i:Int) ((hpi _).2 ⟨i,rfl,h1,h2⟩)) h3
    ·refine⟨hok,fun w=>(hw w).trans ⟨fun⟨a,b⟩=>⟨a,fun i h1 h2 h3=>b (i:Int) ((hpi _).2 ⟨i,rfl,h1,h2⟩) h3⟩,fun⟨a,b⟩=>⟨a,fun z hz hs=>?_⟩⟩⟩;obtain⟨i,rfl,h1,h2⟩:=(hpi z).1 hz;exact b i h1 h2 hs
   obtain⟨hok,hw⟩:=hin;intro J13 hJ13;rw[if_neg (by have:=hok.isS;cases inn with|none=>cases this|some m=>simp)];refine hJ13 _ ⟨⟨by omega,hk⟩,hok.isS,?_⟩;have hx:okU (univ f) (jQ inn (bkB f k)):=hok.put (U2 hk)
   have he:∀v,aT (jQ inn (bkB f k)) v=true ↔ mf f outs k v\/v∈phB f k:=fun v=>by
    rw[Pg,XB,hw,decide_eq_true_eq]
   have hstep:=hstep _ hx he
   have hxl:=hx.len
   have hxs:=hx.isS
   show aa (α:=Bool) _ _
   intro J15 hJ15 J17 hJ17;have last:∀c,c=(if(ins.getD k default).isNone=true then true else if(!decide ((((ins.getD k default).getD []).length:Int)=(((jQ inn (bkB f k)).getD []).length:Int)))=true then true else ch)->J15 c:=fun c hc=>
    hJ15 c ⟨⟨by omega,hk⟩,hxs,⟨by omega,by omega⟩,by omega,⟨by omega,by omega⟩,by omega,ih4 _ ⟨ao Z1,hstep c hc⟩⟩
   refine⟨⟨by omega,by omega⟩,?_⟩;by_cases hc:(ins.getD k default).isNone=true
   ·rw[if_pos hc];refine hJ17 _ ?_;show if true=true then J15 true else J15 ch
    rw[if_pos rfl];exact last true (by rw[if_pos hc])
   ·rw[if_neg hc];have hik:ins.getD k default≠default:=fun e=>hc (by rw[e];rfl)
    have hil:=(hri.ai.ok k hk hik).1.len
    refine⟨⟨by omega,by omega⟩,by omega,?_,hJ17 _ ?_⟩
    ·exact Xo hxl Z1
    ·dsimp only;refine ifk (fun hd=>last true (by rw[if_neg hc];exact(if_pos hd).symm)) (fun hd=>last ch (by rw[if_neg hc];exact(if_neg hd).symm))
 refine ifk (fun hc=>start _ (.inr ⟨(okU.nil _).put U3,fun v=>?_⟩)) (fun hc=>start _ (.inl ⟨rfl,fun e=>hc (by subst e;rfl)⟩));have hk0:k=0:=by have:=of_decide_eq_true hc;omega
 show aT (w6 _ _) v=true ↔ _
 rw[tB];simp[hk0,aT,am]
end Go.Am
end

section
namespace Go.Am
open Go
theorem TW{n:Int}(h:(Lt.Of n).2=true):(1<=n/\n<=21/\(Lt.Of n).1.Least=2)\/(22<=n/\n<=24/\(Lt.Of n).1.Least=1)\/n=25\/(n=26/\(Lt.Of n).1.Least=1)\/(n=27/\(Lt.Of n).1.Least=2)\/(n=28/\(Lt.Of n).1.Least=2)\/n=29\/(n=30/\(Lt.Of n).1.Least=1)\/n=31\/n=32\/(n=33/\(Lt.Of n).1.Least=1)\/n=34:=by
 by_cases c1:1<=n/\n<=21
 ·exact .inl ⟨c1.1,c1.2,by unfold Lt.Of;rw[if_pos c1]⟩
 by_cases c2:22<=n/\n<=24
 ·exact .inr (.inl ⟨c2.1,c2.2,by unfold Lt.Of;rw[if_neg c1,if_pos c2]⟩)
 by_cases c25:n=25
 ·exact .inr (.inr (.inl c25))
 by_cases c26:n=26
 ·exact .inr (.inr (.inr (.inl ⟨c26,by unfold Lt.Of;rw[if_neg c1,if_neg c2,if_neg c25,if_pos c26]⟩)))
 by_cases c27:n=27
 ·exact .inr (.inr (.inr (.inr (.inl ⟨c27,by unfold Lt.Of;rw[if_neg c1,if_neg c2,if_neg c25,if_neg c26,if_pos c27]⟩))))
 by_cases c28:n=28
 ·exact .inr (.inr (.inr (.inr (.inr (.inl ⟨c28,by unfold Lt.Of;rw[if_neg c1,if_neg c2,if_neg c25,if_neg c26,if_neg c27,if_pos c28]⟩)))))
 by_cases c29:n=29
 ·exact .inr (.inr (.inr (.inr (.inr (.inr (.inl c29))))))
 by_cases c30:n=30
 ·exact .inr (.inr (.inr (.inr (.inr (.inr (.inr (.inl ⟨c30,by unfold Lt.Of;rw[if_neg c1,if_neg c2,if_neg c25,if_neg c26,if_neg c27,if_neg c28,if_neg c29,if_pos c30]⟩)))))))
 by_cases c31:n=31
 ·exact .inr (.inr (.inr (.inr (.inr (.inr (.inr (.inr (.inl c31))))))))
 by_cases c32:n=32
 ·exact .inr (.inr (.inr (.inr (.inr (.inr (.inr (.inr (.inr (.inl c32)))))))))
 by_cases c33:n=33
 ·exact .inr (.inr (.inr (.inr (.inr (.inr (.inr (.inr (.inr (.inr (.inl ⟨c33,by unfold Lt.Of;rw[if_neg c1,if_neg c2,if_neg c25,if_neg c26,if_neg c27,if_neg c28,if_neg c29,if_neg c30,if_neg c31,if_neg c32,if_pos c33]⟩))))))))))
 by_cases c34:n=34
 ·exact .inr (.inr (.inr (.inr (.inr (.inr (.inr (.inr (.inr (.inr (.inr c34))))))))))
 unfold Lt.Of at h;rw[if_neg c1,if_neg c2,if_neg c25,if_neg c26,if_neg c27,if_neg c28,if_neg c29,if_neg c30,if_neg c31,if_neg c32,if_neg c33,if_neg c34]at h;cases h
theorem CN(q:Lt.asked)(hp:vQ q)(KK:Bool->Prop)(h:KK (tE q)):xA q KK:=by
 unfold xA;obtain⟨h1,h2,h3,h4⟩:=hp;have hl:=TW h1
 unfold tE at h;have e30:∀J:Bool->Prop,(if q.i.Op=29 then J (decide (q.i.Op=29))else J (decide (q.i.Op=30)))=J (decide (q.i.Op=29\/q.i.Op=30)):=fun J=>by
  by_cases e:q.i.Op=29
  ·simp[e]
  ·simp[e]
 simp only[decide_eq_true_eq];simp only[e30,ay,decide_eq_true_eq];refine ifk (fun c1=>by rwa [if_pos c1]at h) (fun c1=>?_);rw[if_neg c1]at h;refine ifk (fun c2=>by rwa [if_pos c2]at h) (fun c2=>?_);rw[if_neg c2]at h;refine ifk (fun c3=>by rwa [if_pos c3]at h) (fun c3=>?_);rw[if_neg c3]at h;refine ifk (fun c4=>by rwa [if_pos c4]at h) (fun c4=>?_);rw[if_neg c4]at h;refine ifk (fun c5=>by rwa [if_pos c5]at h) (fun c5=>?_);rw[if_neg c5]at h;refine ifk (fun c6=>?_) (fun c6=>?_)
 ·rw[if_pos c6]at h;exact⟨⟨by omega,by omega⟩,h⟩
 rw[if_neg c6]at h;refine ifk (fun c7=>by rwa [if_pos c7]at h) (fun c7=>?_);rw[if_neg c7]at h;refine ifk (fun c8=>?_) (fun c8=>?_)
 ·rw[if_pos c8]at h;refine⟨⟨by omega,h2⟩,?_⟩
  grind
 rw[if_neg c8]at h;refine ifk (fun c9=>?_) (fun c9=>?_)
 ·rw[if_pos c9]at h;refine⟨⟨by omega,h2⟩,?_⟩;have:1<q.args.length:=by omega
  grind
 rw[if_neg c9]at h;refine ifk (fun c10=>?_) (fun c10=>?_)
 ·rw[if_pos c10]at h;have:1<q.args.length:=by omega
  grind
 rw[if_neg c10]at h;refine ifk (fun c11=>?_) (fun c11=>?_)
 ·rw[if_pos c11]at h;exact⟨fun hne=>by omega,h⟩
 rw[if_neg c11]at h;refine ifk (fun c12=>?_) (fun c12=>?_)
 ·rw[if_pos c12]at h;intro J hJ;have:=hJ _ h
  grind
 rw[if_neg c12]at h;refine ifk (fun c13=>?_) (fun c13=>?_)
 ·rw[if_pos c13]at h;intro J hJ;have:=hJ _ h
  grind
 rw[if_neg c13]at h;refine ifk (fun c14=>?_) (fun c14=>by rwa [if_neg c14]at h);rw[if_pos c14]at h;exact⟨⟨by omega,by omega⟩,h⟩
theorem ON(p:Lt.Program)(f:Lt.Func)(i:Lt.Instr)(hp:vL p f i)(KK:Lt.asked×Bool->Prop)(h:KK (m6 p f i)):MW p f i KK:=by
 unfold MW;dsimp only;have hp:i.Args.length<=1000000:=hp
 unfold m6 at h;intro J hJ;have kF:(mD f i&&i.Args.all fun a=>(cR f a).2)=false->KK (⟨⟨false,[],[],[],[]⟩,⟨0,[],[],[],[],[]⟩,[],[]⟩,false):=fun e=>by rw[if_neg (by rw[e];simp)]at h;exact h
 have j1:J (!((Lt.Of i.Op).2&&(decide ((Lt.Of i.Op).1.Least<=(i.Args.length:Int))&&decide ((i.Args.length:Int)<=(Lt.Of i.Op).1.Most)))):=hJ _ (by
  dsimp only;refine ifk (fun hc=>kF ?_) (fun hc J3 hJ3=>?_)
  ·unfold mD
   grind
  have hc:(Lt.Of i.Op).2=true/\(Lt.Of i.Op).1.Least<=(i.Args.length:Int)/\(i.Args.length:Int)<=(Lt.Of i.Op).1.Most:=by simpa using hc
  obtain⟨c1,c2,c3⟩:=hc;have fin:∀d:List UInt8,((!(Lt.Of i.Op).1.Dst||(jJ f i.Dst).2)=true)->d=EY f i->J3 ⟨p,i,d,[]⟩:=fun d hd e=>hJ3 _ (by
   dsimp only;intro hl;have hf:mD f i=true:=by
    unfold mD;rw[c1,decide_eq_true c2,decide_eq_true c3,hd];rfl
   rw[hf,Xn]at h kF;subst e;refine fW i.Args (fun(q:Lt.asked) (k:Int)=>(k,q)) (fun r q=>(q=⟨p,i,EY f i,q.args⟩/\(i.Args.all fun a=>(cR f a).2)=(r.all fun a=>(cR f a).2)/\q.args++mm f r=mm f i.Args)) (fun R q k x r hi hx _ ih hq=>?_) (fun R q hq=>?_) _ ⟨rfl,rfl,rfl⟩
   ·obtain⟨q1,q2,q3⟩:=hq;dsimp only;rw[if_pos (aH hi)];refine⟨ob hi,?_⟩;rw[Int.toNat_natCast,hx];have hlen:q.args.length<=i.Args.length:=by
     have:=congrArg List.length q3
     simp only[WM,mm,WJ]at this;omega
    refine ifk (fun hc=>kF ?_) (fun hc=>⟨⟨by simp only[WL,WQ];omega,by simp only[WL,WQ];omega⟩,?_⟩)
    ·rw[q2,W0,show(cR f x).2=false from by simpa using hc,XQ]
    ·have e:(⟨q.p,q.i,q.dst,q.args++[(cR f x).1]⟩:Lt.asked)=⟨p,i,EY f i,q.args++[(cR f x).1]⟩:=by rw[q1]
     rw[e];refine ih hl _ ⟨rfl,?_,?_⟩
     ·rw[q2,W0,show(cR f x).2=true from by simpa using hc,Xn]
     ·dsimp only;rw[<- q3];simp[mm]
   ·obtain⟨q1,q2,q3⟩:=hq;dsimp only;rw[if_neg (by simp)];rw[if_pos (by rw[q2];rfl)]at h;rw[q1,show q.args=mm f i.Args from by simpa[mm]using q3];exact h)
  refine ifk (fun hd=>ifk (fun hv=>kF ?_) (fun hv=>fin _ ?_ ?_)) (fun hd=>fin _ ?_ ?_)
  ·unfold mD;rw[hd,show(jJ f i.Dst).2=false from by simpa using hv];simp
  ·rw[show(jJ f i.Dst).2=true from by simpa using hv];simp
  ·unfold EY;rw[if_pos hd]
  ·rw[show(Lt.Of i.Op).1.Dst=false from by simpa using hd];rfl
  ·unfold EY;rw[if_neg hd])
 grind
theorem FB(p:Lt.Program)(f:Lt.Func)(i:Lt.Instr)(hp:TL p f i)(KK:Bool->Prop)(h:KK (ph p f i)):A0 p f i KK:=by
 unfold A0;refine⟨hp,ifk (fun hc=>⟨?_,?_⟩) (fun hc=>?_)⟩
 ·have e:(mD f i&&i.Args.all fun a=>(cR f a).2)=true:=by
   unfold m6 at hc;split at hc
   ·assumption
   ·cases hc
  have e2:m6 p f i=(⟨p,i,EY f i,mm f i.Args⟩,true):=by unfold m6;rw[if_pos e]
  rw[e2];unfold mD at e;simp only[WI,decide_eq_true_eq]at e;refine⟨e.1.1,by simp[mm],?_,?_⟩
  ·simp only[mm,WJ];exact e.1.2.1
  ·simp only[mm,WJ];exact e.1.2.2.1
 ·unfold ph at h;rw[hc,Xn]at h;exact h
 ·unfold ph at h;rw[show(m6 p f i).2=false from by simpa using hc,XQ]at h;exact h
end Go.Am
end

section
namespace Go.Am
open Go
open Lt (nmB toB Gd Rc bkB phB dZ Bare aT sA lS)
theorem R0(m:VM)(k v:List UInt8):v∈(br .s m k true).map (·.1) ↔ v∈m.map (·.1)\/v=k:=by
 rw[iS];split
 ·rename_i g;exact⟨.inl,fun h=>h.elim id fun e=>by rw[e];exact g⟩
 ·rw[WX,WU]
theorem RT(m:VM)(k:List UInt8):(br .s m k true).length<=m.length+1:=by
 have:=iS k true m
 have e:((br .s m k true).map (·.1)).length=(br .s m k true).length:=WJ _
 rw[<- e,this];split
 ·rw[WJ];omega
 ·rw[WM,WJ];simp
theorem um{α:Type}[Inhabited α]{body:(Int×VM->Prop)->Int×VM->Prop}(l:List α)(ar:α->Lt.Arg)(m:VM)(Q:VM->Prop)
  (hs:∀R(i:Nat)m,i<l.length->l.length<=4611686018427387904->((ar (l.getD i default)).Kind=1->R (i64.wrap ((i:Int)+1),br .s m (ar (l.getD i default)).S true))->(¬ (ar (l.getD i default)).Kind=1->R (i64.wrap ((i:Int)+1),m))->body R ((i:Int),m))
  (he:∀R m,Q m->body R ((l.length:Int),m)) (hl:l.length<=4611686018427387904)
  (h:∀m',(∀v,v∈m'.map (·.1) ↔ v∈m.map (·.1)\/∃a∈l,(ar a).Kind=1/\(ar a).S=v)->m'.length<=m.length+l.length->Q m'):ac body (0,m):=by
 refine fW l (fun m i=>(i,m)) (fun r m=>∀m',(∀v,v∈m'.map (·.1) ↔ v∈m.map (·.1)\/∃a∈r,(ar a).Kind=1/\(ar a).S=v)->m'.length<=m.length+r.length->Q m') (fun R m i x r hi hx _ ih h=>hs R i m hi hl (fun hc=>ih hl _ fun m' hm hn=>h m' (fun v=>?_) ?_) (fun hc=>ih hl _ fun m' hm hn=>h m' (fun v=>?_) ?_)) (fun R m h=>he R m (h m (fun v=>by simp) (by simp))) m h
 ·rw[hm,R0,hx];rw[hx]at hc;simp only[WR,exists_eq_or_imp];rw[or_assoc];exact or_congr Iff.rfl (or_congr ⟨fun e=>⟨hc,e.symm⟩,fun e=>e.2.symm⟩ Iff.rfl)
 ·have:=RT m (ar (l.getD i default)).S
  rw[WL];omega
 ·rw[hm];rw[hx]at hc;simp only[WR,exists_eq_or_imp];exact or_congr Iff.rfl ⟨.inr,fun h=>h.resolve_left fun e=>hc e.1⟩
 ·rw[WL];omega
theorem Fm(x:Lt.Instr)(hp:fD x)(KK:List (List UInt8)->Prop)(h:∀y,Dk x y->KK y):AN x KK:=by
 unfold AN;unfold fD P1 at hp;dsimp only;intro hl1;refine um x.Args id [] (fun m=>∀m',(∀v,v∈m'.map (·.1) ↔ v∈m.map (·.1)\/(∃f∈x.Frames,∃b∈f.Vars,b.A.Kind=1/\b.A.S=v)\/∃o∈x.Objs,∃a∈o.Vals,a.Kind=1/\a.S=v)->m'.length<=m.length+(x.Frames.map fun f=>f.Vars.length).sum+(x.Objs.map fun o=>o.Vals.length).sum->iZ (some m')/\∀y,fY (some m') y->KK y) (fun R i m hi hl k1 k2=>?_) (fun R m hQ=>?_) hl1 (fun m hm hn m' hm' hn'=>⟨⟨rfl,?_⟩,fun y hy=>h y fun v=>by rw[hy v];simp only[Xb];rw[hm',hm];simp only[List.map_nil,List.not_mem_nil,false_or,id];rfl⟩)
 ·rw[if_pos (aH hi)];intro J hJ;refine⟨ob hi,?_⟩;dsimp +instances only [Int.toNat_natCast]at hJ⊢
  exact ifk (fun hc=>hJ _ (k1 (of_decide_eq_true hc))) (fun hc=>hJ _ (k2 (by simpa using hc)))
 rotate_left
 ·simp only[Xb];simp only[WQ]at hn;omega
 rw[if_neg (by simp)];intro hl2;refine fW x.Frames (fun m i=>(i,m)) (fun r m=>∀m',(∀v,v∈m'.map (·.1) ↔ v∈m.map (·.1)\/(∃f∈r,∃b∈f.Vars,b.A.Kind=1/\b.A.S=v)\/∃o∈x.Objs,∃a∈o.Vals,a.Kind=1/\a.S=v)->m'.length<=m.length+(r.map fun f=>f.Vars.length).sum+(x.Objs.map fun o=>o.Vals.length).sum->iZ (some m')/\∀y,fY (some m') y->KK y) (fun R m i x' r hi hx _ ih h=>?_) (fun R m hQ=>?_) m hQ
 ·rw[if_pos (aH hi)];refine⟨ob hi,fun hl=>?_⟩;dsimp +instances only [Int.toNat_natCast]
  rw[hx];refine um x'.Vars (·.A) m (fun m'=>∀m'',(∀v,v∈m''.map (·.1) ↔ v∈m'.map (·.1)\/(∃f∈r,∃b∈f.Vars,b.A.Kind=1/\b.A.S=v)\/∃o∈x.Objs,∃a∈o.Vals,a.Kind=1/\a.S=v)->m''.length<=m'.length+(r.map fun f=>f.Vars.length).sum+(x.Objs.map fun o=>o.Vals.length).sum->iZ (some m'')/\∀y,fY (some m'') y->KK y) (fun R i m hi hl k1 k2=>?_) (fun R m hQ=>?_) (by rw[<- hx];exact hl) (fun m1 hm1 hn1 m2 hm2 hn2=>h m2 (fun v=>?_) ?_)
  ·rw[if_pos (aH hi)];intro J hJ;refine⟨ob hi,?_⟩;dsimp +instances only [Int.toNat_natCast]at hJ⊢
   exact ifk (fun hc=>hJ _ (k1 (of_decide_eq_true hc))) (fun hc=>hJ _ (k2 (by simpa using hc)))
  ·rw[if_neg (by simp)];exact ih hl2 _ hQ
  ·rw[hm2,hm1];simp only[WR,exists_eq_or_imp,or_assoc]
  ·simp only[List.map_cons,XR];omega
 rw[if_neg (by simp)];intro hl3;refine fW x.Objs (fun m i=>(i,m)) (fun r m=>∀m',(∀v,v∈m'.map (·.1) ↔ v∈m.map (·.1)\/∃o∈r,∃a∈o.Vals,a.Kind=1/\a.S=v)->m'.length<=m.length+(r.map fun o=>o.Vals.length).sum->iZ (some m')/\∀y,fY (some m') y->KK y) (fun R m i x' r hi hx _ ih h=>?_) (fun R m hQ=>?_) m (fun m' hm hn=>hQ m' (fun v=>by rw[hm];simp) (by simp only[List.map_nil,List.sum_nil];omega))
 ·rw[if_pos (aH hi)];refine⟨ob hi,fun hl=>?_⟩;dsimp +instances only [Int.toNat_natCast]
  rw[hx];refine um x'.Vals id m (fun m'=>∀m'',(∀v,v∈m''.map (·.1) ↔ v∈m'.map (·.1)\/∃o∈r,∃a∈o.Vals,a.Kind=1/\a.S=v)->m''.length<=m'.length+(r.map fun o=>o.Vals.length).sum->iZ (some m'')/\∀y,fY (some m'') y->KK y) (fun R i m hi hl k1 k2=>?_) (fun R m hQ=>?_) (by rw[<- hx];exact hl) (fun m1 hm1 hn1 m2 hm2 hn2=>h m2 (fun v=>?_) ?_)
  ·rw[if_pos (aH hi)];intro J hJ;refine⟨ob hi,?_⟩;dsimp +instances only [Int.toNat_natCast]at hJ⊢
   exact ifk (fun hc=>hJ _ (k1 (of_decide_eq_true hc))) (fun hc=>hJ _ (k2 (by simpa using hc)))
  ·rw[if_neg (by simp)];exact ih hl3 _ hQ
  ·rw[hm2,hm1];simp only[WR,exists_eq_or_imp,or_assoc,id]
  ·simp only[List.map_cons,XR];omega
 rw[if_neg (by simp)];exact hQ m (fun v=>by simp) (by simp)
theorem Az{P Q:List UInt8->Prop}(b:Lt.Block)(h:∀v,P v ↔ Q v):lS P b ↔ lS Q b:=by
 have:P=Q:=funext fun v=>propext (h v)
 rw[this]
theorem Cz(s:Lt.Vs)(b:Lt.Block)(hp:Po s b)(KK:Bool->Prop)(h:KK (jm s b)):xn s b KK:=by
 unfold xn;have kF:¬ lS (fun v=>aT s v=true) b->KK false:=fun hg=>by unfold jm at h;rw[Fa hg]at h;exact h
 have kT:lS (fun v=>aT s v=true) b->KK true:=fun hg=>by unfold jm at h;rw[rF hg]at h;exact h
 dsimp only;obtain⟨hp,hpu⟩:=hp;refine⟨hp,fun hl=>?_⟩;have es:some (s.getD [])=s:=by cases s with|none=>simp at hp|some m=>rfl
 have hpui:∀i,i<b.Code.length->fD (b.Code.getD i default):=fun i hi=>hpu _ (bt _ hi)
 let D:Nat->List (List UInt8):=fun i=>((b.Code.take i).map (·.Dst)).filter fun d=>!decide (d=[])
 have hD:∀i v,i<b.Code.length->(v∈D (i+1) ↔ v∈D i\/(v=(b.Code.getD i default).Dst/\v≠[])):=fun i v hi=>by
  show v∈List.filter _ _ ↔ v∈List.filter _ _\/_
  rw[bg _ hi];simp only[XC,Yj,WX,List.map_cons,List.map_nil,X5,WU];refine or_congr Iff.rfl ⟨fun⟨a,c⟩=>⟨a,by simpa using c⟩,fun⟨a,c⟩=>⟨a,by simpa using c⟩⟩
 have hD0:∀v,v ∉ D 0:=fun v hv=>by simp[D]at hv
 have hDl:D b.Code.length=dZ b:=by
  show List.filter _ _=_
  rw[Xz];rfl
 refine az _ b.Code.length (fun i v=>v.1=(i:Int)/\(∀w,aT (some v.2) w=true ↔ aT s w=true\/w∈D i)/\∀j,j<i->∀w,sA (b.Code.getD j default) w->aT s w=true\/w∈D j) (fun R i v hi⟨e,h1,h2⟩ih=>?_) (fun R v⟨e,h1,h2⟩=>?_) _ ⟨rfl,fun w=>by dsimp only;rw[es];exact⟨.inl,fun h=>h.resolve_right (hD0 w)⟩,fun j hj=>by omega⟩
 ·obtain⟨v1,m⟩:=v;dsimp only at e h1 h2⊢;subst e;rw[if_pos (aH hi)];intro J3 hJ3;dsimp +instances only [Int.toNat_natCast]at hJ3⊢
  have hd:=hD i
  have hpx:=hpui i hi
  have kF:(¬ ∀w,sA (b.Code.getD i default) w->aT s w=true\/w∈D i)->KK false:=fun hn=>kF fun hb=>hn (hb.1 i hi)
  have on:(∀w,sA (b.Code.getD i default) w->aT s w=true\/w∈D i)->∀m',(∀w,aT (some m') w=true ↔ aT s w=true\/w∈D (i+1))->J3 m':=fun hu m' hm'=>hJ3 _ (ih _ ⟨ao Z1,hm',fun j hj w hw=>by
   rcases W4 j i with h'|h'
   ·exact h2 j h' w hw
   ·obtain rfl:j=i:=by omega
    exact hu w hw⟩)
  generalize b.Code.getD i default=x at hd kF on hpx⊢;refine⟨ob hi,fun J5 hJ5=>⟨hpx,fun y hy hyl=>?_⟩⟩;have goF:(¬ ∀w,sA x w->aT s w=true\/w∈D i)->J5 true:=fun hn=>hJ5 _ (by show if true=true then KK false else _;rw[if_pos rfl];exact kF hn)
  refine az _ y.length (fun j v=>v=(j:Int)/\∀q,q<j->aT (some m) (y.getD q default)=true) (fun R8 j v hj⟨e,hq⟩ih8=>?_) (fun R8 v⟨e,hq⟩=>?_) _ ⟨rfl,fun q hq=>by omega⟩
  ·subst e;rw[if_pos (aH hj)];refine⟨ob hj,?_⟩;rw[Int.toNat_natCast];refine ifk (fun hc=>goF fun hu=>?_) (fun hc=>ih8 _ ⟨ao Z1,fun q hq'=>?_⟩)
   ·have:=(h1 _).2 (hu _ ((hy _).1 (bt _ hj)))
    have hc:(!aT (some m) (y.getD j default))=true:=hc
    rw[this]at hc;cases hc
   ·rcases W4 q j with h'|h'
    ·exact hq q h'
    ·obtain rfl:q=j:=by omega
     have hc:¬ (!aT (some m) (y.getD q default))=true:=hc
     simpa using hc
  ·subst e;rw[if_neg (by simp)];have hu:∀w,sA x w->aT s w=true\/w∈D i:=fun w hw=>by
    obtain⟨q,hq1,e⟩:=X0.1 ((hy w).2 hw);have:=hq q hq1
    rw[List.getD,WH hq1]at this;exact(h1 w).1 (by rw[<- e];exact this)
   refine hJ5 _ ?_;show if false=true then KK false else _
   rw[if_neg (by simp)];refine ifk (fun hc=>on hu _ fun w=>?_) (fun hc=>on hu _ fun w=>?_)
   ·rw[Ck,XB,h1,hd w hi,decide_eq_true_eq];have hc:¬ x.Dst=[]:=by simpa using hc
    constructor
    ·rintro(rfl|h|h)
     ·exact .inr (.inr ⟨rfl,hc⟩)
     ·exact .inl h
     ·exact .inr (.inl h)
    ·rintro(h|h|⟨h,_⟩)
     ·exact .inr (.inl h)
     ·exact .inr (.inr h)
     ·exact .inl h.symm
   ·have hc:x.Dst=[]:=by simpa using hc
    rw[h1,hd w hi];exact or_congr Iff.rfl ⟨.inl,fun h=>h.elim id fun⟨a,c⟩=>absurd (a.trans hc) c⟩
 ·obtain⟨v1,m⟩:=v;dsimp only at e h1 h2⊢;subst e;rw[if_neg (by simp)];rw[hDl]at h1;intro J10 hJ10;have fin:∀c:Bool,(c=true ↔ ((b.End.Kind=2\/b.End.Kind=3)->b.End.A.Kind=1->aT s b.End.A.S=true\/b.End.A.S∈dZ b))->J10 c:=fun c hc=>by
   refine hJ10 _ ?_;show KK c
   cases c with
   |true=>exact kT ⟨h2,hc.1 rfl⟩
   |false=>exact kF fun hb=>by have:=hc.2 hb.2;cases this
  have hm:∀w,(am (β:=Bool) .s m w).getD (dflt .bo)=aT (some m) w:=fun w=>rfl
  rw[hm];by_cases c2:b.End.Kind=2
  ·rw[if_neg (by simp[c2])];by_cases ca:b.End.A.Kind=1
   ·rw[if_neg (by simp[ca])];exact fin _ ((h1 _).trans ⟨fun h _ _=>h,fun h=>h (.inl c2) ca⟩)
   ·rw[if_pos (by simp[ca])];exact fin _ ⟨fun _ _ e=>absurd e ca,fun _=>rfl⟩
  ·rw[if_pos (by simp[c2])];by_cases c3:b.End.Kind=3
   ·rw[if_neg (by simp[c3])];by_cases ca:b.End.A.Kind=1
    ·rw[if_neg (by simp[ca])];exact fin _ ((h1 _).trans ⟨fun h _ _=>h,fun h=>h (.inr c3) ca⟩)
    ·rw[if_pos (by simp[ca])];exact fin _ ⟨fun _ _ e=>absurd e ca,fun _=>rfl⟩
   ·rw[if_pos (by simp[c3])];exact fin _ ⟨fun _ e=>absurd e (by simp[c2,c3]),fun _=>rfl⟩
theorem CA(f:Lt.Func)(s to:List UInt8)(KK:Bool->Prop)(h:KK (nu f s to)):xp f s to KK:=by
 unfold xp;intro hl;refine cM f.Blocks (fun l=>KK (oV to s l)) (fun R i x r hi hx _ ih h=>?_) (fun R h=>?_) h
 ·rw[if_pos (aH hi)];refine⟨ob hi,?_⟩;rw[Int.toNat_natCast,hx];unfold oV at h;refine ifk (fun hc=>?_) (fun hc=>?_)
  ·rw[if_pos (of_decide_eq_true hc)]at h;exact h
  ·rw[if_neg (by simpa using hc)]at h;exact ih hl h
 ·rw[if_neg (by simp)];exact h
theorem Fh(f:Lt.Func)(o:Option (List (List UInt8×Lt.Vs)))(KK:Bool->Prop)(h:KK (q7 f o)):AK f o KK:=by
 unfold AK;dsimp only;unfold q7 at h;intro _;refine cM f.Blocks (fun l=>KK (l.all fun b=>b.Phis.all fun x=>x.Ins.all (lW f o b))) (fun R i b r hi hx _ ih h=>?_) (fun R h=>?_) h
 ·rw[if_pos (aH hi)];refine⟨ob hi,?_⟩;dsimp +instances only [Int.toNat_natCast]
  rw[hx];intro _;rw[W0]at h;refine cM b.Phis (fun l=>KK ((l.all fun x=>x.Ins.all (lW f o b))&&r.all fun b=>b.Phis.all fun x=>x.Ins.all (lW f o b))) (fun R3 i3 x r3 hi3 hx3 _ ih3 h=>?_) (fun R3 h=>?_) h
  ·rw[if_pos (aH hi3)];refine⟨ob hi3,?_⟩;dsimp +instances only [Int.toNat_natCast]
   rw[hx3];intro _;rw[W0]at h;refine cM x.Ins (fun l=>KK ((l.all (lW f o b)&&r3.all fun x=>x.Ins.all (lW f o b))&&r.all fun b=>b.Phis.all fun x=>x.Ins.all (lW f o b))) (fun R5 i5 y r5 hi5 hx5 _ ih5 h=>?_) (fun R5 h=>?_) h
   ·rw[if_pos (aH hi5)];refine⟨ob hi5,?_⟩;dsimp +instances only [Int.toNat_natCast]
    rw[hx5];rw[W0]at h;intro J hJ;have fin:∀c:Bool,c=!lW f o b y->J c:=fun c e=>by
     subst e;refine hJ _ ?_;cases hc:lW f o b y with
     |false=>rw[hc]at h;exact h
     |true=>rw[hc,Xn]at h;exact ih5 (by assumption) h
    unfold lW at fin;refine ifk (fun h1=>?_) (fun h1=>fin _ (by rw[show(am .s (o.getD []) y.Block).isSome=false from by simpa using h1];rfl));rw[h1]at fin;refine ifk (fun h2=>?_) (fun h2=>fin _ (by rw[show nu f y.Block b.Name=false from by simpa using h2];rfl));rw[h2]at fin;refine ifk (fun h3=>fin _ (by rw[h3];rfl)) (fun h3=>fin _ ?_);rw[show(!decide (y.A.Kind=1))=false from by simpa using h3];rfl
   ·rw[if_neg (by simp)];exact ih3 (by assumption) h
  ·rw[if_neg (by simp)];exact ih (by assumption) h
 ·rw[if_neg (by simp)];exact h
theorem yb(to s:List UInt8):∀(l:List Lt.Block)(k:Nat),k<l.length->(l.getD k default).Name=s->(∀j,j<k->(l.getD j default).Name≠s)->oV to s l=rE (l.getD k default).End.To to
 |[],k,h,_,_=>absurd h (Nat.not_lt_zero _)
 |b::r,0,_,hn,_=>by
  have hn:b.Name=s:=hn
  unfold oV;rw[if_pos hn];rfl
 |b::r,k+1,h,hn,hj=>by
  have h0:¬ b.Name=s:=hj 0 (Nat.succ_pos _)
  unfold oV;rw[if_neg h0];exact yb to s r k (Nat.lt_of_succ_lt_succ h) hn fun j h'=>hj (j+1) (Nat.succ_lt_succ h')
theorem kJ{β:Type}(v:β):∀(m:List (List UInt8×β))(k0 k:List UInt8),am .s (br .s m k0 v) k=if k0=k then some v else am .s m k
 |[],k0,k=>by
  simp only[br,am,gX];by_cases e:k0=k
  ·rw[if_pos e,decide_eq_true e]
  ·rw[if_neg e,decide_eq_false e]
 |x::l,k0,k=>by
  have ih:=kJ v l k0 k
  simp only[br,am,gX];by_cases e:x.1=k0
  ·rw[decide_eq_true e];simp only[am,gX];by_cases e2:k0=k
   ·rw[if_pos e2,decide_eq_true e2]
   ·rw[if_neg e2,decide_eq_false e2,decide_eq_false (fun e3=>e2 (e.symm.trans e3))]
  ·rw[decide_eq_false e];simp only[am,gX];by_cases e2:x.1=k
   ·rw[decide_eq_true e2,if_neg (fun e3=>e (e2.trans e3.symm))]
   ·rw[decide_eq_false e2];exact ih
def U9(f:Lt.Func)(i:Nat)(m:List (List UInt8×Lt.Vs)):Prop:=
 ∀s,(∀k,k<i->nmB f.Blocks k=s->∃V,am .s m s=some V/\∀w,aT V w=true ↔ IG f k w)/\((∀k,k<i->nmB f.Blocks k≠s)->am .s m s=none)
theorem Ph{f:Lt.Func}{m:List (List UInt8×Lt.Vs)}(hg:Gd f.Blocks)(h:U9 f f.Blocks.length m):q7 f (some m)=true ↔ oF f:=by
 have key:∀(b:Lt.Block)(i:Lt.In),lW f (some m) b i=true ↔ ∀k,k<f.Blocks.length->nmB f.Blocks k=i.Block->b.Name∈toB f.Blocks k->i.A.Kind=1->IG f k i.A.S:=by
  intro b i;unfold lW;rw[Xb];by_cases he:∃k,k<f.Blocks.length/\nmB f.Blocks k=i.Block
  ·obtain⟨k,hk,hn⟩:=he;obtain⟨V,hV,hw⟩:=(h i.Block).1 k hk hn;have hl:nu f i.Block b.Name=decide (b.Name∈toB f.Blocks k):=by
    unfold nu;rw[yb _ _ _ k hk hn (fun j hj e=>by have:=hg.nd j k Z1 hk (e.trans hn.symm);omega),K9]
   rw[hV,hl,Option.isSome_some,Xb,Xn];simp only[XB,XE,decide_eq_false_iff_not,hw];constructor
   ·intro h1 k' hk' hn' ht hK;obtain rfl:=hg.nd k' k hk' hk (hn'.trans hn.symm);exact h1.elim (fun h2=>absurd ht h2) fun h2=>h2.elim (fun h3=>absurd hK h3) id
   ·intro h1;by_cases ht:b.Name∈toB f.Blocks k
    ·by_cases hK:i.A.Kind=1
     ·exact .inr (.inr (h1 k hk hn ht hK))
     ·exact .inr (.inl hK)
    ·exact .inl ht
  ·have hn:∀k,k<f.Blocks.length->nmB f.Blocks k≠i.Block:=fun k hk e=>he ⟨k,hk,e⟩
   rw[(h i.Block).2 hn];exact⟨fun _ k hk e=>absurd e (hn k hk),fun _=>rfl⟩
 unfold q7 oF;simp only[WY,key]
theorem CB(f:Lt.Func)(hp:Pp f)(KK:Bool->Prop)(h:KK (ln f)):xq f KK:=by
 unfold xq;obtain⟨hp,hpu⟩:=hp;have hg:Gd f.Blocks:=hp.2.1
 have kF:(¬ ((∀k,k<f.Blocks.length->lS (fun v=>¬ Bare f v k\/v∈phB f k) (bkB f k))/\oF f))->KK false:=fun hg=>by unfold ln at h;rw[Fa hg]at h;exact h
 have kT:((∀k,k<f.Blocks.length->lS (fun v=>¬ Bare f v k\/v∈phB f k) (bkB f k))/\oF f)->KK true:=fun hg=>by unfold ln at h;rw[rF hg]at h;exact h
 dsimp only;refine⟨hp,fun y hy hyl=>?_⟩;obtain⟨hyn,hy⟩:=hy;have hbe:∀k,k<f.Blocks.length->(jm (y.getD k default) (bkB f k)=true ↔ lS (fun v=>¬ Bare f v k\/v∈phB f k) (bkB f k)):=fun k hk=>by
  unfold jm;rw[I7];exact Az _ fun v=>(hy k hk).2 v
 refine az _ y.length (fun i v=>v.1=(i:Int)/\(∀k,k<i->lS (fun v=>¬ Bare f v k\/v∈phB f k) (bkB f k))/\U9 f i v.2) (fun R i v hi⟨e,h1,hO⟩ih=>?_) (fun R v⟨e,h1,hO⟩=>?_) _ ⟨rfl,fun k hk=>by omega,fun s=>⟨fun k hk=>absurd hk (Nat.not_lt_zero _),fun _=>rfl⟩⟩
 ·obtain⟨v1,m⟩:=v;dsimp only at e h1 hO⊢;subst e;rw[if_pos (aH hi)];have hk:i<f.Blocks.length:=by omega
  have hbe:=hbe i hk
  have hsm:=(hy i hk).1
  intro J4 hJ4;dsimp +instances only [Int.toNat_natCast]at hJ4⊢
  refine⟨ob hi,ob hk,⟨hsm,hpu _ (bt _ hk)⟩,?_⟩;refine ifk (fun hc=>kF fun hall=>?_) (fun hc=>?_)
  ·have hc:(!jm (y.getD i default) (bkB f i))=true:=hc
   rw[hbe.2 (hall.1 i hk)]at hc;cases hc
  ·have hc:¬ (!jm (y.getD i default) (bkB f i))=true:=hc
   have hb:=hbe.1 (by simpa using hc)
   have on:J4 (br .s m (nmB f.Blocks i) (fP (y.getD i default) (bkB f i))):=hJ4 _ (ih _ ⟨ao Z1,fun k hk'=>by
    rcases W4 k i with h'|h'
    ·exact h1 k h'
    ·obtain rfl:k=i:=by omega
     exact hb,fun s=>by
    dsimp only;rw[kJ];refine⟨fun k hk' hn=>?_,fun hno=>?_⟩
    ·rcases W4 k i with h'|h'
     ·rw[if_neg (fun e=>by have:=hg.nd i k hk Z1 (e.trans hn.symm);omega)];exact(hO s).1 k h' hn
     ·obtain rfl:k=i:=by omega
      rw[if_pos hn];refine⟨_,rfl,fun w=>?_⟩;rw[show aT (fP (y.getD k default) (bkB f k)) w=_ from tB _ _ _,XB,decide_eq_true_eq];unfold IG;exact or_congr ((hy k hk).2 w) Iff.rfl
    ·rw[if_neg (hno i (Nat.lt_succ_self _))];exact(hO s).2 fun k hk'=>hno k (Nat.lt_succ_of_lt hk')⟩)
   exact⟨ob hk,⟨ob hk,hsm,on⟩,hsm,ob hk,on⟩
 ·obtain⟨v1,m⟩:=v;dsimp only at e h1 hO⊢;subst e;rw[if_neg (by simp)];rw[hyn]at h1 hO;have:=Ph hg hO
  by_cases hP:oF f
  ·rw[this.2 hP];exact kT ⟨fun k hk=>h1 k hk,hP⟩
  ·rw[show q7 f (some m)=false from by simpa using fun e=>hP (this.1 e)];exact kF fun hc=>hP hc.2
end Go.Am
end

section
namespace Lt
open Go
def Rr(s:List UInt8)(b:Block):List (List UInt8):=(b.End.To.filter fun n=>decide (n=s)).map fun _=>b.Name
def frm(B:List Block)(s:List UInt8):List (List UInt8):=B.flatMap (Rr s)
def zb:List (List UInt8)->List In->Bool
 |_,[]=>true
 |l,x::r=>decide (x.Block∈l)&&zb (l.filter fun s=>!decide (s=x.Block)) r
def Dm(x:Phi)(l:List (List UInt8)):Prop:=x.Ins.length<=1000000/\l.length<=100000000
def yx(x:Phi)(l:List (List UInt8)):Bool:=decide ((x.Ins.length:Int)=(l.length:Int))&&zb l x.Ins
def vP(f:Func):Prop:=f.Blocks.length<=6000/\∀b∈f.Blocks,b.End.To.length<=6000/\b.Phis.length<=1000000/\∀p∈b.Phis,p.Ins.length<=1000000
def zV(B:List Block)(i:Nat):Bool:=!(decide (i=0)&&decide (0 < (B.getD i default).Phis.length))&&(B.getD i default).Phis.all fun x=>yx x (frm B (nmB B i))
def ka(f:Func):Bool:=(List.range f.Blocks.length).all (zV f.Blocks)
def nS(i:Instr)(a:Arg):Virt×Bool:=if a.Kind=5/\0<=a.N/\a.N < (i.Objs.length:Int)then(i.Objs.getD a.N.toNat default,true)else(⟨[],[]⟩,false)
def vOf(f:Func)(i:Instr)(a:Arg):List UInt8×Bool:=if(nS i a).2=true then((nS i a).1.Class,true)else cR f a
def IZ(f:Func)(i:Instr):List Bind->List (List UInt8)->Bool
 |[],_=>true
 |b::r,K=>if(!(vOf f i b.A).2||decide (b.Name∈K))=true then false else IZ f i r (K++[b.Name])
def wr(f:Func)(i:Instr)(x:Frame):Bool:=IZ f i x.Vars []
def DV(f:Func)(i:Instr):List Arg->List Var->Bool
 |a::l,v::r=>(vOf f i a).2&&(cF (vOf f i a).1 v.Type_&&DV f i l r)
 |_,_=>true
def DW(p:Program)(f:Func)(i:Instr)(o:Virt):Bool:=(bd p o.Class).2&&(decide (((bd p o.Class).1.Fields.length:Int)=(o.Vals.length:Int))&&DV f i o.Vals (bd p o.Class).1.Fields)
def wv(p:Program)(f:Func)(i:Instr):Bool:=i.Frames.all (wr f i)&&(i.Objs.all (DW p f i)&&decide ((0:Int) < (i.Frames.length:Int)))
def wt(p:Program)(f:Func)(i:Instr):Bool:=ph p f i&&(!(decide (i.Op=31)||decide (i.Op=34))||wv p f i)
def DT(p:Program)(f:Func)(b:Block):Bool:=b.Code.all (wt p f)&&Dp f b.End
def qJ(p:Program)(f:Func):Bool:=f.Blocks.all (DT p f)
def i7(_:Program)(f:Func):Prop:=∀b∈f.Blocks,∀i∈b.Code,i.Args.length<=1000000
def SV(f:Func)(x:Phi):Bool:=(cR f ⟨1,x.Dst,0⟩).2&&x.Ins.all fun i=>(cR f i.A).2&&cF (cR f i.A).1 (cR f ⟨1,x.Dst,0⟩).1
def DU(_:Program)(f:Func):Bool:=f.Blocks.all fun b=>b.Phis.all (SV f)
def gi(B:List Block):List (List UInt8):=B.flatMap fun b=>b.Phis.map (·.Dst)++dZ b
def wu(_:Program)(f:Func):Bool:=(f.Vars.all fun v=>decide (((gi f.Blocks).count v.Name:Int)=1))&&((f.Params.all fun v=>decide (((gi f.Blocks).count v.Name:Int)=0))&&true)
def mP(_:Program)(f:Func):Prop:=f.Blocks.length<=1000000/\∀b∈f.Blocks,b.Phis.length<=1000000/\b.Code.length<=1000000
noncomputable def vF(p:Program):List Func->Int
 |[]=>0
 |f::r=>if iq f=false\/ka f=false then 5 else if qJ p f=false\/DU p f=false\/wu p f=false\/ln f=false then 4 else vF p r
noncomputable def fJ(p:Program):Int:=if iE p=false\/p.SSA=false then 3 else if il p=false then 4 else vF p p.Funcs
def cc(p:Program):Prop:=kQ p/\∀f∈p.Funcs,i7 p f/\vP f/\mP p f/\qg f/\f.Params.length<=1000000/\(∀b∈f.Blocks,b.Phis.length<=1000000/\b.Code.length<=1000000)/\∀b∈f.Blocks,∀x∈b.Code,fD x
def IL:Bool:=true
def vM(p:Program):Prop:=p.ok/\(∀e∈p.Externs,inR e.N)/\(∀f∈p.Funcs,∀b∈f.Blocks,∀i∈b.Code,∀r∈i.Frames,inR r.At)/\(Few p 6000=true->cc p/\(mT p).length<=room)
def EB(_:Program):Bool:=true
end Lt
end

section
namespace Go.Am
open Go
def Ii(a0_x:Lt.Phi)(a1_l:List (List UInt8))(KK:Bool->Prop):Prop:=
 (a0_x.Ins.length<=4611686018427387904->(a1_l.length<=4611686018427387904->if(!decide ((a0_x.Ins.length:Int)=(a1_l.length:Int)))=true then(KK false)else((a1_l.length<=4611686018427387904->ac (α:=Int×List ((List UInt8)×Bool)) (fun R1 v2=>if(decide (v2.1 < (a1_l.length:Int)))=true then(((0:Int)<=v2.1/\v2.1.toNat<a1_l.length)/\R1 ((i64.wrap (v2.1+1)),(br .s v2.2 (a1_l.getD v2.1.toNat default) true)))else((a0_x.Ins.length<=4611686018427387904->ac (α:=Int×List ((List UInt8)×Bool)) (fun R3 v4=>if(decide (v4.1 < (a0_x.Ins.length:Int)))=true then(((0:Int)<=v4.1/\v4.1.toNat<a0_x.Ins.length)/\if(!((am (β:=Bool) .s v4.2 ((a0_x.Ins.getD v4.1.toNat default).Block)).getD (dflt .bo)))=true then(KK false)else(R3 ((i64.wrap (v4.1+1)),(nX .s v4.2 ((a0_x.Ins.getD v4.1.toNat default).Block)))))else(KK true)) (0,v2.2)))) (0,[])))))
def AU(a0_f:Lt.Func)(KK:Bool->Prop):Prop:=
 (a0_f.Blocks.length<=4611686018427387904->ac (α:=Int×List ((List UInt8)×List (List UInt8))) (fun R1 v2=>have z1:=a0_f.Blocks.getD v2.1.toNat default;if(decide (v2.1 < (a0_f.Blocks.length:Int)))=true then(((0:Int)<=v2.1/\v2.1.toNat<a0_f.Blocks.length)/\(((z1.End).To).length<=4611686018427387904->ac (α:=Int×List ((List UInt8)×List (List UInt8))) (fun R3 v4=>have z3:=((z1.End).To).getD v4.1.toNat default;have z4:=(am (β:=List (List UInt8)) .s v4.2 z3).getD [];if(decide (v4.1 < (((z1.End).To).length:Int)))=true then(((0:Int)<=v4.1/\v4.1.toNat < ((z1.End).To).length)/\(z4.length+([z1.Name]:List (List UInt8)).length<=4611686018427387904/\(z4.length+([z1.Name]:List (List UInt8)).length)*16<=140737488355328)/\z3=z3/\R3 ((i64.wrap (v4.1+1)),(br .s v4.2 z3 (z4++([z1.Name]:List (List UInt8))))))else(R1 ((i64.wrap (v2.1+1)),v4.2))) (0,v2.2)))else((a0_f.Blocks.length<=4611686018427387904->ac (α:=Int) (fun R5 v6=>have z2:=a0_f.Blocks.getD v6.toNat default;have z5:=(am (β:=List (List UInt8)) .s v2.2 (z2.Name)).getD (dflt (.sl .s));if(decide (v6 < (a0_f.Blocks.length:Int)))=true then(((0:Int)<=v6/\v6.toNat<a0_f.Blocks.length)/\aa (α:=Bool) (fun J7=>if(decide (v6=0))=true then(J7 (decide (0 < ((z2.Phis).length:Int))))else(J7 false)) (fun v8=>if v8=true then(KK false)else(((z2.Phis).length<=4611686018427387904->ac (α:=Int) (fun R9 v10=>if(decide (v10 < ((z2.Phis).length:Int)))=true then(((0:Int)<=v10/\v10.toNat < (z2.Phis).length)/\(Dm ((z2.Phis).getD v10.toNat default) z5)/\if(!(yx ((z2.Phis).getD v10.toNat default) z5))=true then(KK false)else(R9 (i64.wrap (v10+1))))else(R5 (i64.wrap (v6+1)))) 0))))else(KK true)) 0))) (0,[]))
end Go.Am
end

section
namespace Go.Am
open Go
open Lt (nmB toB Gd Rc)
def JX(m:List (List UInt8×Bool))(K:List (List UInt8)):Prop:=∀k,(am (β:=Bool) .s m k).getD false=decide (k∈K)
theorem JX.ins{m:List (List UInt8×Bool)}{K:List (List UInt8)}(h:JX m K)(k0:List UInt8):JX (br .s m k0 true) (K++[k0]):=by
 intro k;rw[kJ];by_cases e:k0=k
 ·rw[if_pos e];simp[e]
 ·rw[if_neg e,h k,decide_eq_decide,WX,WU];exact⟨.inl,fun h=>h.elim id fun h=>absurd h.symm e⟩
theorem Jc{β:Type}:∀(m:List (List UInt8×β))(k:List UInt8),k ∉ m.map (·.1)->am .s m k=none
 |[],_,_=>rfl
 |x::l,k,h=>by
  simp only[List.map_cons,WR,not_or]at h;simp only[am,gX];rw[decide_eq_false (fun e=>h.1 e.symm)];exact Jc l k h.2
theorem x8{β:Type}(v:β):∀(m:List (List UInt8×β))(k0 x:List UInt8),x∈(br .s m k0 v).map (·.1)->x=k0\/x∈m.map (·.1)
 |[],k0,x,h=>by simpa[br]using h
 |y::l,k0,x,h=>by
  simp only[br,gX]at h;by_cases e:y.1=k0
  ·rw[decide_eq_true e]at h;simp only[List.map_cons,WR]at h⊢;exact h.elim .inl fun h=>.inr (.inr h)
  ·rw[decide_eq_false e]at h;simp only[List.map_cons,WR]at h⊢;rcases h with h|h
   ·exact .inr (.inl h)
   ·exact(x8 v l k0 x h).elim .inl fun h=>.inr (.inr h)
theorem u6{β:Type}(v:β):∀(m:List (List UInt8×β))(k0:List UInt8),(m.map (·.1)).Nodup->((br .s m k0 v).map (·.1)).Nodup
 |[],k0,_=>by simp[br]
 |y::l,k0,h=>by
  obtain⟨h1,h2⟩:=Xl.1 h;simp only[br,gX];by_cases e:y.1=k0
  ·rw[decide_eq_true e];simp only[List.map_cons,Xl];exact⟨e ▸ h1,h2⟩
  ·rw[decide_eq_false e];simp only[List.map_cons,Xl];refine⟨fun hm=>?_,u6 v l k0 h2⟩;rcases x8 v l k0 _ hm with h3|h3
   ·exact e h3
   ·exact h1 h3
theorem BQ{β:Type}:∀(m:List (List UInt8×β))(k0 x:List UInt8),x∈(nX .s m k0).map (·.1)->x∈m.map (·.1)
 |[],k0,x,h=>h
 |y::l,k0,x,h=>by
  simp only[nX,gX]at h;by_cases e:y.1=k0
  ·rw[decide_eq_true e]at h;simp only[List.map_cons,WR];exact .inr h
  ·rw[decide_eq_false e]at h;simp only[List.map_cons,WR]at h⊢;exact h.elim .inl fun h=>.inr (BQ l k0 x h)
theorem xO{β:Type}:∀(m:List (List UInt8×β))(k0:List UInt8),(m.map (·.1)).Nodup->((nX .s m k0).map (·.1)).Nodup
 |[],_,h=>h
 |y::l,k0,h=>by
  obtain⟨h1,h2⟩:=Xl.1 h;simp only[nX,gX];by_cases e:y.1=k0
  ·rw[decide_eq_true e];exact h2
  ·rw[decide_eq_false e];simp only[List.map_cons,Xl];exact⟨fun hm=>h1 (BQ l k0 _ hm),xO l k0 h2⟩
theorem C1{β:Type}:∀(m:List (List UInt8×β))(k0 k:List UInt8),(m.map (·.1)).Nodup->am .s (nX .s m k0) k=if k0=k then none else am .s m k
 |[],k0,k,_=>by simp[nX,am]
 |y::l,k0,k,h=>by
  obtain⟨h1,h2⟩:=Xl.1 h;simp only[nX,am,gX];by_cases e:y.1=k0
  ·rw[decide_eq_true e];by_cases e2:k0=k
   ·rw[if_pos e2];exact Jc l k (e2 ▸ e ▸ h1)
   ·rw[if_neg e2,decide_eq_false (fun e3=>e2 (e.symm.trans e3))]
  ·rw[decide_eq_false e];simp only[am,gX];by_cases e2:y.1=k
   ·rw[decide_eq_true e2,if_neg (fun e3=>e (e2.trans e3.symm))]
   ·rw[decide_eq_false e2];exact C1 l k0 k h2
theorem Lu(x:Lt.Phi)(l:List (List UInt8))(hp:Dm x l)(KK:Bool->Prop)(h:KK (yx x l)):Ii x l KK:=by
 unfold Ii;obtain⟨hx,hl⟩:=hp;intro _ _;unfold yx at h;refine ifk (fun hc=>?_) (fun hc _=>?_)
 ·have:decide ((x.Ins.length:Int)=(l.length:Int))=false:=by simpa using hc
  rw[this]at h;exact h
 have:decide ((x.Ins.length:Int)=(l.length:Int))=true:=by simpa using hc
 rw[this,Xn]at h;refine az _ l.length (fun i v=>v.1=(i:Int)/\(v.2.map (·.1)).Nodup/\JX v.2 (l.take i)) (fun R i v hi⟨e,hd,hm⟩ih=>?_) (fun R v⟨e,hd,hm⟩=>?_) _ ⟨rfl,.nil,fun _=>rfl⟩
 ·obtain⟨v1,v2⟩:=v;dsimp only at e hd hm⊢;subst e;rw[if_pos (aH hi)];refine⟨ob hi,ih _ ⟨ao Z1,u6 _ _ _ hd,?_⟩⟩;rw[Int.toNat_natCast,bg _ hi];exact hm.ins _
 ·obtain⟨v1,v2⟩:=v;dsimp only at e hd hm⊢;subst e;rw[if_neg (by simp)];rw[Xz]at hm;intro _;refine az _ x.Ins.length (fun i v=>v.1=(i:Int)/\(v.2.map (·.1)).Nodup/\∃K,JX v.2 K/\KK (zb K (x.Ins.drop i))) (fun R i v hi⟨e,hd,K,hm,hk⟩ih=>?_) (fun R v⟨e,hd,K,hm,hk⟩=>?_) _ ⟨rfl,hd,l,hm,h⟩
  ·obtain⟨v1,v2⟩:=v;dsimp only at e hd hm⊢;subst e;rw[if_pos (aH hi)];refine⟨ob hi,?_⟩;rw[Int.toNat_natCast];rw[dw _ hi]at hk;unfold zb at hk;generalize x.Ins.getD i default=y at hk;have hy:(am (β:=Bool) .s v2 y.Block).getD (dflt .bo)=decide (y.Block∈K):=hm y.Block
   rw[hy];refine ifk (fun hc=>?_) (fun hc=>?_)
   ·have:decide (y.Block∈K)=false:=by simpa using hc
    rw[this,XQ]at hk;exact hk
   ·have:decide (y.Block∈K)=true:=by simpa using hc
    rw[this,Xn]at hk;refine ih _ ⟨ao Z1,xO _ _ hd,_,fun k=>?_,hk⟩;dsimp only;show(am (β:=Bool) .s (nX .s v2 y.Block) k).getD (dflt .bo)=_
    rw[C1 _ _ _ hd];by_cases e:y.Block=k
    ·rw[if_pos e];subst e;rw[decide_eq_false (fun hm=>by have:=(X5.1 hm).2;simp at this)];rfl
    ·rw[if_neg e];refine(hm k).trans ?_;rw[decide_eq_decide,X5];exact⟨fun h=>⟨h,by simpa using fun e'=>e e'.symm⟩,(·.1)⟩
  ·obtain⟨v1,v2⟩:=v;dsimp only at e hd hm⊢;subst e;rw[if_neg (by simp)];rw[XM]at hk;exact hk
theorem Om(s:List UInt8)(b:Lt.Block):(Rr s b).length<=b.End.To.length:=by
 unfold Rr;rw[WJ];exact XY _ _
theorem On(B:List Lt.Block)(s:List UInt8){i:Nat}(h:i<B.length):Lt.frm (B.take (i+1)) s=Lt.frm (B.take i) s++Rr s (B.getD i default):=by
 unfold Lt.frm;rw[bg B h,List.flatMap_append,List.flatMap_singleton]
theorem Fx(f:Lt.Func)(hp:vP f)(KK:Bool->Prop)(h:KK (ka f)):AU f KK:=by
 unfold AU;obtain⟨hn,hb⟩:=hp;have hfl:∀(i:Nat)(s:List UInt8),i<=f.Blocks.length->(Lt.frm (f.Blocks.take i) s).length<=36000000:=fun i s hi=>by
  unfold Lt.frm;refine Xo (pU _ 6000 _ (fun b hbm=>Xo (Om s b) (hb b (Yc hbm)).1)) ?_;rw[Xk,Nat.min_eq_left hi];exact Xo (Xv 6000 (Xo hi hn)) Z1
 intro _;refine az _ f.Blocks.length (fun i v=>v.1=(i:Int)/\∀s,(am (β:=List (List UInt8)) .s v.2 s).getD []=Lt.frm (f.Blocks.take i) s) (fun R i v hi⟨e,hm⟩ih=>?_) (fun R v⟨e,hm⟩=>?_) _ ⟨rfl,fun s=>rfl⟩
 ·obtain⟨v1,v2⟩:=v;dsimp only at e hm⊢;subst e;rw[if_pos (aH hi)];refine⟨ob hi,fun _=>?_⟩;dsimp +instances only [Int.toNat_natCast]
  have hs:=fun s=>On f.Blocks s hi
  have hb1:=(hb _ (bt _ hi)).1
  generalize f.Blocks.getD i default=b at hs hb1;refine az _ b.End.To.length (fun k v=>v.1=(k:Int)/\∀s,(am (β:=List (List UInt8)) .s v.2 s).getD []=Lt.frm (f.Blocks.take i) s++((b.End.To.take k).filter fun n=>decide (n=s)).map fun _=>b.Name) (fun R k v hk⟨e,hm⟩ih=>?_) (fun R v⟨e,hm⟩=>?_) _ ⟨rfl,fun s=>by simpa using hm s⟩
  ·obtain⟨v1,v2⟩:=v;dsimp only at e hm⊢;subst e;rw[if_pos (aH hk)];dsimp +instances only [Int.toNat_natCast]
   have htk:=bg b.End.To hk
   generalize b.End.To.getD k default=t at htk;have hlen:((am (β:=List (List UInt8)) .s v2 t).getD []).length<=37000000:=by
    rw[hm t,WM,WJ];have h2:∀p:List UInt8->Bool,((b.End.To.take k).filter p).length<=6000:=fun p=>Xo (XY _ _) (by rw[Xk];omega)
    exact Xo (Nat.add_le_add (hfl i t Z1) (h2 _)) Z1
   refine⟨ob hk,⟨by simp only[WL,WQ];omega,by simp only[WL,WQ];omega⟩,rfl,ih _ ⟨ao Z1,fun s=>?_⟩⟩;dsimp only;rw[kJ,htk,Yj,XC,<- Xm];by_cases e:t=s
   ·subst e;rw[if_pos rfl,Xb,hm t];simp
   ·rw[if_neg e,hm s];simp[e]
  ·obtain⟨v1,v2⟩:=v;dsimp only at e hm⊢;subst e;rw[if_neg (by simp)];refine ih _ ⟨ao Z1,fun s=>?_⟩;rw[hs s];have:=hm s
   rw[Xz]at this;exact this
 ·obtain⟨v1,m⟩:=v;dsimp only at e hm⊢;subst e;rw[if_neg (by simp)];rw[Xz]at hm;intro _;have kF:∀i,i<f.Blocks.length->zV f.Blocks i=false->KK false:=fun i hi hf=>by
   have:ka f=false:=by
    unfold ka;rw[List.all_eq_false];exact⟨i,Yi.2 hi,by rw[hf];simp⟩
   rw[this]at h;exact h
  refine az _ f.Blocks.length (fun i v=>v=(i:Int)/\∀j,j<i->zV f.Blocks j=true) (fun R i v hi⟨e,ha⟩ih=>?_) (fun R v⟨e,ha⟩=>?_) _ ⟨rfl,fun j hj=>by omega⟩
  ·subst e;rw[if_pos (aH hi)];refine⟨ob hi,fun J hJ=>?_⟩;dsimp +instances only [Int.toNat_natCast]
   have kF:=kF i hi
   have hbi:=hb _ (bt _ hi)
   have fr:∀s,(am (β:=List (List UInt8)) .s m s).getD (dflt (.sl .s))=Lt.frm f.Blocks s:=hm
   have eP:zV f.Blocks i=(!(decide (i=0)&&decide (0 < (f.Blocks.getD i default).Phis.length))&&(f.Blocks.getD i default).Phis.all fun x=>yx x (Lt.frm f.Blocks (nmB f.Blocks i))):=rfl
   have go:(!(decide (i=0)&&decide (0 < (f.Blocks.getD i default).Phis.length)))=true->J false:=fun h0=>by
    rw[h0,Xn]at eP;refine hJ false ?_;dsimp only;rw[if_neg (by simp)];dsimp +instances only [Int.toNat_natCast]
    intro _;rw[show(am (β:=List (List UInt8)) .s m (f.Blocks.getD i default).Name).getD (dflt (.sl .s))=Lt.frm f.Blocks (nmB f.Blocks i)from fr _];have hfr:(Lt.frm f.Blocks (nmB f.Blocks i)).length<=36000000:=by have:=hfl f.Blocks.length (nmB f.Blocks i) (WN _);rw[Xz]at this;exact this
    generalize f.Blocks.getD i default=b at eP hbi;generalize Lt.frm f.Blocks (nmB f.Blocks i)=l at eP hfr;refine az _ b.Phis.length (fun k v=>v=(k:Int)/\∀x∈b.Phis.take k,yx x l=true) (fun R9 k v hk⟨e,hx⟩ih9=>?_) (fun R9 v⟨e,hx⟩=>?_) _ ⟨rfl,fun x hx=>by simp at hx⟩
    ·subst e;rw[if_pos (aH hk)];refine⟨ob hk,?_⟩;rw[Int.toNat_natCast];have hmem:=bt b.Phis hk
     have htk:=bg b.Phis hk
     generalize b.Phis.getD k default=x at hmem htk;refine⟨⟨hbi.2.2 x hmem,by omega⟩,ifk (fun hc=>kF ?_) (fun hc=>ih9 _ ⟨ao Z1,fun y hy=>?_⟩)⟩
     ·rw[eP,List.all_eq_false];exact⟨x,hmem,by simpa using hc⟩
     ·rw[htk]at hy;rcases WX.1 hy with hy|hy
      ·exact hx y hy
      ·obtain rfl:=WU.1 hy;simpa using hc
    ·subst e;rw[if_neg (by simp)];rw[Xz]at hx;refine ih _ ⟨ao Z1,fun j hj=>?_⟩;rcases W4 j i with h'|h'
     ·exact ha j h'
     ·obtain rfl:j=i:=by omega
      rw[eP];exact WY.2 hx
   by_cases e0:i=0
   ·rw[if_pos (by rw[e0];rfl)];by_cases e1:0 < (f.Blocks.getD i default).Phis.length
    ·rw[decide_eq_true Z1];refine hJ true ?_;dsimp only;rw[if_pos rfl];refine kF ?_;rw[eP,decide_eq_true e0,decide_eq_true e1];rfl
    ·rw[decide_eq_false Z1];exact go (by rw[decide_eq_false e1];simp)
   ·rw[if_neg (by simpa using e0)];exact go (by rw[decide_eq_false e0];rfl)
  ·subst e;rw[if_neg (by simp)];have:ka f=true:=by
    unfold ka;rw[WY];exact fun i hi=>ha i (Yi.1 hi)
   rw[this]at h;exact h
end Go.Am
end

section
namespace Go.Am
open Go
def xC(a0_i:Lt.Instr)(a1_a:Lt.Arg)(KK:(Lt.Virt×Bool)->Prop):Prop:=
 aa (α:=Bool) (fun J1=>if(!decide (a1_a.Kind=5))=true then(J1 true)else(if(decide (a1_a.N < 0))=true then(J1 true)else(J1 (decide ((a0_i.Objs.length:Int)<=a1_a.N))))) (fun v2=>if v2=true then(KK ((Lt.Virt.mk ([]:List UInt8) []),false))else(((0:Int)<=a1_a.N/\a1_a.N.toNat<a0_i.Objs.length)/\KK ((a0_i.Objs.getD a1_a.N.toNat default),true)))
def Tc(a0_f:Lt.Func)(a1_i:Lt.Instr)(a2_a:Lt.Arg)(KK:(List UInt8×Bool)->Prop):Prop:=
 if((nS a1_i a2_a).2)=true then(KK (((nS a1_i a2_a).1).Class,true))else(KK ((cR a0_f a2_a).1,(cR a0_f a2_a).2))
def A4(a0_f:Lt.Func)(a1_i:Lt.Instr)(a2_x:Lt.Frame)(KK:Bool->Prop):Prop:=
 (a2_x.Vars.length<=4611686018427387904->ac (α:=Int×List ((List UInt8)×Bool)) (fun R1 v2=>if(decide (v2.1 < (a2_x.Vars.length:Int)))=true then(((0:Int)<=v2.1/\v2.1.toNat<a2_x.Vars.length)/\aa (α:=Bool) (fun J3=>if(!((Lt.vOf a0_f a1_i ((a2_x.Vars.getD v2.1.toNat default).A)).2))=true then(J3 true)else(J3 ((am (β:=Bool) .s v2.2 ((a2_x.Vars.getD v2.1.toNat default).Name)).getD (dflt .bo)))) (fun v4=>if v4=true then(KK false)else(R1 ((i64.wrap (v2.1+1)),(br .s v2.2 ((a2_x.Vars.getD v2.1.toNat default).Name) true)))))else(KK true)) (0,[]))
def Ir(a0_p:Lt.Program)(a1_f:Lt.Func)(a2_i:Lt.Instr)(a3_o:Lt.Virt)(KK:Bool->Prop):Prop:=
 aa (α:=Bool) (fun J1=>if(!((bd a0_p a3_o.Class).2))=true then(J1 true)else(J1 (!decide (((((bd a0_p a3_o.Class).1).Fields).length:Int)=(a3_o.Vals.length:Int))))) (fun v2=>if v2=true then(KK false)else((a3_o.Vals.length<=4611686018427387904->ac (α:=Int) (fun R3 v4=>if(decide (v4 < (a3_o.Vals.length:Int)))=true then(((0:Int)<=v4/\v4.toNat<a3_o.Vals.length)/\aa (α:=Bool) (fun J5=>if(!((Lt.vOf a1_f a2_i (a3_o.Vals.getD v4.toNat default)).2))=true then(J5 true)else(((0:Int)<=v4/\v4.toNat < (((bd a0_p a3_o.Class).1).Fields).length)/\J5 (!(cF ((Lt.vOf a1_f a2_i (a3_o.Vals.getD v4.toNat default)).1) (((((bd a0_p a3_o.Class).1).Fields).getD v4.toNat default).Type_))))) (fun v6=>if v6=true then(KK false)else(R3 (i64.wrap (v4+1)))))else(KK true)) 0)))
def A5(a0_p:Lt.Program)(a1_f:Lt.Func)(a2_i:Lt.Instr)(KK:Bool->Prop):Prop:=
 (a2_i.Frames.length<=4611686018427387904->ac (α:=Int) (fun R1 v2=>if(decide (v2 < (a2_i.Frames.length:Int)))=true then(((0:Int)<=v2/\v2.toNat<a2_i.Frames.length)/\if(!(wr a1_f a2_i (a2_i.Frames.getD v2.toNat default)))=true then(KK false)else(R1 (i64.wrap (v2+1))))else((a2_i.Objs.length<=4611686018427387904->ac (α:=Int) (fun R3 v4=>if(decide (v4 < (a2_i.Objs.length:Int)))=true then(((0:Int)<=v4/\v4.toNat<a2_i.Objs.length)/\if(!(DW a0_p a1_f a2_i (a2_i.Objs.getD v4.toNat default)))=true then(KK false)else(R3 (i64.wrap (v4+1))))else((a2_i.Frames.length<=4611686018427387904->KK (decide (0 < (a2_i.Frames.length:Int)))))) 0))) 0)
def xB(a0_p:Lt.Program)(a1_f:Lt.Func)(KK:Bool->Prop):Prop:=
 (a1_f.Blocks.length<=4611686018427387904->ac (α:=Int) (fun R1 v2=>have z1:=a1_f.Blocks.getD v2.toNat default;if(decide (v2 < (a1_f.Blocks.length:Int)))=true then(((0:Int)<=v2/\v2.toNat<a1_f.Blocks.length)/\((z1.Code).length<=4611686018427387904->ac (α:=Int) (fun R3 v4=>have z2:=(z1.Code).getD v4.toNat default;if(decide (v4 < ((z1.Code).length:Int)))=true then(((0:Int)<=v4/\v4.toNat < (z1.Code).length)/\aa (α:=Bool) (fun J5=>(TL a0_p a1_f z2)/\if(!(ph a0_p a1_f z2))=true then(J5 true)else(if(decide (z2.Op=31))=true then(J5 (!(wv a0_p a1_f z2)))else(if(decide (z2.Op=34))=true then(J5 (!(wv a0_p a1_f z2)))else(J5 false)))) (fun v6=>if v6=true then(KK false)else(R3 (i64.wrap (v4+1)))))else(if(!(Dp a1_f (Lt.Term.mk ((z1.End).Kind) ((z1.End).A) ((z1.End).To) ((z1.End).N))))=true then(KK false)else(R1 (i64.wrap (v2+1))))) 0))else(KK true)) 0)
def Iq(a0_p:Lt.Program)(a1_f:Lt.Func)(KK:Bool->Prop):Prop:=
 (a1_f.Blocks.length<=4611686018427387904->ac (α:=Int) (fun R1 v2=>have z2:=(a1_f.Blocks.getD v2.toNat default).Phis;if(decide (v2 < (a1_f.Blocks.length:Int)))=true then(((0:Int)<=v2/\v2.toNat<a1_f.Blocks.length)/\(z2.length<=4611686018427387904->ac (α:=Int) (fun R3 v4=>have z1:=z2.getD v4.toNat default;if(decide (v4 < (z2.length:Int)))=true then(((0:Int)<=v4/\v4.toNat<z2.length)/\if(!((cR a1_f (Lt.Arg.mk 1 (z1.Dst) 0)).2))=true then(KK false)else(((z1.Ins).length<=4611686018427387904->ac (α:=Int) (fun R5 v6=>if(decide (v6 < ((z1.Ins).length:Int)))=true then(((0:Int)<=v6/\v6.toNat < (z1.Ins).length)/\aa (α:=Bool) (fun J7=>if(!((cR a1_f (((z1.Ins).getD v6.toNat default).A)).2))=true then(J7 true)else(J7 (!(cF ((cR a1_f (((z1.Ins).getD v6.toNat default).A)).1) ((cR a1_f (Lt.Arg.mk 1 (z1.Dst) 0)).1))))) (fun v8=>if v8=true then(KK false)else(R5 (i64.wrap (v6+1)))))else(R3 (i64.wrap (v4+1)))) 0)))else(R1 (i64.wrap (v2+1)))) 0))else(KK true)) 0)
def Ip(a0_p:Lt.Program)(a1_f:Lt.Func)(KK:Bool->Prop):Prop:=
 (a1_f.Blocks.length<=4611686018427387904->ac (α:=Int×List ((List UInt8)×Int)) (fun R1 v2=>have z1:=a1_f.Blocks.getD v2.1.toNat default;if(decide (v2.1 < (a1_f.Blocks.length:Int)))=true then(((0:Int)<=v2.1/\v2.1.toNat<a1_f.Blocks.length)/\((z1.Phis).length<=4611686018427387904->ac (α:=Int×List ((List UInt8)×Int)) (fun R3 v4=>if(decide (v4.1 < ((z1.Phis).length:Int)))=true then(((0:Int)<=v4.1/\v4.1.toNat < (z1.Phis).length)/\R3 ((i64.wrap (v4.1+1)),(br .s v4.2 (((z1.Phis).getD v4.1.toNat default).Dst) (i64.wrap (((am (β:=Int) .s v4.2 (((z1.Phis).getD v4.1.toNat default).Dst)).getD (dflt (.i .i64)))+1)))))else(((z1.Code).length<=4611686018427387904->ac (α:=Int×List ((List UInt8)×Int)) (fun R5 v6=>have z2:=(z1.Code).getD v6.1.toNat default;if(decide (v6.1 < ((z1.Code).length:Int)))=true then(aa (α:=List ((List UInt8)×Int)) (fun J7=>((0:Int)<=v6.1/\v6.1.toNat < (z1.Code).length)/\if(!decide (z2.Dst=([]:List UInt8)))=true then(J7 (br .s v6.2 (z2.Dst) (i64.wrap (((am (β:=Int) .s v6.2 (z2.Dst)).getD (dflt (.i .i64)))+1))))else(J7 v6.2)) (fun v8=>R5 ((i64.wrap (v6.1+1)),v8)))else(R1 ((i64.wrap (v2.1+1)),v6.2))) (0,v4.2)))) (0,v2.2)))else((a1_f.Vars.length<=4611686018427387904->ac (α:=Int) (fun R9 v10=>if(decide (v10 < (a1_f.Vars.length:Int)))=true then(((0:Int)<=v10/\v10.toNat<a1_f.Vars.length)/\if(!decide (((am (β:=Int) .s v2.2 ((a1_f.Vars.getD v10.toNat default).Name)).getD (dflt (.i .i64)))=1))=true then(KK false)else(R9 (i64.wrap (v10+1))))else((a1_f.Params.length<=4611686018427387904->ac (α:=Int) (fun R11 v12=>if(decide (v12 < (a1_f.Params.length:Int)))=true then(((0:Int)<=v12/\v12.toNat<a1_f.Params.length)/\if(!decide (((am (β:=Int) .s v2.2 ((a1_f.Params.getD v12.toNat default).Name)).getD (dflt (.i .i64)))=0))=true then(KK false)else(R11 (i64.wrap (v12+1))))else(KK true)) 0))) 0))) (0,[]))
def tY(a0_p:Lt.Program)(KK:Int->Prop):Prop:=
 have z2:=(([(Lt.Clo.mk 17 []),(Lt.Clo.mk 18 []),(Lt.Clo.mk 19 []),(Lt.Clo.mk 20 [])].length:Nat):Int);if(!(iE a0_p))=true then(KK 3)else(if(!a0_p.SSA)=true then(KK 3)else((kQ a0_p)/\if(!(il a0_p))=true then(KK 4)else((a0_p.Funcs.length<=4611686018427387904->ac (α:=Int) (fun R1 v2=>have z1:=a0_p.Funcs.getD v2.toNat default;if(decide (v2 < (a0_p.Funcs.length:Int)))=true then(((0:Int)<=v2/\v2.toNat<a0_p.Funcs.length)/\(Pq z1)/\if(!(iq z1))=true then(KK 5)else((vP z1)/\if(!(ka z1))=true then(KK 5)else(([(Lt.Clo.mk 17 []),(Lt.Clo.mk 18 []),(Lt.Clo.mk 19 []),(Lt.Clo.mk 20 [])].length<=4611686018427387904->((0:Int)<=0/\0<z2)/\(i7 a0_p z1)/\if(!(qJ a0_p z1))=true then(KK 4)else(((0:Int)<=1/\1<z2)/\if(!(DU a0_p z1))=true then(KK 4)else(((0:Int)<=2/\2<z2)/\(mP a0_p z1)/\if(!(wu a0_p z1))=true then(KK 4)else(((0:Int)<=3/\3<z2)/\(Pp z1)/\if(!(ln z1))=true then(KK 4)else(R1 (i64.wrap (v2+1))))))))))else(KK 0)) 0))))
def lh(a0_p:Lt.Program)(KK:Bool->Prop):Prop:=
 aa (α:=Bool) (fun J1=>if(!IL)=true then(J1 true)else((Gg a0_p 6000)/\J1 (!(Lt.Few a0_p 6000)))) (fun v2=>if v2=true then(KK IL)else((nQ a0_p)/\(cc a0_p)/\(nQ a0_p)/\KK (decide ((mT a0_p)=(mT a0_p)))))
theorem CP(i:Lt.Instr)(a:Lt.Arg)(KK:Lt.Virt×Bool->Prop)(h:KK (nS i a)):xC i a KK:=by
 unfold xC;simp only[jval,bor,ay];unfold nS at h;refine ifk (fun hc=>?_) (fun hc=>?_)
 ·rw[if_neg (by simp only[XB,XE,decide_eq_false_iff_not,decide_eq_true_eq]at hc;omega)]at h;exact h
 ·simp only[XB,XE,decide_eq_false_iff_not,decide_eq_true_eq]at hc;rw[if_pos Z1]at h;exact⟨⟨by omega,by omega⟩,h⟩
theorem RO(f:Lt.Func)(i:Lt.Instr)(a:Lt.Arg)(KK:List UInt8×Bool->Prop)(h:KK (Lt.vOf f i a)):Tc f i a KK:=by
 unfold Tc;unfold Lt.vOf at h;exact ifk (fun hc=>by rw[if_pos hc]at h;exact h) (fun hc=>by rw[if_neg hc]at h;exact h)
theorem FF(f:Lt.Func)(i:Lt.Instr)(x:Lt.Frame)(KK:Bool->Prop)(h:KK (wr f i x)):A4 f i x KK:=by
 unfold A4;unfold wr at h;intro _;refine fW x.Vars (fun m i=>(i,m)) (fun r m=>∃K,JX m K/\KK (IZ f i r K)) (fun R m k b r hk hx _ ih⟨K,hm,h⟩=>?_) (fun R m⟨K,hm,h⟩=>?_) [] ⟨[],fun _=>rfl,h⟩
 ·dsimp only;rw[if_pos (aH hk)];refine⟨ob hk,?_⟩;dsimp +instances only [Int.toNat_natCast]
  rw[hx,show(am (β:=Bool) .s m b.Name).getD (dflt .bo)=decide (b.Name∈K)from hm _];simp only[jval,bor,ay];unfold IZ at h;exact ifk (fun hc=>by rw[if_pos hc]at h;exact h) (fun hc=>by rw[if_neg hc]at h;exact ih (by assumption) _ ⟨_,hm.ins _,h⟩)
 ·dsimp only;rw[if_neg (by simp)];exact h
theorem LC(p:Lt.Program)(f:Lt.Func)(i:Lt.Instr)(o:Lt.Virt)(KK:Bool->Prop)(h:KK (DW p f i o)):Ir p f i o KK:=by
 unfold Ir;simp only[jval,bor,ay];unfold DW at h;refine ifk (fun hc=>?_) (fun hc _=>?_)
 ·rcases(XB _ _).mp hc with hc|hc
  ·rw[show(bd p o.Class).2=false from by simpa using hc,XQ]at h;exact h
  ·rw[show decide (((bd p o.Class).1.Fields.length:Int)=(o.Vals.length:Int))=false from by simpa using hc,XQ,Bool.and_false]at h;exact h
 ·simp only[XB,XE,not_or,Bool.not_eq_false]at hc;rw[hc.1,hc.2,Xn,Xn]at h;have hl:=of_decide_eq_true hc.2
  generalize(bd p o.Class).1.Fields=fs at h hl;refine az _ o.Vals.length (fun k v=>v=(k:Int)/\KK (DV f i (o.Vals.drop k) (fs.drop k))) (fun R k v hk⟨e,h⟩ih=>?_) (fun R v⟨e,h⟩=>?_) _ ⟨rfl,h⟩
  ·subst e;rw[if_pos (aH hk)];have hk2:k<fs.length:=by omega
   refine⟨ob hk,?_⟩;dsimp +instances only [Int.toNat_natCast]
   rw[dw _ hk,dw _ hk2]at h;unfold DV at h;generalize o.Vals.getD k default=a at h;generalize fs.getD k default=v at h;intro J hJ;refine ifk (fun hc=>hJ true ?_) (fun hc=>⟨ob hk2,hJ _ ?_⟩)
   ·rw[show(Lt.vOf f i a).2=false from by simpa using hc,XQ]at h;exact h
   ·rw[show(Lt.vOf f i a).2=true from by simpa using hc,Xn]at h;refine ifk (fun hc=>?_) (fun hc=>ih _ ⟨ao Z1,?_⟩)
    ·rw[show cF (Lt.vOf f i a).1 v.Type_=false from by simpa using hc,XQ]at h;exact h
    ·rw[show cF (Lt.vOf f i a).1 v.Type_=true from by simpa using hc,Xn]at h;exact h
  ·subst e;rw[if_neg (by simp)];rw[XM]at h;unfold DV at h;exact h
theorem FG(p:Lt.Program)(f:Lt.Func)(i:Lt.Instr)(KK:Bool->Prop)(h:KK (wv p f i)):A5 p f i KK:=by
 unfold A5;unfold wv at h;intro _;refine cd i.Frames (wr f i) _ KK (fun R k x hk hx _ ih hf=>?_) (fun R h=>?_) h
 ·rw[if_pos (aH hk)];refine⟨ob hk,?_⟩;rw[Int.toNat_natCast,hx];exact ifk (fun hc=>hf (by simpa using hc)) (fun hc=>ih (by assumption) (by simpa using hc))
 ·rw[if_neg (by simp)];intro _;refine cd i.Objs (DW p f i) _ KK (fun R k x hk hx _ ih hf=>?_) (fun R h=>?_) h
  ·rw[if_pos (aH hk)];refine⟨ob hk,?_⟩;rw[Int.toNat_natCast,hx];exact ifk (fun hc=>hf (by simpa using hc)) (fun hc=>ih (by assumption) (by simpa using hc))
  ·rw[if_neg (by simp)];exact fun _=>h
def on2(A B:Prop)(c:Bool):Prop:=(c=true->A)/\(c=false->B)
theorem CO(p:Lt.Program)(f:Lt.Func)(hp:i7 p f)(KK:Bool->Prop)(h:KK (qJ p f)):xB p f KK:=by
 unfold xB;intro _;refine cd f.Blocks (DT p f) true KK (fun R k b hk hx hb ih hf=>?_) (fun R h=>?_) (by rw[XZ];exact h)
 ·rw[if_pos (aH hk)];refine⟨ob hk,?_⟩;dsimp +instances only [Int.toNat_natCast]
  rw[hx];intro _;refine cd b.Code (wt p f) (Dp f b.End) (on2 (R (i64.wrap ((k:Int)+1))) (KK false)) (fun R3 j x hj hy hm ih3 hf3=>?_) (fun R3 h3=>?_) ⟨ih (by assumption),hf⟩
  ·rw[if_pos (aH hj)];refine⟨ob hj,?_⟩;dsimp +instances only [Int.toNat_natCast]
   rw[hy];intro J hJ;refine⟨hp b hb x hm,?_⟩;have fin:∀c:Bool,c=!wt p f x->J c:=fun c e=>by
    subst e;refine hJ _ ?_;cases hv:wt p f x with
    |false=>exact(hf3 hv).2 rfl
    |true=>exact ih3 (by assumption) hv
   unfold wt at fin;refine ifk (fun hc=>fin _ (by rw[show ph p f x=false from by simpa using hc];rfl)) (fun hc=>?_);rw[show ph p f x=true from by simpa using hc]at fin;refine ifk (fun hc=>fin _ (by rw[hc];rfl)) (fun hc=>?_);rw[show decide (x.Op=31)=false from by simpa using hc]at fin;exact ifk (fun hc=>fin _ (by rw[hc];rfl)) (fun hc=>fin _ (by rw[show decide (x.Op=34)=false from by simpa using hc];rfl))
  ·rw[if_neg (by simp)];exact ifk (fun hc=>h3.2 (by simpa using hc)) (fun hc=>h3.1 (by simpa using hc))
 ·rw[if_neg (by simp)];exact h
theorem LB(p:Lt.Program)(f:Lt.Func)(KK:Bool->Prop)(h:KK (DU p f)):Iq p f KK:=by
 unfold Iq;intro _;refine cd f.Blocks (fun b=>b.Phis.all (SV f)) true KK (fun R k b hk hx hb ih hf=>?_) (fun R h=>?_) (by rw[XZ];exact h)
 ·rw[if_pos (aH hk)];refine⟨ob hk,?_⟩;dsimp +instances only [Int.toNat_natCast]
  rw[hx];intro _;refine cd b.Phis (SV f) true (on2 (R (i64.wrap ((k:Int)+1))) (KK false)) (fun R3 j x hj hy hm ih3 hf3=>?_) (fun R3 h3=>?_) (by rw[XZ];exact⟨ih (by assumption),hf⟩)
  ·rw[if_pos (aH hj)];refine⟨ob hj,?_⟩;dsimp +instances only [Int.toNat_natCast]
   rw[hy];unfold SV at ih3 hf3;generalize cR f ⟨1,x.Dst,0⟩=w at ih3 hf3;refine ifk (fun hc=>(hf3 (by rw[show w.2=false from by simpa using hc];rfl)).2 rfl) (fun hc _=>?_);rw[show w.2=true from by simpa using hc]at ih3 hf3;refine cd x.Ins (fun i=>(cR f i.A).2&&cF (cR f i.A).1 w.1) true (on2 (R3 (i64.wrap ((j:Int)+1))) (KK false)) (fun R5 n y hn hz _ ih5 hf5=>?_) (fun R5 h5=>?_) (by rw[XZ];exact⟨fun e=>ih3 (by assumption) (by rw[e];rfl),fun e=>(hf3 (by rw[e];rfl)).2 rfl⟩)
   ·rw[if_pos (aH hn)];refine⟨ob hn,?_⟩;dsimp +instances only [Int.toNat_natCast]
    rw[hz];simp only[jval,bor,ay];refine ifk (fun hc=>(hf5 ?_).2 rfl) (fun hc=>ih5 (by assumption) ?_)
    ·cases h1:(cR f y.A).2<;>simp_all
    ·cases h1:(cR f y.A).2<;>simp_all
   ·rw[if_neg (by simp)];exact h5.1 rfl
  ·rw[if_neg (by simp)];exact h3.1 rfl
 ·rw[if_neg (by simp)];exact h
def JE(m:List (List UInt8×Int))(L:List (List UInt8)):Prop:=∀k,(am (β:=Int) .s m k).getD 0=(L.count k:Int)
theorem JE.ins{m:List (List UInt8×Int)}{L:List (List UInt8)}(h:JE m L)(hl:L.length<=4000000000000000)(k0:List UInt8):JE (br .s m k0 (i64.wrap ((am (β:=Int) .s m k0).getD (dflt (.i .i64))+1))) (L++[k0]):=by
 intro k;rw[kJ,show(am (β:=Int) .s m k0).getD (dflt (.i .i64))=(L.count k0:Int)from h k0,List.count_append,List.count_singleton];have:=List.count_le_length (a:=k0) (l:=L)
 by_cases e:k0=k
 ·subst e;rw[if_pos rfl,ao Z1];simp
 ·rw[if_neg e,h k];simp[e]
theorem yS(B:List Lt.Block){i:Nat}(h:i<B.length):gi (B.take (i+1))=gi (B.take i)++((B.getD i default).Phis.map (·.Dst)++dZ (B.getD i default)):=by
 unfold gi;rw[bg B h,List.flatMap_append,List.flatMap_singleton]
theorem LA(p:Lt.Program)(f:Lt.Func)(hp:mP p f)(KK:Bool->Prop)(h:KK (wu p f)):Ip p f KK:=by
 unfold Ip;obtain⟨hn,hb⟩:=hp;have hlen:∀i,(gi (f.Blocks.take i)).length<=2000000000000:=fun i=>by
  unfold gi;refine Xo (pU _ 2000000 _ fun b hm=>?_) (Xo (Xv 2000000 (Xo (List.length_take_le' _ _) hn)) (by decide));have:=hb b (Yc hm)
  unfold dZ;rw[WM,WJ];have h2:=XY (fun d=>!decide (d=([]:List UInt8))) (b.Code.map (·.Dst))
  rw[WJ]at h2;omega
 intro _;refine az _ f.Blocks.length (fun i v=>v.1=(i:Int)/\JE v.2 (gi (f.Blocks.take i))) (fun R i v hi⟨e,hm⟩ih=>?_) (fun R v⟨e,hm⟩=>?_) _ ⟨rfl,fun _=>rfl⟩
 ·obtain⟨v1,v2⟩:=v;dsimp only at e hm⊢;subst e;rw[if_pos (aH hi)];refine⟨ob hi,?_⟩;dsimp +instances only [Int.toNat_natCast]
  have hs:=yS f.Blocks hi
  have hl:=hlen i
  have hbi:=hb _ (bt _ hi)
  generalize gi (f.Blocks.take i)=L at hm hs hl;generalize f.Blocks.getD i default=b at hs hbi;intro _;refine az _ b.Phis.length (fun j v=>v.1=(j:Int)/\JE v.2 (L++(b.Phis.take j).map (·.Dst))) (fun R3 j v hj⟨e,hm⟩ih3=>?_) (fun R3 v⟨e,hm⟩=>?_) _ ⟨rfl,by simpa using hm⟩
  ·obtain⟨v1,v2⟩:=v;dsimp only at e hm⊢;subst e;rw[if_pos (aH hj)];refine⟨ob hj,ih3 _ ⟨ao Z1,?_⟩⟩;dsimp +instances only [Int.toNat_natCast]
   rw[bg _ hj,XC,<- Xm];exact hm.ins (by rw[WM,WJ,Xk];omega) _
  ·obtain⟨v1,v2⟩:=v;dsimp only at e hm⊢;subst e;rw[if_neg (by simp)];rw[Xz]at hm;intro _;refine az _ b.Code.length (fun j v=>v.1=(j:Int)/\JE v.2 (L++b.Phis.map (·.Dst)++((b.Code.take j).map (·.Dst)).filter fun d=>!decide (d=[]))) (fun R5 j v hj⟨e,hm⟩ih5=>?_) (fun R5 v⟨e,hm⟩=>?_) _ ⟨rfl,by simpa using hm⟩
   ·obtain⟨v1,v2⟩:=v;dsimp only at e hm⊢;subst e;rw[if_pos (aH hj)];intro J hJ;refine⟨ob hj,?_⟩;dsimp +instances only [Int.toNat_natCast]
    have htk:=bg b.Code hj
    have hlj:(((b.Code.take j).map (·.Dst)).filter fun d=>!decide (d=([]:List UInt8))).length<=1000000:=by
     have h2:=XY (fun d=>!decide (d=([]:List UInt8))) ((b.Code.take j).map (·.Dst))
     rw[WJ,Xk]at h2;omega
    generalize b.Code.getD j default=x at htk;refine ifk (fun hc=>hJ _ (ih5 _ ⟨ao Z1,?_⟩)) (fun hc=>hJ _ (ih5 _ ⟨ao Z1,?_⟩))
    ·dsimp only;rw[htk,XC,Yj,List.map_singleton,Yr,if_pos hc,List.filter_nil,<- Xm];exact hm.ins (by simp only[WM,WJ];omega) _
    ·dsimp only;rw[htk,XC,Yj,List.map_singleton,Yr,if_neg hc,List.filter_nil,X4];exact hm
   ·obtain⟨v1,v2⟩:=v;dsimp only at e hm⊢;subst e;rw[if_neg (by simp)];rw[Xz]at hm;refine ih _ ⟨ao Z1,?_⟩;dsimp only;rw[hs,<- Xm];exact hm
 ·obtain⟨v1,m⟩:=v;dsimp only at e hm⊢;subst e;rw[if_neg (by simp)];rw[Xz]at hm;have hm:∀k,(am (β:=Int) .s m k).getD (dflt (.i .i64))=((gi f.Blocks).count k:Int):=hm
  unfold wu at h;intro _;refine cd f.Vars _ _ KK (fun R k x hk hx _ ih hf=>?_) (fun R h=>?_) h
  ·rw[if_pos (aH hk)];refine⟨ob hk,?_⟩;rw[Int.toNat_natCast,hx,hm];exact ifk (fun hc=>hf (by simpa using hc)) (fun hc=>ih (by assumption) (by simpa using hc))
  ·rw[if_neg (by simp)];intro _;refine cd f.Params _ _ KK (fun R k x hk hx _ ih hf=>?_) (fun R h=>?_) h
   ·rw[if_pos (aH hk)];refine⟨ob hk,?_⟩;rw[Int.toNat_natCast,hx,hm];exact ifk (fun hc=>hf (by simpa using hc)) (fun hc=>ih (by assumption) (by simpa using hc))
   ·rw[if_neg (by simp)];exact h
theorem zA(p:Lt.Program)(hp:cc p)(KK:Int->Prop)(h:KK (fJ p)):tY p KK:=by
 unfold tY;unfold fJ at h;obtain⟨hh,hf⟩:=hp;dsimp only;refine ifk (fun hc=>by rw[if_pos (.inl (by simpa using hc))]at h;exact h) (fun hc=>?_);refine ifk (fun hc2=>by rw[if_pos (.inr (by simpa using hc2))]at h;exact h) (fun hc2=>?_);rw[if_neg (by simp only[XE,Bool.not_eq_false]at hc hc2;rw[hc,hc2];simp)]at h;refine⟨hh,ifk (fun hc3=>by rw[if_pos (by simpa using hc3)]at h;exact h) (fun hc3 _=>?_)⟩;rw[if_neg (by simpa using hc3)]at h;refine cM p.Funcs (fun l=>KK (Lt.vF p l)) (fun R i x r hi hx hm ih h=>?_) (fun R h=>?_) h
 ·rw[if_pos (aH hi)];refine⟨ob hi,?_⟩;dsimp +instances only [Int.toNat_natCast]
  rw[hx];obtain⟨h1,h2,h3,h4,h5,h6,h7⟩:=hf x hm;unfold Lt.vF at h;refine⟨h4,ifk (fun c1=>by rw[if_pos (.inl (by simpa using c1))]at h;exact h) (fun c1=>?_)⟩;have c1:iq x=true:=by simpa using c1
  refine⟨h2,ifk (fun c2=>by rw[if_pos (.inr (by simpa using c2))]at h;exact h) (fun c2 _=>?_)⟩;have c2:ka x=true:=by simpa using c2
  rw[if_neg (by rw[c1,c2];simp)]at h;have hg:Lt.Gd x.Blocks:=by unfold iq at c1;exact I7.1 c1
  refine⟨⟨by simp,by simp only[WL,WQ];omega⟩,h1,ifk (fun d1=>by rw[if_pos (.inl (by simpa using d1))]at h;exact h) (fun d1=>?_)⟩;have d1:qJ p x=true:=by simpa using d1
  refine⟨⟨by simp,by simp only[WL,WQ];omega⟩,ifk (fun d2=>by rw[if_pos (.inr (.inl (by simpa using d2)))]at h;exact h) (fun d2=>?_)⟩;have d2:DU p x=true:=by simpa using d2
  refine⟨⟨by simp,by simp only[WL,WQ];omega⟩,h3,ifk (fun d3=>by rw[if_pos (.inr (.inr (.inl (by simpa using d3))))]at h;exact h) (fun d3=>?_)⟩;have d3:wu p x=true:=by simpa using d3
  refine⟨⟨by simp,by simp only[WL,WQ];omega⟩,⟨⟨h4,hg,h5,h6⟩,h7⟩,ifk (fun d4=>by rw[if_pos (.inr (.inr (.inr (by simpa using d4))))]at h;exact h) (fun d4=>?_)⟩;have d4:ln x=true:=by simpa using d4
  rw[if_neg (by rw[d1,d2,d3,d4];simp)]at h;exact ih (by assumption) h
 ·rw[if_neg (by simp)];exact h
theorem vb(p:Lt.Program)(hp:vM p)(KK:Bool->Prop)(h:KK (EB p)):lh p KK:=by
 obtain⟨okP,okE,okAt,hr⟩:=hp;unfold lh;have h:KK true:=h
 intro J hJ;have hm:Gg p 6000:=⟨okP,by decide⟩
 refine ifk (fun hc=>absurd hc (by decide)) (fun _=>⟨hm,hJ _ ?_⟩);refine ifk (fun hc=>h) (fun hc=>?_);have hc:Lt.Few p 6000=true:=by simpa using hc
 have hf:nQ p:=⟨okP,okE,okAt,(hr hc).2⟩
 exact⟨hf,(hr hc).1,hf,by rw[decide_eq_true rfl];exact h⟩
theorem kk{α:Type}{KK:α->Prop}{a b:α}(h:KK a)(e:a=b):KK b:=e ▸ h
theorem OI(s:List UInt8)(KK:Bool->Prop)(h:KK (Lt.kept s)):MQ s KK:=by
 unfold MQ;(try simp only[ay,aJ,aK,jval,bor,band,bnand,bimp,and_self]);unfold Lt.kept at h;simpa only[Bool.or_assoc]using h
theorem OJ(s:List UInt8)(KK:Bool->Prop)(h:KK (Lt.kind s)):MR s KK:=by
 unfold MR;(try simp only[ay,aJ,aK,jval,bor,band,bnand,bimp,and_self]);unfold Lt.kind at h;simpa only[Bool.or_assoc]using h
theorem Fk(c:UInt8)(KK:Bool->Prop)(h:KK (Lt.letter c)):AM c KK:=by
 unfold AM;(try simp only[ay,aJ,aK,jval,bor,band,bnand,bimp,and_self]);refine kk h ?_;unfold Lt.letter Ja
 grind
theorem wS(c:UInt8)(KK:Bool->Prop)(h:KK (sb c)):sr c KK:=by
 unfold sr;(try simp only[ay,aJ,aK,jval,bor,band,bnand,bimp,and_self]);exact h
theorem Lf(n:Int)(KK:Int->Prop)(h:KK (Lt.Plain n)):G3 n KK:=by
 unfold G3;(try simp only[ay,aJ,aK,jval,bor,band,bnand,bimp,and_self]);unfold Lt.Plain at h;exact h
theorem OG(s:List UInt8)(KK:Bool->Prop)(h:KK (Lt.Name s)):MM s KK:=by
 unfold MM;(try simp only[ay,aJ,aK,jval,bor,band,bnand,bimp,and_self,VW,Wg,Wh]);have hn:¬ s=[]->0<s.length:=by cases s<;>simp
 refine⟨fun h1 h2=>⟨Int.le_refl _,by grind⟩,?_⟩;split
 ·refine kk h ?_;unfold Lt.Name;grind
 ·intro hl;refine cJ (α:=UInt8) s hl vp true KK _ (fun R i hi ih hF=>?_) (fun R h=>?_) (kk h ?_)
  ·have hd:s.getD i 0=s.getD i default:=rfl
   simp only[aH hi,if_true,Int.toNat_natCast,hd];unfold vp at ih hF;refine⟨fun _=>⟨WO i,hi⟩,fun _ _=>⟨WO i,hi⟩,?_⟩
   grind
  ·simp only[fK,WP,if_false];exact⟨False.elim,False.elim,h⟩
  ·unfold Lt.Name;grind
theorem Lz(l:List Lt.Var)(most:Int)(KK:Bool->Prop)(h:KK (Lt.typed l most)):Io l most KK:=by
 unfold Io;(try simp only[ay,aJ,aK,jval,bor,band,bnand,bimp,and_self]);unfold Lt.typed at h;intro hl;split
 ·refine kk h ?_;grind
 ·intro _;refine cJ l hl (fun v=>Lt.Name v.Name&&Lt.kind v.Type_) true KK _ (fun R i hi ih hF=>?_) (fun R h=>?_) (kk h ?_)
  ·simp only[aH hi,if_true,Int.toNat_natCast];refine⟨⟨WO i,hi⟩,?_⟩
   grind
  ·simp only[fK,WP,if_false];exact h
  ·grind
theorem wT(a:Lt.Arg)(KK:Bool->Prop)(h:KK (nU a)):sv a KK:=by
 unfold sv;(try simp only[ay,aJ,aK,jval,bor,band,bnand,bimp,and_self]);refine kk h ?_;unfold nU
 grind
theorem zy(l:List Lt.Arg)(objs:Bool)(KK:Bool->Prop)(h:KK (dq l objs)):tW l objs KK:=by
 unfold tW;(try simp only[ay,aJ,aK,jval,bor,band,bnand,bimp,and_self]);intro hl;refine cJ l hl (gC objs) true KK _ (fun R i hi ih hF=>?_) (fun R h=>?_) (kk h ?_)
 ·simp only[aH hi,if_true,Int.toNat_natCast];refine⟨⟨WO i,hi⟩,?_⟩;unfold gC at ih hF
  grind
 ·simp only[fK,WP,if_false];exact h
 ·simp[dq]
theorem Nx(a:Lt.Arg)(o:Bool):dq [a] o=gC o a:=by simp[dq]
theorem Li(f:Lt.Frame)(KK:Bool->Prop)(h:KK (Lt.frame f)):G6 f KK:=by
 unfold G6;(try simp only[ay,aJ,aK,jval,bor,band,bnand,bimp,and_self]);unfold Lt.frame at h;split
 ·refine kk h ?_;grind
 ·intro hl;refine cJ f.Vars hl ra true KK _ (fun R i hi ih hF=>?_) (fun R h=>?_) (kk h ?_)
  ·simp only[aH hi,if_true,Int.toNat_natCast,Nx];refine⟨⟨WO i,hi⟩,?_⟩;unfold ra at ih hF
   grind
  ·simp only[fK,WP,if_false];exact h
  ·grind
theorem RK(l:List UInt8)(n:Int)(KK:List UInt8->Prop)(h:KK (Lt.nth l n)):S9 l n KK:=by
 unfold S9;(try simp only[ay,aJ,aK,fC,lI,jval,bor,band,bnand,bimp,and_self]);unfold Lt.nth at h;by_cases hl:l.length<=LEN
 ·refine az _ (l.length+1) (fun k x=>∃(n:Int)(f i:Nat),x=(n,(f:Int),(i:Int))/\i=k+1/\f<i/\f<=l.length/\KK (LK l (l.length+1-k) n f i)) (fun R k x hk hP hR=>?_) (fun R x hP=>?_) _ ⟨n,0,1,rfl,by omega,by omega,by omega,h⟩
  ·obtain⟨n,f,i,rfl,hi1,hf,hf2,h⟩:=hP;intro _;by_cases hi:i<l.length
   ·simp only[aH hi,if_true,Int.toNat_natCast];refine⟨⟨WO i,hi⟩,?_⟩;rw[show l.length+1-k=(l.length+1 - (k+1))+1 by omega]at h;simp only[LK,hi,if_true]at h;have w1:i64.wrap ((i:Int)+1)=((i+1:Nat):Int):=ao (by unfold LEN at hl;omega)
    have w2:i64.wrap ((f:Int)+1)=((f+1:Nat):Int):=ao (by unfold LEN at hl;omega)
    rw[w1,w2];dsimp +instances only [Int.toNat_natCast]
    split
    ·rename_i hc;have hc':¬ (((l.getD i 0).toNat:Nat):Int)=32:=by simpa using hc
     rw[if_neg hc']at h;exact hR _ ⟨n,f,i+1,rfl,by omega,by omega,by omega,h⟩
    ·rename_i hc;have hc':(((l.getD i 0).toNat:Nat):Int)=32:=by simpa using hc
     rw[if_pos hc']at h;split
     ·rename_i hz;have hz':i64.wrap (n - 1)=0:=by simpa using hz
      rw[if_pos hz']at h;exact⟨WO _,WO _,⟨by omega,by omega⟩,h⟩
     ·rename_i hz;have hz':¬ i64.wrap (n - 1)=0:=by simpa using hz
      rw[if_neg hz']at h;exact hR _ ⟨_,i,i+1,rfl,by omega,by omega,by omega,h⟩
   ·have hf:decide ((i:Int) < (l.length:Int))=false:=by simp;omega
    simp only[hf,WP,if_false];rw[show l.length+1-k=(l.length+1 - (k+1))+1 by omega]at h;simp only[LK,hi,if_false]at h;exact h
  ·obtain⟨n,f,i,rfl,hi1,hf,hf2,h⟩:=hP;intro _;have hf:decide ((i:Int) < (l.length:Int))=false:=by simp;omega
   simp only[hf,WP,if_false];rw[show l.length+1 - (l.length+1)=0 by omega]at h;exact h
 ·exact⟨1,fun h=>absurd h hl⟩
theorem UE(op:Int)(KK:Lt.Form×Bool->Prop)(h:KK (Lt.Of op)):U8 op KK:=by
 unfold U8;(try simp only[ay,aJ,aK,jval,bor,band,bnand,bimp,and_self]);refine kk h ?_;unfold Lt.Of Lt.two;simp only[WI,decide_eq_true_eq]
theorem RP{α:Type}(l:List α):((l.length:Int)=0)=(l=[]):=by
 cases l<;>simp
 omega
theorem RL(x:Lt.Phi)(KK:Bool->Prop)(h:KK (Lt.phi x)):Ta x KK:=by
 unfold Ta;(try simp only[ay,aJ,aK,fC,lI,jval,bor,band,bnand,bimp,and_self]);have e0:=RP x.Ins
 unfold Lt.phi at h;split
 ·refine kk h ?_;grind
 ·intro hl;refine cJ x.Ins hl zq true KK _ (fun R i hi ih hF=>?_) (fun R h=>?_) (kk h ?_)
  ·simp only[aH hi,if_true,Int.toNat_natCast,Nx];refine⟨⟨WO i,hi⟩,?_⟩;unfold zq at ih hF
   grind
  ·simp only[fK,WP,if_false];exact h
  ·grind
theorem O7(a:Lt.Arg):(decide (a.Kind=0)&&(decide (a.S=([]:List UInt8))&&decide (a.N=0)))=Jd a:=by
 obtain⟨k,s,n⟩:=a;simp only[Jd,Lt.Arg.mk.injEq];by_cases h1:k=0<;>by_cases h2:s=[]<;>by_cases h3:n=0<;>simp[h1,h2,h3]
theorem CF(t:Lt.Term)(KK:Bool->Prop)(h:KK (tD t)):xv t KK:=by
 unfold xv;(try simp only[ay,aJ,aK,fC,lI,jval,bor,band,bnand,bimp,and_self]);intro hl;unfold tD at h;refine cJ t.To hl Lt.Name _ KK _ (fun R i hi ih hF=>?_) (fun R h=>?_) h
 ·simp only[aH hi,if_true,Int.toNat_natCast];refine⟨⟨WO i,hi⟩,?_⟩
  grind
 ·simp only[fK,WP,if_false,O7,Nx];have e0:((t.To.length:Int)=0)=(t.To.length=0):=propext Z1
  have e1:((t.To.length:Int)=1)=(t.To.length=1):=propext Z1
  have e2:((t.To.length:Int)=2)=(t.To.length=2):=propext Z1
  refine kk h ?_;simp only[e0,e1,e2]
  grind
theorem Lj(x:Lt.Instr)(KK:Bool->Prop)(h:KK (Lt.instr x)):G7 x KK:=by
 unfold G7;dsimp only;(try simp only[ay,aJ,aK,jval,bor,band,bnand,bimp,and_self]);have e0:=RP x.Frames
 have e1:=RP x.Objs
 unfold Lt.instr at h;refine ifk (fun hc=>kk h (by grind)) (fun hA hl=>?_);refine ifk (fun hc=>kk h (by grind)) (fun hB=>?_);refine ifk (fun hc hl=>kk h (by grind)) (fun hC hl=>?_);refine cJ x.Frames hl Lt.frame (x.Objs.all Lt.virt) KK _ (fun R i hi ih hF=>?_) (fun R h=>?_) (kk h ?_)
 ·simp only[aH hi,if_true,Int.toNat_natCast];refine⟨⟨WO i,hi⟩,?_⟩
  grind
 ·simp only[fK,WP,if_false];intro hl2;refine cJ x.Objs hl2 Lt.virt true KK _ (fun R i hi ih hF=>?_) (fun R h=>?_) (kk h ?_)
  ·simp only[aH hi,if_true,Int.toNat_natCast];refine⟨⟨WO i,hi⟩,?_⟩;unfold Lt.virt at ih hF
   grind
  ·simp only[fK,WP,if_false];exact h
  ·simp
 ·grind
theorem Lh(b:Lt.Block)(KK:Bool->Prop)(h:KK (Lt.block b)):G5 b KK:=by
 unfold G5;(try simp only[ay,aJ,aK,jval,bor,band,bnand,bimp,and_self]);unfold Lt.block at h;split
 ·refine kk h ?_;grind
 ·intro hl;refine cJ b.Phis hl Lt.phi (b.Code.all Lt.instr) KK _ (fun R i hi ih hF=>?_) (fun R h=>?_) (kk h ?_)
  ·simp only[aH hi,if_true,Int.toNat_natCast];refine⟨⟨WO i,hi⟩,?_⟩
   grind
  ·simp only[fK,WP,if_false];intro hl2;refine cJ b.Code hl2 Lt.instr true KK _ (fun R i hi ih hF=>?_) (fun R h=>?_) (kk h ?_)
   ·simp only[aH hi,if_true,Int.toNat_natCast];refine⟨⟨WO i,hi⟩,?_⟩
    grind
   ·simp only[fK,WP,if_false];exact h
   ·simp
  ·grind
theorem rG(f:Lt.Func)(KK:Bool->Prop)(h:KK (dh f)):ma f KK:=by
 unfold ma;dsimp only;(try simp only[ay,aJ,aK,jval,bor,band,bnand,bimp,and_self]);have e0:=RP f.Blocks
 unfold dh at h;refine ifk (fun hc=>kk h (by grind)) (fun hA hl=>?_);refine oQ f.Blocks hl (fun(b:{b:Nat // b<=1024}) i=>((b.1:Int),i)) (fun t b=>Lt.blocks t b.1) KK _ (fun R b i hi ih h=>?_) (fun R b h=>?_) ⟨0,by omega⟩ (kk h (by grind))
 ·obtain⟨b,hb⟩:=b;simp only[aH hi,if_true,Int.toNat_natCast]
  try dsimp +instances only [Int.toNat_natCast]
  refine⟨⟨WO i,hi⟩,?_⟩;generalize f.Blocks.getD i default=x at h;obtain⟨bn,bp,bc,⟨k,a,t,n⟩⟩:=x;dsimp only at h ih⊢;simp only[Lt.blocks]at h;intro _;refine ifk (fun hc=>kk h (by grind)) (fun hc _ _=>?_);simp only[XB,decide_eq_true_eq,not_or]at hc;have w1:i64.wrap ((bp.length:Int)+(bc.length:Int))=((bp.length+bc.length:Nat):Int):=by rw[dj Z1 Z1];omega
  have w2:i64.wrap ((b:Int)+((bp.length+bc.length:Nat):Int))=((b+(bp.length+bc.length):Nat):Int):=by rw[dj Z1 Z1];omega
  rw[w1,w2];refine ifk (fun hc=>kk h (by grind)) (fun hc=>?_);have hle:b+(bp.length+bc.length)<=1024:=by grind
  exact ih ⟨_,hle⟩ (kk h (by grind))
 ·simp only[fK,WP,if_false];simpa only[Lt.blocks]using h
theorem wP(p:Lt.Program)(KK:Bool->Prop)(h:KK (iE p)):sm p KK:=by
 unfold sm;dsimp only;(try simp only[ay,aJ,aK,jval,bor,band,bnand,bimp,and_self]);unfold iE at h;intro _;refine ifk (fun hc=>kk h (by grind)) (fun hA hl=>?_);refine cJ p.Classes hl oO (p.Externs.all jv&&p.Funcs.all dh) KK _ (fun R i hi ih hF=>?_) (fun R h=>?_) (kk h (by grind))
 ·simp only[aH hi,if_true,Int.toNat_natCast];refine⟨⟨WO i,hi⟩,?_⟩;unfold oO at ih hF
  grind
 ·simp only[fK,WP,if_false];intro hl2;refine cJ p.Externs hl2 jv (p.Funcs.all dh) KK _ (fun R i hi ih hF=>?_) (fun R h=>?_) h
  ·simp only[aH hi,if_true,Int.toNat_natCast];refine⟨⟨WO i,hi⟩,?_⟩;unfold jv at ih hF
   grind
  ·simp only[fK,WP,if_false];intro hl3;refine cJ p.Funcs hl3 dh true KK _ (fun R i hi ih hF=>?_) (fun R h=>?_) (kk h (by simp))
   ·simp only[aH hi,if_true,Int.toNat_natCast];refine⟨⟨WO i,hi⟩,?_⟩
    grind
   ·simp only[fK,WP,if_false];exact h
theorem bO{α:Type}[Inhabited α]{l:List α}{P:α->Prop}(h:∀x∈l,P x){i:Nat}(hi:i<l.length):P (l.getD i default):=h _ (bt l hi)
theorem cK{α:Type}[Inhabited α](l:List α)(most:Int)(go:List α->Int->Int)(h0:∀b,go [] b=b)(h1:∀x r b,¬ b<=most->go (x::r) b=b)(KK:Int->Prop)(A B:(Int×Int->Prop)->Int×Int->Prop)
  (hs:∀R b i,l.length<=LEN->i<l.length->b<=most->(∀b',KK (go (l.drop (i+1)) b')->R (b',i64.wrap ((i:Int)+1)))->KK (go (l.getD i default::l.drop (i+1)) b)->A R (b,(i:Int)))
  (he:∀R b i,KK b->B R (b,i)) (b:Int) (h:KK (go l b)):ac (fun R v=>l.length<=4611686018427387904->if(decide (v.2 < (l.length:Int))&&decide (v.1<=most))=true then A R v else B R v) (b,0):=by
 by_cases hl:l.length<=LEN
 ·refine KW l hl go KK _ (fun R b i hi ih h _=>?_) (fun R b h _=>?_) b h
  ·by_cases hb:b<=most
   ·rw[if_pos (by simp only[aH hi,hb,decide_true,Ye])];exact hs R b i hl hi hb ih h
   ·rw[if_neg (by simp[hb])];rw[h1 _ _ _ hb]at h;exact he R b i h
  ·rw[if_neg (by simp)];rw[h0]at h;exact he R b _ h
 ·exact⟨1,fun h=>absurd h hl⟩
theorem wO(l:List Lt.Var)(most:Int)(KK:Int->Prop)(h:KK (ce l most)):sk l most KK:=by
 unfold sk;(try simp only[ay,aJ,aK,fC,lI,jval,bor,band,bnand,bimp,and_self]);unfold ce at h;intro _;refine ifk (fun hc=>kk h (by grind)) (fun hc _=>?_);refine cK l most (uA most) (fun _=>rfl) (fun x r b hb=>by simp[uA,hb]) KK _ _ (fun R b i hl hi hb ih h=>?_) (fun R b i h=>h) _ (kk h (by grind));simp only[Int.toNat_natCast]
 try dsimp +instances only [Int.toNat_natCast]
 refine⟨⟨WO i,hi⟩,fun _=>?_⟩;simp only[uA,Lt.plus,hb,if_true]at h;have o:=ob hi
 grind
theorem wN(l:List Lt.Arg)(most:Int)(KK:Int->Prop)(h:KK (dN l most)):si l most KK:=by
 unfold si;(try simp only[ay,aJ,aK,fC,lI,jval,bor,band,bnand,bimp,and_self]);unfold dN at h;intro _;refine ifk (fun hc=>kk h (by grind)) (fun hc _=>?_);refine cK l most (uz most) (fun _=>rfl) (fun x r b hb=>by simp[uz,hb]) KK _ _ (fun R b i hl hi hb ih h=>?_) (fun R b i h=>h) _ (kk h (by grind));simp only[Int.toNat_natCast]
 try dsimp +instances only [Int.toNat_natCast]
 refine⟨⟨WO i,hi⟩,fun _=>?_⟩;simp only[uz,Lt.plus,hb,if_true]at h;exact ih _ h
theorem ve(x:Lt.Instr)(most:Int)(hp:TI x most)(KK:Int->Prop)(h:KK (eN x most)):pC x most KK:=by
 obtain⟨⟨_,okF,_⟩,hm⟩:=hp;unfold pC;dsimp only;(try simp only[ay,aJ,aK,jval,bor,band,bnand,bimp,and_self]);unfold eN at h;intro _;refine ifk (fun hc=>kk h (by grind)) (fun hc _ _ _=>?_);rw[if_neg hc]at h;intro J hJ;have hj:J (Lt.upto most (Lt.plus (Lt.plus (Lt.plus 1 x.Dst.length) x.Frames.length) x.Objs.length) (x.Name.length:Int)):=by
  refine hJ _ ?_;dsimp only;refine cK x.Frames most (jp most) (fun _=>rfl) (fun x r b hb=>by simp[jp,hb]) (fun n=>KK (pO most x.Objs n)) _ _ (fun R b i hl hi hb ih h=>?_) (fun R b i h=>?_) _ (kk h (by unfold Lt.upto;grind))
  ·simp only[Int.toNat_natCast]
   try dsimp +instances only [Int.toNat_natCast]
   have o:(0:Int)<=(i:Int)/\i<x.Frames.length:=⟨WO i,hi⟩
   simp only[o,and_self,true_and];intro _;simp only[jp,Lt.plus,hb,if_true]at h;have okf:=bO okF hi
   generalize x.Frames.getD i default=f at h okf⊢;intro J2 hJ2;have hj2:J2 (if i64.wrap (b+(f.Func.length:Int))<=most then i64.wrap (i64.wrap (b+(f.Func.length:Int))+(f.Block.length:Int))else i64.wrap (b+(f.Func.length:Int))):=by
    refine hJ2 _ ?_;refine cK f.Vars most (mu most) (fun _=>rfl) (fun x r b hb=>by simp[mu,hb]) (fun n=>KK (pO most x.Objs (jp most (x.Frames.drop (i+1)) n))) _ _ (fun R2 b2 j hl2 hj hb2 ih2 h=>?_) (fun R2 b2 j h=>?_) _ (kk h (by grind))
    ·simp only[Int.toNat_natCast]
     try dsimp +instances only [Int.toNat_natCast]
     have o2:(0:Int)<=(j:Int)/\j<f.Vars.length:=⟨WO j,hj⟩
     simp only[o2,and_self,true_and];(try simp only[ay,aJ,aK,fC,lI,jval,bor,band,bnand,bimp,and_self]);intro _;simp only[mu,Lt.plus,hb2,if_true]at h
     grind
    ·exact ih _ h
   grind
  ·refine cK x.Objs most (pO most) (fun _=>rfl) (fun x r b hb=>by simp[pO,hb]) KK _ _ (fun R b i hl hi hb ih h=>?_) (fun R b i h=>h) _ h;simp only[Int.toNat_natCast]
   try dsimp +instances only [Int.toNat_natCast]
   have o:(0:Int)<=(i:Int)/\i<x.Objs.length:=⟨WO i,hi⟩
   simp only[o,and_self,true_and];(try simp only[ay,aJ,aK,fC,lI,jval,bor,band,bnand,bimp,and_self]);intro _;simp only[pO,Lt.plus,hb,if_true]at h
   grind
 unfold Lt.upto Lt.plus at hj
 grind
theorem vd(b:Lt.Block)(most:Int)(hp:TH b most)(KK:Int->Prop)(h:KK (eM b most)):pB b most KK:=by
 obtain⟨⟨okP,okC,okE⟩,hm⟩:=hp;unfold pB;dsimp only;(try simp only[ay,aJ,aK,jval,bor,band,bnand,bimp,and_self]);unfold eM at h;intro _;refine ifk (fun hc=>kk h (by grind)) (fun hc _=>?_);rw[if_neg (by simpa only[Bool.or_assoc]using hc)]at h;intro J hJ;have hj:J (Lt.upto most (Lt.plus 1 b.Name.length) (b.End.A.S.length:Int)):=by
  refine hJ _ ?_;refine cK b.End.To most (Lt.cTo most) (fun _=>rfl) (fun x r b hb=>by simp[Lt.cTo,hb]) (fun n=>KK (n4 most b.Code (pP most b.Phis n))) _ _ (fun R n i hl hi hb ih h=>?_) (fun R n i h=>?_) _ h
  ·simp only[Int.toNat_natCast]
   try dsimp +instances only [Int.toNat_natCast]
   refine⟨⟨WO i,hi⟩,fun _=>?_⟩;simp only[Lt.cTo,Lt.plus,hb,if_true]at h;exact ih _ h
  ·refine cK b.Phis most (pP most) (fun _=>rfl) (fun x r b hb=>by simp[pP,hb]) (fun n=>KK (n4 most b.Code n)) _ _ (fun R n i hl hi hb ih h=>?_) (fun R n i h=>?_) _ h
   ·simp only[Int.toNat_natCast]
    try dsimp +instances only [Int.toNat_natCast]
    have o:(0:Int)<=(i:Int)/\i<b.Phis.length:=⟨WO i,hi⟩
    simp only[o,and_self,true_and];intro _;simp only[pP,Lt.plus,hb,if_true]at h;generalize b.Phis.getD i default=x at h⊢;refine cK x.Ins most (BD most) (fun _=>rfl) (fun x r b hb=>by simp[BD,hb]) (fun n=>KK (n4 most b.Code (pP most (b.Phis.drop (i+1)) n))) _ _ (fun R2 b2 j hl2 hj hb2 ih2 h=>?_) (fun R2 b2 j h=>?_) _ h
    ·simp only[Int.toNat_natCast]
     try dsimp +instances only [Int.toNat_natCast]
     have o2:(0:Int)<=(j:Int)/\j<x.Ins.length:=⟨WO j,hj⟩
     simp only[o2,and_self,true_and];(try simp only[ay,aJ,aK,fC,lI,jval,bor,band,bnand,bimp,and_self]);intro _;simp only[BD,Lt.plus,hb2,if_true]at h
     grind
    ·exact ih _ h
   ·refine cK b.Code most (n4 most) (fun _=>rfl) (fun x r b hb=>by simp[n4,hb]) KK _ _ (fun R n i hl hi hb ih h=>?_) (fun R n i h=>h) _ h;simp only[Int.toNat_natCast]
    try dsimp +instances only [Int.toNat_natCast]
    refine⟨⟨WO i,hi⟩,⟨bO okC hi,hm⟩,?_⟩;simp only[n4,hb,if_true]at h;exact ih _ h
 unfold Lt.upto Lt.plus at hj
 grind
theorem Cy(f:Lt.Func)(most:Int)(hp:TJ f most)(KK:Int->Prop)(h:KK (lj f most)):xm f most KK:=by
 obtain⟨okB,hm⟩:=hp;unfold xm;dsimp only;(try simp only[ay,aJ,aK,jval,bor,band,bnand,bimp,and_self]);unfold lj at h;intro _;refine ifk (fun hc=>kk h (by grind)) (fun hc _=>?_);rw[if_neg (by simpa using hc)]at h;intro J hJ;have hj:J (Lt.upto most (Lt.plus 1 f.Name.length) (f.Result.length:Int)):=by
  refine hJ _ ?_;refine cK f.Blocks most (lq most) (fun _=>rfl) (fun x r b hb=>by simp[lq,hb]) KK _ _ (fun R n i hl hi hb ih h=>?_) (fun R n i h=>h) _ (kk h (by unfold Lt.upto;grind));simp only[Int.toNat_natCast]
  try dsimp +instances only [Int.toNat_natCast]
  refine⟨⟨WO i,hi⟩,⟨bO okB hi,hm⟩,?_⟩;simp only[lq,hb,if_true]at h;exact ih _ h
 unfold Lt.upto Lt.plus at hj
 grind
theorem RJ(p:Lt.Program)(most:Int)(hp:Gg p most)(KK:Bool->Prop)(h:KK (Lt.Few p most)):S8 p most KK:=by
 obtain⟨okF,hm⟩:=hp;unfold S8;dsimp only;(try simp only[ay,aJ,aK,fC,lI,jval,bor,band,bnand,bimp,and_self]);unfold Lt.Few at h;intro _;refine ifk (fun hc=>kk h (by grind)) (fun hc=>?_);rw[if_neg (by simpa only[Bool.or_assoc]using hc)]at h;refine cK p.Classes most (iM most) (fun _=>rfl) (fun x r b hb=>by simp[iM,hb]) (fun n=>KK (decide (lr most p.Funcs (gE most p.Externs n)<=most))) _ _ (fun R n i hl hi hb ih h=>?_) (fun R n i h=>?_) _ h
 ·simp only[Int.toNat_natCast]
  try dsimp +instances only [Int.toNat_natCast]
  have o:(0:Int)<=(i:Int)/\i<p.Classes.length:=⟨WO i,hi⟩
  simp only[o,and_self,true_and];intro _;simp only[iM,Lt.plus,hb,if_true]at h
  grind
 ·refine cK p.Externs most (gE most) (fun _=>rfl) (fun x r b hb=>by simp[gE,hb]) (fun n=>KK (decide (lr most p.Funcs n<=most))) _ _ (fun R n i hl hi hb ih h=>?_) (fun R n i h=>?_) _ h
  ·simp only[Int.toNat_natCast]
   try dsimp +instances only [Int.toNat_natCast]
   refine⟨⟨WO i,hi⟩,fun _=>?_⟩;simp only[gE,Lt.plus,hb,if_true]at h;exact ih _ h
  ·refine cK p.Funcs most (lr most) (fun _=>rfl) (fun x r b hb=>by simp[lr,hb]) (fun n=>KK (decide (n<=most))) _ _ (fun R n i hl hi hb ih h=>?_) (fun R n i h=>h) _ h;simp only[Int.toNat_natCast]
   try dsimp +instances only [Int.toNat_natCast]
   refine⟨⟨WO i,hi⟩,⟨bO okF hi,hm⟩,?_⟩;simp only[lr,hb,if_true]at h;exact ih _ h
end Go.Am
end
