/-
  Part 13: AmL26 · AmL27 · AmL20b · AmL28 · AmL29 · AmL30 · AmPkS.
-/
import Derived.Test.YthhkhcolidkemaaGreatDoorCk12
set_option linter.unusedSimpArgs false
set_option linter.unusedVariables false
set_option linter.unusedSectionVars false
set_option linter.unnecessarySimpa false
open Lt
open Go.IntKind (i64)
section
namespace Go.Am
open Go
open Lt (nmB toB Gd Rc bkB phB iQ Bare bb)
theorem UZ(s:Lt.Vs)(f:Lt.Func)(k:Nat)(v:List UInt8):bb (jP s (bkB f k)) v=(bb s v||decide (v∈phB f k)):=Er s _ v
theorem mj(s:Lt.Vs)(b:Lt.Block)(v:List UInt8):bb (iI s b) v=(bb s v||decide (v∈iQ b)):=Er s _ v
theorem pP(s:Lt.Vs)(b:Lt.Block):iI s b≠default:=fun e=>by cases e
def n8(f:Lt.Func)(outs:List Lt.Vs)(k:Nat)(v:List UInt8):Prop:=(k=0->v∈f.Params.map (·.Name))/\∀i,i<f.Blocks.length->nmB f.Blocks k∈toB f.Blocks i->outs.getD i default≠default->bb (outs.getD i default) v=true
structure AI (f:Lt.Func) (ins outs:List Lt.Vs):Prop where
 li:ins.length=f.Blocks.length
 lo:outs.length=f.Blocks.length
 no:∀k,k<f.Blocks.length->ins.getD k default=default->outs.getD k default=default
 ok:∀k,k<f.Blocks.length->ins.getD k default≠default->okU (univ f) (ins.getD k default)/\outs.getD k default=iI (ins.getD k default) (bkB f k)
 ov:∀k,k<f.Blocks.length->ins.getD k default≠default->∀v,¬ Bare f v k->bb (ins.getD k default) v=true
 tr:∀k,k<f.Blocks.length->ins.getD k default≠default->∀v,n8 f outs k v\/v∈phB f k->bb (ins.getD k default) v=true
theorem AI.on{f:Lt.Func}{ins outs:List Lt.Vs}(h:AI f ins outs){k:Nat}(hk:k<f.Blocks.length)(ho:outs.getD k default≠default):ins.getD k default≠default:=fun e=>ho (h.no k hk e)
theorem AI.step{f:Lt.Func}{ins outs:List Lt.Vs}(h:AI f ins outs){k:Nat}(hk:k<f.Blocks.length){x:Lt.Vs}(hx:okU (univ f) x)(he:∀v,bb x v=true ↔ n8 f outs k v\/v∈phB f k) :
  AI f (ins.set k x) (outs.set k (iI x (bkB f k)))/\(ins.getD k default≠default->∀v,bb x v=true->bb (ins.getD k default) v=true):=by
 have hki:k<ins.length:=by rw[h.li];exact hk
 have hko:k<outs.length:=by rw[h.lo];exact hk
 have less:ins.getD k default≠default->∀v,bb x v=true->bb (ins.getD k default) v=true:=fun hs v hv=>h.tr k hk hs v ((he v).1 hv)
 have xs:x≠default:=fun e=>by have:=hx.isS;rw[e]at this;cases this
 have mdn:∀j v,n8 f (outs.set k (iI x (bkB f k))) j v->n8 f outs j v:=fun j v hm=>by
  refine⟨hm.1,fun i hi hmem hs=>?_⟩;have h2:=hm.2 i hi hmem
  rw[bX _ hko]at h2;by_cases e:i=k
  ·subst e;rw[if_pos rfl]at h2;have h2:=h2 (pP _ _)
   have hin:=h.on hk hs
   rw[(h.ok i hk hin).2,mj];rw[mj]at h2;cases hxv:bb x v with
   |true=>rw[less hin v hxv];rfl
   |false=>rw[hxv,aeG]at h2;rw[h2,Bool.or_true]
  ·rw[if_neg e]at h2;exact h2 hs
 refine⟨⟨by rw[List.length_set];exact h.li,by rw[List.length_set];exact h.lo,fun j hj hs=>?_,fun j hj hs=>?_,fun j hj hs v hv=>?_,fun j hj hs v hv=>?_⟩,less⟩
 ·rw[bX _ hki]at hs;rw[bX _ hko];by_cases e:j=k
  ·rw[if_pos e]at hs;exact absurd hs xs
  ·rw[if_neg e]at hs⊢;exact h.no j hj hs
 ·rw[bX _ hki]at hs⊢;rw[bX _ hko];by_cases e:j=k
  ·subst e;rw[if_pos rfl,if_pos rfl];exact⟨hx,rfl⟩
  ·rw[if_neg e]at hs⊢;rw[if_neg e];exact h.ok j hj hs
 ·rw[bX _ hki]at hs⊢;by_cases e:j=k
  ·subst e;rw[if_pos rfl];refine(he v).2 (Classical.or_iff_not_imp_right.2 fun hp=>⟨fun e0=>Classical.byContradiction fun hn=>hv (by subst e0;exact .first hn),fun i hi hmem hso=>Classical.byContradiction fun hn=>hv ?_⟩);have hin:=h.on hi hso
   rw[(h.ok i hi hin).2,mj]at hn;have n1:bb (ins.getD i default) v≠true:=fun e=>hn (by rw[e];rfl)
   have n2:v ∉ iQ (bkB f i):=fun e=>hn (by rw[decide_eq_true e,Bool.or_true])
   exact .next i j (Classical.byContradiction fun hb=>n1 (h.ov i hi hin v hb)) (fun hp=>n1 (h.tr i hi hin v (.inr hp))) n2 hi hj hmem
  ·rw[if_neg e]at hs⊢;exact h.ov j hj hs v hv
 ·rw[bX _ hki]at hs⊢;have hw:=hv.imp (mdn j v) id
  by_cases e:j=k
  ·subst e;rw[if_pos rfl];exact(he v).2 hw
  ·rw[if_neg e]at hs⊢;exact h.tr j hj hs v hw
theorem AI.fin{f:Lt.Func}{ins outs:List Lt.Vs}(h:AI f ins outs)(hs:∀k,k<f.Blocks.length->ins.getD k default≠default)(hx:∀k,k<f.Blocks.length->∀v,bb (ins.getD k default) v=true->n8 f outs k v\/v∈phB f k):pR f ins:=by
 refine⟨h.li,fun k hk=>⟨(h.ok k hk (hs k hk)).1.isS,fun v=>⟨fun hv=>?_,fun hv=>hv.elim (h.ov k hk (hs k hk) v) fun hp=>h.tr k hk (hs k hk) v (.inr hp)⟩⟩⟩;refine Classical.or_iff_not_imp_right.2 fun hp hb=>?_
 have key:∀k,Bare f v k->k<f.Blocks.length->v ∉ phB f k->bb (ins.getD k default) v≠true:=fun k hb=>by
  induction hb with
  |first hn=>exact fun hk hp hv=>hn (((hx 0 hk v hv).resolve_right hp).1 rfl)
  |next i k _ h1 h2 hi hk' hm ih=>
   intro hk hp hv;have hso:=(h.ok i hi (hs i hi)).2
   have h3:=((hx k hk v hv).resolve_right hp).2 i hi hm (by rw[hso];exact pP _ _)
   rw[hso,mj,decide_eq_false h2,Bool.or_false]at h3;exact ih hi h1 h3
 exact key k hb hk hp hv
structure RI (f:Lt.Func) (y:List Int) (t0:Nat) (j:Nat) (ins outs:List Lt.Vs) (ch:Bool):Prop where
 ai:AI f ins outs
 dn:∀i,i<j->ins.getD (y.getD i default).toNat default≠default
 sz:Jz (univ f).length ins<=t0
 s2:ch=true->Jz (univ f).length ins<t0
 fx:ch=false->∀i,i<j->∀v,bb (ins.getD (y.getD i default).toNat default) v=true->n8 f outs (y.getD i default).toNat v\/v∈phB f (y.getD i default).toNat
theorem RI.step{f:Lt.Func}{y:List Int}{t0 j:Nat}{ins outs:List Lt.Vs}{ch:Bool}(h:RI f y t0 j ins outs ch){k:Nat}(ek:y.getD j default=(k:Int))(hk:k<f.Blocks.length)(hy:∀i,i<j->(y.getD i default).toNat<f.Blocks.length){x:Lt.Vs}(hx:okU (univ f) x)(he:∀v,bb x v=true ↔ n8 f outs k v\/v∈phB f k){c:Bool}
  (hc:c=(if(ins.getD k default).isNone=true then true else if(!decide ((((ins.getD k default).getD []).length:Int)=((x.getD []).length:Int)))=true then true else ch)) :
  RI f y t0 (j+1) (ins.set k x) (outs.set k (iI x (bkB f k))) c:=by
 obtain⟨ha,less⟩:=h.ai.step hk hx he;have hki:k<ins.length:=by rw[h.ai.li];exact hk
 have hko:k<outs.length:=by rw[h.ai.lo];exact hk
 have xs:x≠default:=fun e=>by have:=hx.isS;rw[e]at this;cases this
 have hsz:=JA (univ f).length ins k x hki
 have hxl:=hx.len
 obtain⟨mx,rfl⟩:∃mx,x=some mx:=by cases x with|none=>exact absurd rfl xs|some mx=>exact⟨mx,rfl⟩
 have s1:szV (univ f).length (some mx)=mx.length:=rfl
 simp only[adW]at hxl hc;have ways:(ins.getD k default=none/\c=true)\/(∃m,ins.getD k default=some m/\mx.length<=m.length/\((mx.length<m.length/\c=true)\/(mx.length=m.length/\c=ch))):=by
  cases hi:ins.getD k default with
  |none=>rw[hi]at hc;exact .inl ⟨rfl,hc⟩
  |some m=>
   refine .inr ⟨m,rfl,?_⟩;have hne:ins.getD k default≠default:=by rw[hi];exact fun e=>by cases e
   have hl:=less hne
   have hok:=(h.ai.ok k hk hne).1
   rw[hi]at hl hok hc;have hle:=hx.le hok hl
   simp only[adW]at hle hc;refine⟨hle,?_⟩;rw[if_neg (by simp)]at hc;by_cases e:mx.length=m.length
   ·rw[if_neg (by simp[e])]at hc;exact .inr ⟨e,hc⟩
   ·rw[if_pos (by simp;omega)]at hc;exact .inl ⟨by omega,hc⟩
 refine⟨ha,fun i hi=>?_,?_,fun ec=>?_,fun ec i hi v hv=>?_⟩
 ·rw[bX _ hki];split
  ·exact xs
  ·rename_i e;rcases adJ i j with h'|h'
   ·exact h.dn i h'
   ·obtain rfl:i=j:=by omega
    exact absurd (by rw[ek];rfl) e
 ·have:=h.sz
  rcases ways with⟨e,_⟩|⟨m,e,h1,_⟩
  ·have e2:szV (univ f).length (ins.getD k none)=(univ f).length+1:=by rw[show ins.getD k none=none from e];rfl
   omega
  ·have e2:szV (univ f).length (ins.getD k none)=m.length:=by rw[show ins.getD k none=some m from e];rfl
   omega
 ·have:=h.sz
  rcases ways with⟨e,_⟩|⟨m,e,h1,⟨h2,_⟩|⟨h2,h3⟩⟩
  ·have e2:szV (univ f).length (ins.getD k none)=(univ f).length+1:=by rw[show ins.getD k none=none from e];rfl
   omega
  ·have e2:szV (univ f).length (ins.getD k none)=m.length:=by rw[show ins.getD k none=some m from e];rfl
   omega
  ·have e2:szV (univ f).length (ins.getD k none)=m.length:=by rw[show ins.getD k none=some m from e];rfl
   have:=h.s2 (by rw[<- h3];exact ec)
   omega
 ·rcases ways with⟨_,e⟩|⟨m,e,h1,⟨_,h2⟩|⟨h2,h3⟩⟩
  ·rw[ec]at e;cases e
  ·rw[ec]at h2;cases h2
  ·have hne:ins.getD k default≠default:=by rw[e];exact fun e=>by cases e
   have hok:=(h.ai.ok k hk hne)
   have hsame:=hx.same hok.1 (less hne) (by rw[e];exact h2)
   have hiff:∀v,bb (some mx) v=bb (ins.getD k default) v:=fun v=>by
    cases h4:bb (ins.getD k default) v with
    |true=>exact hsame v h4
    |false=>
     cases h5:bb (some mx) v with
     |false=>rfl
     |true=>rw[less hne v h5]at h4;cases h4
   have mup:∀q v,n8 f outs q v->n8 f (outs.set k (iI (some mx) (bkB f k))) q v:=fun q v hm=>by
    refine⟨hm.1,fun i hi hmem hs=>?_⟩;rw[bX _ hko]at hs⊢;by_cases ei:i=k
    ·subst ei;rw[if_pos rfl];have:=hm.2 i hi hmem (by rw[hok.2];exact pP _ _)
     rw[hok.2,mj,<- hiff]at this;rw[mj];exact this
    ·rw[if_neg ei]at hs⊢;exact hm.2 i hi hmem hs
   rcases adJ i j with h'|h'
   ·have hv:bb (ins.getD (y.getD i default).toNat default) v=true:=by
     rw[bX _ hki]at hv;split at hv
     ·rename_i e5;rw[hiff]at hv;rw[e5];exact hv
     ·exact hv
    exact(h.fx (by rw[<- h3];exact ec) i h' v hv).imp (mup _ v) id
   ·obtain rfl:i=j:=by omega
    rw[ek,Int.toNat_natCast]at hv⊢;rw[bX _ hki,if_pos rfl]at hv;exact((he v).1 hv).imp (mup _ v) id
theorem Mq{f:Lt.Func}{y:List Int}{t0:Nat}{ins outs:List Lt.Vs}{ch:Bool}(hg:Gd f.Blocks)(hy:Lt.Od (gD f) y)(h:RI f y t0 y.length ins outs ch)(hc:ch=false):pR f ins:=by
 have pos:∀k,k<f.Blocks.length->∃i,i<y.length/\(y.getD i default).toNat=k:=fun k hk=>by
  obtain⟨i,hi,e⟩:=ae4.1 (hy.all k (Re hg hk));exact⟨i,hi,by rw[List.getD,acW hi];show(y[i]).toNat=k;rw[e];rfl⟩
 refine h.ai.fin (fun k hk=>?_) fun k hk v hv=>?_
 ·obtain⟨i,hi,rfl⟩:=pos k hk;exact h.dn i hi
 ·obtain⟨i,hi,rfl⟩:=pos k hk;exact h.fx hc i hi v hv
theorem QD(f:Lt.Func)(hp:oO f)(KK:List Lt.Vs->Prop)(h:∀y,pR f y->KK y):CR f KK:=by
 unfold CR;have hul:=VB hp
 obtain⟨hpo,hg,hpar,hbk⟩:=hp;have hn:=hpo.1
 have hps:=hg.ps
 dsimp only;have hz:(f.Blocks.length:Int).toNat=f.Blocks.length:=Int.toNat_natCast _
 rw[hz];refine⟨hpo,G3 hpo,T5 hpo hg,fun y hy _=>⟨⟨by omega,by omega,by omega⟩,fun _=>⟨⟨by omega,by omega,by omega⟩,?_⟩⟩⟩;have hy:Lt.Od (gD f) y:=hy
 have ylt:∀i,i<y.length->∃k:Nat,y.getD i default=(k:Int)/\k<f.Blocks.length:=fun i hi=>by
  have:=hy.lt _ (bJ _ hi)
  rw[fT]at this;exact⟨(y.getD i default).toNat,by omega,by omega⟩
 have hpl:(eQ (gD f)).length=f.Blocks.length:=by unfold eQ;rw[acY,ae6,fT]
 have hst:AI f (List.replicate f.Blocks.length (dflt (.mp .s .bo))) (List.replicate f.Blocks.length (dflt (.mp .s .bo))):=by
  have e:∀k,(List.replicate f.Blocks.length (dflt (.mp .s .bo)):List Lt.Vs).getD k default=default:=fun k=>tb _ _ _
  exact⟨aeQ,aeQ,fun k _ _=>e k,fun k _ hk=>absurd (e k) hk,fun k _ hk=>absurd (e k) hk,fun k _ hk=>absurd (e k) hk⟩
 refine sU (fun v=>AI f v.1 v.2.1/\(v.2.2=false->pR f v.1)) (fun v=>Jz (univ f).length v.1+v.2.2.toNat) (fun R v⟨hai,hfi⟩ih=>?_) _ ⟨hst,fun e=>by cases e⟩;obtain⟨ins0,outs0,ch0⟩:=v;dsimp only at hai hfi ih⊢;refine ifk (fun hc0=>?_) (fun hc0=>h _ (hfi (by simpa using hc0)));subst hc0;intro hyl;refine aZ _ y.length (fun j v=>v.2.2.2=(j:Int)/\RI f y (Jz (univ f).length ins0) j v.1 v.2.1 v.2.2.1) (fun R4 j v hj⟨e,hri⟩ih4=>?_) (fun R4 v⟨e,hri⟩=>?_) _ ⟨rfl,⟨hai,fun i hi=>by omega,ac1 _,fun e=>(by cases e),fun _ i hi=>by omega⟩⟩
 rotate_left
 ·obtain⟨ins,outs,ch,v4⟩:=v;dsimp only at e hri⊢;subst e;rw[if_neg (by simp)];refine ih _ ⟨hri.ai,Mq hg hy hri⟩ ?_;dsimp only;have h1:=hri.sz
  cases ch with
  |true=>have:=hri.s2 rfl;simp only[Bool.toNat_true];omega
  |false=>simp only[Bool.toNat_true,Bool.toNat_false];omega
 obtain⟨ins,outs,ch,v4⟩:=v;dsimp only at e hri⊢;subst e;rw[if_pos (aU hj)];refine⟨ob hj,?_⟩;obtain⟨k,ek,hk⟩:=ylt j hj;dsimp +instances only [Int.toNat_natCast]
 have hpr:k≠0->∃i,i<f.Blocks.length/\nmB f.Blocks k∈toB f.Blocks i/\outs.getD i default≠default:=fun hk0=>by
  obtain⟨j',hj',hm⟩:=hy.pr j hj (by show y.getD j default≠0;rw[ek];omega);have hm:y.getD j default∈(gD f).getD (y.getD j' default).toNat []:=hm
  rw[ek]at hm;obtain⟨h1,h2,h3⟩:=(sG hg).1 hm;refine⟨_,h1,h3,?_⟩;rw[(hri.ai.ok _ h1 (hri.dn j' hj')).2];exact pP _ _
 have ylts:∀i,i<j->(y.getD i default).toNat<f.Blocks.length:=fun i hi=>by
  obtain⟨q,e,hq⟩:=ylt i kQ1;rw[e];exact hq
 have hpi:=Q9 hg hk
 have hstep:=fun x hx he c hc=>hri.step (x:=x) (c:=c) ek hk ylts hx he hc
 rw[ek];dsimp +instances only [Int.toNat_natCast]
 generalize(eQ (gD f)).getD k []=L at hpi;have hli:=hri.ai.li
 have hlo:=hri.ai.lo
 intro J6 hJ6;have start:∀in0,(in0=default/\k≠0)\/(okU (univ f) in0/\∀v,bb in0 v=true ↔ (k=0->v∈f.Params.map (·.Name)))->J6 in0:=fun in0 hin0=>by
  refine hJ6 _ ⟨⟨by omega,by rw[hpl];exact hk⟩,fun hll=>?_⟩;refine aZ _ L.length (fun i v=>v.2=(i:Int)/\((v.1=default/\k≠0/\∀z∈L.take i,outs.getD z.toNat default=default)\/(okU (univ f) v.1/\∀w,bb v.1 w=true ↔ (k=0->w∈f.Params.map (·.Name))/\∀z∈L.take i,outs.getD z.toNat default≠default->bb (outs.getD z.toNat default) w=true))) (fun R8 i v hi⟨e,hin⟩ih8=>?_) (fun R8 v⟨e,hin⟩=>?_) _ ⟨rfl,hin0.imp (fun⟨a,b⟩=>⟨a,b,fun z hz=>(by cases hz)⟩) (fun⟨a,b⟩=>⟨a,fun w=>(b w).trans ⟨fun h=>⟨h,fun z hz=>(by cases hz)⟩,fun h=>h.1⟩⟩)⟩
  ·obtain⟨inn,v9⟩:=v;dsimp only at e hin⊢;subst e;rw[if_pos (aU hi)];intro J10 hJ10;dsimp +instances only [Int.toNat_natCast]at hJ10⊢
   have hzm:L.getD i default∈L:=bJ _ hi
   have tk:=ce L hi
   generalize L.getD i default=z at hzm tk hJ10⊢;obtain⟨q,ez,hq,_⟩:=(hpi z).1 hzm;subst ez;rw[Int.toNat_natCast];refine⟨ob hi,⟨by omega,by omega⟩,?_⟩;have mem:∀z',z'∈L.take (i+1) ↔ z'∈L.take i\/z'=(q:Int):=fun z'=>by rw[tk,adF,ac9]
   refine ifk (fun hc=>⟨⟨by omega,by omega⟩,?_,fun x hx=>?_⟩) (fun hc=>?_)
   ·rcases hin with⟨e,_⟩|⟨hok,_⟩
    ·exact .inl e
    ·exact .inr ⟨_,hok.okV⟩
   ·have hsome:outs.getD q default≠default:=fun e=>by rw[e]at hc;simp at hc;cases hc
    have hoq:=hri.ai.ok q hq (hri.ai.on hq hsome)
    have hou:okU (univ f) (outs.getD q default):=by rw[hoq.2];exact hoq.1.put (Z6 hq)
    refine hJ10 _ (ih8 _ ⟨az kQ1,.inr ?_⟩);dsimp only;rcases hin with⟨e,hk0,hno⟩|⟨hok,hw⟩
    ·have hx:=hx.1 e
     subst hx;refine⟨hou,fun w=>⟨fun hw=>⟨fun e=>absurd e hk0,fun z hz hs=>?_⟩,fun hw=>?_⟩⟩
     ·rcases(mem z).1 hz with hz|rfl
      ·exact absurd (hno z hz) hs
      ·exact hw
     ·exact hw.2 (q:Int) ((mem _).2 (.inr rfl)) hsome
    ·have hne:inn≠none:=fun e=>by have:=hok.isS;rw[e]at this;cases this
     obtain⟨hx1,hx2⟩:=hx.2 hne;refine⟨UT hok (hx1 _ hok.okV) hx2,fun w=>?_⟩;rw[hx2,acX,hw];refine⟨fun⟨⟨a,b⟩,c⟩=>⟨a,fun z hz hs=>?_⟩,fun⟨a,b⟩=>⟨⟨a,fun z hz hs=>b z ((mem z).2 (.inl hz)) hs⟩,b (q:Int) ((mem _).2 (.inr rfl)) hsome⟩⟩;rcases(mem z).1 hz with hz|rfl
     ·exact b z hz hs
     ·exact c
   ·have hnone:outs.getD q default=default:=by
     cases e:outs.getD q default with
     |none=>rfl
     |some m=>rw[e]at hc;simp at hc
    refine hJ10 _ (ih8 _ ⟨az kQ1,?_⟩);dsimp only;rcases hin with⟨e,hk0,hno⟩|⟨hok,hw⟩
    ·refine .inl ⟨e,hk0,fun z hz=>?_⟩;rcases(mem z).1 hz with hz|rfl
     ·exact hno z hz
     ·exact hnone
    ·refine .inr ⟨hok,fun w=>(hw w).trans ⟨fun⟨a,b⟩=>⟨a,fun z hz hs=>?_⟩,fun⟨a,b⟩=>⟨a,fun z hz hs=>b z ((mem z).2 (.inl hz)) hs⟩⟩⟩;rcases(mem z).1 hz with hz|rfl
     ·exact b z hz hs
     ·exact absurd hnone hs
  ·obtain⟨inn,v9⟩:=v;dsimp only at e hin⊢;subst e;rw[if_neg (by simp)];rw[afA]at hin;have hin:okU (univ f) inn/\∀w,bb inn w=true ↔ n8 f outs k w:=by
    rcases hin with⟨_,hk0,hno⟩|⟨hok,hw⟩
    ·obtain⟨i,h1,h2,h3⟩:=hpr hk0;exact absurd (hno (i:Int) ((hpi _).2 ⟨i,rfl,h1,h2⟩)) h3
    ·refine⟨hok,fun w=>(hw w).trans ⟨fun⟨a,b⟩=>⟨a,fun i h1 h2 h3=>b (i:Int) ((hpi _).2 ⟨i,rfl,h1,h2⟩) h3⟩,fun⟨a,b⟩=>⟨a,fun z hz hs=>?_⟩⟩⟩;obtain⟨i,rfl,h1,h2⟩:=(hpi z).1 hz;exact b i h1 h2 hs
   obtain⟨hok,hw⟩:=hin;intro J13 hJ13;rw[if_neg (by have:=hok.isS;cases inn with|none=>cases this|some m=>simp)];refine hJ13 _ ⟨⟨by omega,hk⟩,hok.isS,?_⟩;have hx:okU (univ f) (jP inn (bkB f k)):=hok.put (Z4 hk)
   have he:∀v,bb (jP inn (bkB f k)) v=true ↔ n8 f outs k v\/v∈phB f k:=fun v=>by
    rw[UZ,aeZ,hw,decide_eq_true_eq]
   have hstep:=hstep _ hx he
   have hxl:=hx.len
   have hxs:=hx.isS
   show ab (α:=Bool) _ _
   intro J15 hJ15 J17 hJ17;have last:∀c,c=(if(ins.getD k default).isNone=true then true else if(!decide ((((ins.getD k default).getD []).length:Int)=(((jP inn (bkB f k)).getD []).length:Int)))=true then true else ch)->J15 c:=fun c hc=>
    hJ15 c ⟨⟨by omega,hk⟩,hxs,⟨by omega,by omega⟩,by omega,⟨by omega,by omega⟩,by omega,ih4 _ ⟨az kQ1,hstep c hc⟩⟩
   refine⟨⟨by omega,by omega⟩,?_⟩;by_cases hc:(ins.getD k default).isNone=true
   ·rw[if_pos hc];refine hJ17 _ ?_;show if true=true then J15 true else J15 ch
    rw[if_pos rfl];exact last true (by rw[if_pos hc])
   ·rw[if_neg hc];have hik:ins.getD k default≠default:=fun e=>hc (by rw[e];rfl)
    have hil:=(hri.ai.ok k hk hik).1.len
    refine⟨⟨by omega,by omega⟩,by omega,?_,hJ17 _ ?_⟩
    ·exact aeF hxl kQ1
    ·dsimp only;refine ifk (fun hd=>last true (by rw[if_neg hc];exact(if_pos hd).symm)) (fun hd=>last ch (by rw[if_neg hc];exact(if_neg hd).symm))
 refine ifk (fun hc=>start _ (.inr ⟨(okU.nil _).put Z5,fun v=>?_⟩)) (fun hc=>start _ (.inl ⟨rfl,fun e=>hc (by subst e;rfl)⟩));have hk0:k=0:=by have:=of_decide_eq_true hc;omega
 show bb (AS _ _) v=true ↔ _
 rw[Er];simp[hk0,bb,aI]
end Go.Am
end

section
namespace Go.Am
open Go
theorem YY{n:Int}(h:(Lt.Of n).2=true):(1<=n/\n<=21/\(Lt.Of n).1.Least=2)\/(22<=n/\n<=24/\(Lt.Of n).1.Least=1)\/n=25\/(n=26/\(Lt.Of n).1.Least=1)\/(n=27/\(Lt.Of n).1.Least=2)\/(n=28/\(Lt.Of n).1.Least=2)\/n=29\/(n=30/\(Lt.Of n).1.Least=1)\/n=31\/n=32\/(n=33/\(Lt.Of n).1.Least=1)\/n=34:=by
 by_cases c1:1<=n/\n<=21
 ·exact .inl ⟨c1.1,c1.2,by unfold Lt.Of;rw[if_pos c1]⟩
 by_cases c2:22<=n/\n<=24
 ·exact .inr (.inl ⟨c2.1,c2.2,by unfold Lt.Of;rw[if_neg c1,if_pos c2]⟩)
 by_cases c25:n=25
 ·exact .inr (.inr (.inl c25))
 by_cases c26:n=26
 ·exact .inr (.inr (.inr (.inl ⟨c26,by unfold Lt.Of;rw[if_neg c1,if_neg c2,if_neg c25,if_pos c26]⟩)))
 by_cases c27:n=27
 ·exact .inr (.inr (.inr (.inr (.inl ⟨c27,by unfold Lt.Of;rw[if_neg c1,if_neg c2,if_neg c25,if_neg c26,if_pos c27]⟩))))
 by_cases c28:n=28
 ·exact .inr (.inr (.inr (.inr (.inr (.inl ⟨c28,by unfold Lt.Of;rw[if_neg c1,if_neg c2,if_neg c25,if_neg c26,if_neg c27,if_pos c28]⟩)))))
 by_cases c29:n=29
 ·exact .inr (.inr (.inr (.inr (.inr (.inr (.inl c29))))))
 by_cases c30:n=30
 ·exact .inr (.inr (.inr (.inr (.inr (.inr (.inr (.inl ⟨c30,by unfold Lt.Of;rw[if_neg c1,if_neg c2,if_neg c25,if_neg c26,if_neg c27,if_neg c28,if_neg c29,if_pos c30]⟩)))))))
 by_cases c31:n=31
 ·exact .inr (.inr (.inr (.inr (.inr (.inr (.inr (.inr (.inl c31))))))))
 by_cases c32:n=32
 ·exact .inr (.inr (.inr (.inr (.inr (.inr (.inr (.inr (.inr (.inl c32)))))))))
 by_cases c33:n=33
 ·exact .inr (.inr (.inr (.inr (.inr (.inr (.inr (.inr (.inr (.inr (.inl ⟨c33,by unfold Lt.Of;rw[if_neg c1,if_neg c2,if_neg c25,if_neg c26,if_neg c27,if_neg c28,if_neg c29,if_neg c30,if_neg c31,if_neg c32,if_pos c33]⟩))))))))))
 by_cases c34:n=34
 ·exact .inr (.inr (.inr (.inr (.inr (.inr (.inr (.inr (.inr (.inr (.inr c34))))))))))
 unfold Lt.Of at h;rw[if_neg c1,if_neg c2,if_neg c25,if_neg c26,if_neg c27,if_neg c28,if_neg c29,if_neg c30,if_neg c31,if_neg c32,if_neg c33,if_neg c34]at h;cases h
theorem IF(q:Lt.asked)(hp:ru q)(KK:Bool->Prop)(h:KK (tB q)):uc q KK:=by
 unfold uc;obtain⟨h1,h2,h3,h4⟩:=hp;have hl:=YY h1
 unfold tB at h;have e30:∀J:Bool->Prop,(if q.i.Op=29 then J (decide (q.i.Op=29))else J (decide (q.i.Op=30)))=J (decide (q.i.Op=29\/q.i.Op=30)):=fun J=>by
  by_cases e:q.i.Op=29
  ·simp[e]
  ·simp[e]
 simp only[decide_eq_true_eq];simp only[e30,aE,decide_eq_true_eq];refine ifk (fun c1=>by rwa [if_pos c1]at h) (fun c1=>?_);rw[if_neg c1]at h;refine ifk (fun c2=>by rwa [if_pos c2]at h) (fun c2=>?_);rw[if_neg c2]at h;refine ifk (fun c3=>by rwa [if_pos c3]at h) (fun c3=>?_);rw[if_neg c3]at h;refine ifk (fun c4=>by rwa [if_pos c4]at h) (fun c4=>?_);rw[if_neg c4]at h;refine ifk (fun c5=>by rwa [if_pos c5]at h) (fun c5=>?_);rw[if_neg c5]at h;refine ifk (fun c6=>?_) (fun c6=>?_)
 ·rw[if_pos c6]at h;exact⟨⟨by omega,by omega⟩,h⟩
 rw[if_neg c6]at h;refine ifk (fun c7=>by rwa [if_pos c7]at h) (fun c7=>?_);rw[if_neg c7]at h;refine ifk (fun c8=>?_) (fun c8=>?_)
 ·rw[if_pos c8]at h;refine⟨⟨by omega,h2⟩,?_⟩
  grind
 rw[if_neg c8]at h;refine ifk (fun c9=>?_) (fun c9=>?_)
 ·rw[if_pos c9]at h;refine⟨⟨by omega,h2⟩,?_⟩;have:1<q.args.length:=by omega
  grind
 rw[if_neg c9]at h;refine ifk (fun c10=>?_) (fun c10=>?_)
 ·rw[if_pos c10]at h;have:1<q.args.length:=by omega
  grind
 rw[if_neg c10]at h;refine ifk (fun c11=>?_) (fun c11=>?_)
 ·rw[if_pos c11]at h;exact⟨fun hne=>by omega,h⟩
 rw[if_neg c11]at h;refine ifk (fun c12=>?_) (fun c12=>?_)
 ·rw[if_pos c12]at h;intro J hJ;have:=hJ _ h
  grind
 rw[if_neg c12]at h;refine ifk (fun c13=>?_) (fun c13=>?_)
 ·rw[if_pos c13]at h;intro J hJ;have:=hJ _ h
  grind
 rw[if_neg c13]at h;refine ifk (fun c14=>?_) (fun c14=>by rwa [if_neg c14]at h);rw[if_pos c14]at h;exact⟨⟨by omega,by omega⟩,h⟩
theorem Uv(p:Lt.Program)(f:Lt.Func)(i:Lt.Instr)(hp:sY p f i)(KK:Lt.asked×Bool->Prop)(h:KK (nN p f i)):KC p f i KK:=by
 unfold KC;dsimp only;have hp:i.Args.length<=1000000:=hp
 unfold nN at h;intro J hJ;have kF:(oD f i&&i.Args.all fun a=>(iL f a).2)=false->KK (⟨⟨false,[],[],[],[]⟩,⟨0,[],[],[],[],[]⟩,[],[]⟩,false):=fun e=>by rw[if_neg (by rw[e];simp)]at h;exact h
 have j1:J (!((Lt.Of i.Op).2&&(decide ((Lt.Of i.Op).1.Least<=(i.Args.length:Int))&&decide ((i.Args.length:Int)<=(Lt.Of i.Op).1.Most)))):=hJ _ (by
  dsimp only;refine ifk (fun hc=>kF ?_) (fun hc J3 hJ3=>?_)
  ·unfold oD
   grind
  have hc:(Lt.Of i.Op).2=true/\(Lt.Of i.Op).1.Least<=(i.Args.length:Int)/\(i.Args.length:Int)<=(Lt.Of i.Op).1.Most:=by simpa using hc
  obtain⟨c1,c2,c3⟩:=hc;have fin:∀d:List UInt8,((!(Lt.Of i.Op).1.Dst||(kj f i.Dst).2)=true)->d=Lo f i->J3 ⟨p,i,d,[]⟩:=fun d hd e=>hJ3 _ (by
   dsimp only;intro hl;have hf:oD f i=true:=by
    unfold oD;rw[c1,decide_eq_true c2,decide_eq_true c3,hd];rfl
   rw[hf,ad6]at h kF;subst e;refine gJ i.Args (fun(q:Lt.asked) (k:Int)=>(k,q)) (fun r q=>(q=⟨p,i,Lo f i,q.args⟩/\(i.Args.all fun a=>(iL f a).2)=(r.all fun a=>(iL f a).2)/\q.args++om f r=om f i.Args)) (fun R q k x r hi hx _ ih hq=>?_) (fun R q hq=>?_) _ ⟨rfl,rfl,rfl⟩
   ·obtain⟨q1,q2,q3⟩:=hq;dsimp only;rw[if_pos (aU hi)];refine⟨ob hi,?_⟩;rw[Int.toNat_natCast,hx];have hlen:q.args.length<=i.Args.length:=by
     have:=congrArg List.length q3
     simp only[ac3,om,acY]at this;omega
    refine ifk (fun hc=>kF ?_) (fun hc=>⟨⟨by simp only[ac0,ac6];omega,by simp only[ac0,ac6];omega⟩,?_⟩)
    ·rw[q2,adE,show(iL f x).2=false from by simpa using hc,ae5]
    ·have e:(⟨q.p,q.i,q.dst,q.args++[(iL f x).1]⟩:Lt.asked)=⟨p,i,Lo f i,q.args++[(iL f x).1]⟩:=by rw[q1]
     rw[e];refine ih hl _ ⟨rfl,?_,?_⟩
     ·rw[q2,adE,show(iL f x).2=true from by simpa using hc,ad6]
     ·dsimp only;rw[<- q3];simp[om]
   ·obtain⟨q1,q2,q3⟩:=hq;dsimp only;rw[if_neg (by simp)];rw[if_pos (by rw[q2];rfl)]at h;rw[q1,show q.args=om f i.Args from by simpa[om]using q3];exact h)
  refine ifk (fun hd=>ifk (fun hv=>kF ?_) (fun hv=>fin _ ?_ ?_)) (fun hd=>fin _ ?_ ?_)
  ·unfold oD;rw[hd,show(kj f i.Dst).2=false from by simpa using hv];simp
  ·rw[show(kj f i.Dst).2=true from by simpa using hv];simp
  ·unfold Lo;rw[if_pos hd]
  ·rw[show(Lt.Of i.Op).1.Dst=false from by simpa using hd];rfl
  ·unfold Lo;rw[if_neg hd])
 grind
theorem LV(p:Lt.Program)(f:Lt.Func)(i:Lt.Instr)(hp:U8 p f i)(KK:Bool->Prop)(h:KK (ny p f i)):xC p f i KK:=by
 unfold xC;refine⟨hp,ifk (fun hc=>⟨?_,?_⟩) (fun hc=>?_)⟩
 ·have e:(oD f i&&i.Args.all fun a=>(iL f a).2)=true:=by
   unfold nN at hc;split at hc
   ·assumption
   ·cases hc
  have e2:nN p f i=(⟨p,i,Lo f i,om f i.Args⟩,true):=by unfold nN;rw[if_pos e]
  rw[e2];unfold oD at e;simp only[acX,decide_eq_true_eq]at e;refine⟨e.1.1,by simp[om],?_,?_⟩
  ·simp only[om,acY];exact e.1.2.1
  ·simp only[om,acY];exact e.1.2.2.1
 ·unfold ny at h;rw[hc,ad6]at h;exact h
 ·unfold ny at h;rw[show(nN p f i).2=false from by simpa using hc,ae5]at h;exact h
theorem LH(f:Lt.Func)(hp:wI f)(KK:Int->Prop)(h:KK (wJ f)):xr f KK:=by
 unfold xr;intro hl;refine gJ f.Blocks (fun n i=>(n,i)) (fun r n=>KK (Lt.rsz r n)) (fun R n i x r hi hx _ ih h=>?_) (fun R n h=>?_) 0 h
 ·dsimp only;simp only[aU hi,Int.toNat_natCast,hx,hi,ac2,and_self,true_and,if_true];exact fun _=>ih hl _ h
 ·dsimp only;rw[if_neg (by simp)];exact h
theorem Iv(p:Lt.Program)(KK:Bool->Prop)(h:KK (gO p)):tU p KK:=by
 unfold tU;intro hl;refine bZ p.Funcs (fun r=>KK (r.all zq&&!p.SSA)) (fun R i f r hi hx _ ih h=>?_) (fun R h=>?_) h
 ·try dsimp only
  simp only[aU hi,Int.toNat_natCast,hx,hi,ac2,and_self,true_and,if_true];rw[adE,afB]at h;intro hl2;refine bZ f.Blocks (fun r2=>KK (r2.all rm&&(r.all zq&&!p.SSA))) (fun R2 i2 b r2 hi2 hx2 _ ih2 h=>?_) (fun R2 h=>?_) h
  ·try dsimp only
   simp only[aU hi2,Int.toNat_natCast,hx2,hi2,ac2,and_self,true_and,if_true];rw[adE,afB]at h;unfold rm at h;intro hl3;refine ifk (fun hc=>?_) (fun hc hl4=>?_)
   ·rw[show decide (b.Phis.length=0)=false from decide_eq_false (by have:=of_decide_eq_true hc;omega)]at h;simpa using h
   ·have hc0:¬ (0:Int) < (b.Phis.length:Int):=fun h0=>hc (decide_eq_true h0)
    rw[show decide (b.Phis.length=0)=true from decide_eq_true kQ1,ad6]at h;refine bZ b.Code (fun r3=>KK (r3.all Mn&&(r2.all rm&&(r.all zq&&!p.SSA)))) (fun R3 i3 x r3 hi3 hx3 _ ih3 h=>?_) (fun R3 h=>?_) h
    ·try dsimp only
     simp only[aU hi3,Int.toNat_natCast,hx3,hi3,ac2,and_self,true_and,if_true];rw[adE,afB]at h;unfold Mn at h;intro J hJ _;have j:=hJ (!(decide (x.Frames.length=0)&&decide (x.Objs.length=0))) (by
      dsimp only;refine ifk (fun hc=>?_) (fun hc=>ih3 hl4 ?_)
      ·rw[aeV]at hc;rw[hc,ae5]at h;exact h
      ·rw[show(decide (x.Frames.length=0)&&decide (x.Objs.length=0))=true from by simpa using hc,ad6]at h;exact h)
     have e1:decide (0 < (x.Frames.length:Int))=!decide (x.Frames.length=0):=by rw[<- decide_not,decide_eq_decide];omega
     have e2:decide (0 < (x.Objs.length:Int))=!decide (x.Objs.length=0):=by rw[<- decide_not,decide_eq_decide];omega
     rw[e1,e2]
     grind
    ·try dsimp only
     rw[if_neg (by simp)];exact ih2 hl2 (by simpa using h)
  ·try dsimp only
   rw[if_neg (by simp)];exact ih hl (by simpa using h)
 ·dsimp only;rw[if_neg (by simp)];simpa using h
theorem DR(p:Lt.Program)(hp:uZ p)(KK:Bool->Prop)(h:KK (ik p)):qJ p KK:=by
 unfold qJ;intro hl;refine lV p.Funcs wM true KK (fun R i f hi hx _ ih hf=>?_) (fun R h=>?_) (by rw[afO];exact h)
 ·simp only[aU hi,Int.toNat_natCast,hx,hi,ac2,and_self,true_and,if_true];intro J hJ _;have j:=hJ (!wM f) (by
   dsimp only;refine ifk (fun hc=>hf (by simpa using hc)) (fun hc=>ih hl (by simpa using hc)))
  unfold wM at j;have hp2:wI f:=trivial
  grind
 ·rw[if_neg (by simp)];exact h
theorem Iw(p:Lt.Program)(f:Lt.Func)(hp:kh p f)(KK:Bool->Prop)(h:KK (mZ p f)):tV p f KK:=by
 unfold tV;intro hl;refine bZ f.Blocks (fun r=>KK (r.all (EJ p f))) (fun R i b r hi hx hm ih h=>?_) (fun R h=>?_) h
 ·simp only[aU hi,Int.toNat_natCast,hx,hi,ac2,and_self,true_and,if_true];intro hl2;rw[adE]at h;unfold EJ at h;rw[afB]at h;refine bZ b.Code (fun r2=>KK ((r2.all fun i=>ny p f i)&&(vR f b.End&&r.all (EJ p f)))) (fun R2 i2 x r2 hi2 hx2 hm2 ih2 h=>?_) (fun R2 h=>?_) h
  ·simp only[aU hi2,Int.toNat_natCast,hx2,hi2,ac2,and_self,true_and,if_true];rw[adE,afB]at h;refine⟨hp b hm x hm2,ifk (fun hc=>?_) (fun hc=>ih2 hl2 ?_)⟩
   ·rw[show ny p f x=false from by simpa using hc,ae5]at h;exact h
   ·rw[show ny p f x=true from by simpa using hc,ad6]at h;exact h
  ·rw[if_neg (by simp)];rw[List.all_nil,ad6]at h;refine ifk (fun hc=>?_) (fun hc=>ih hl ?_)
   ·rw[show vR f b.End=false from by simpa using hc,ae5]at h;exact h
   ·rw[show vR f b.End=true from by simpa using hc,ad6]at h;exact h
 ·rw[if_neg (by simp)];exact h
end Go.Am
end

section
namespace Go.Am
open Go
open Lt (nmB toB Gd Rc bkB phB iQ Bare bb vz nO)
theorem Xv(m:VM)(k v:List UInt8):v∈(bS .s m k true).map (·.1) ↔ v∈m.map (·.1)\/v=k:=by
 rw[j0];split
 ·rename_i g;exact⟨.inl,fun h=>h.elim id fun e=>by rw[e];exact g⟩
 ·rw[adF,ac9]
theorem Xq(m:VM)(k:List UInt8):(bS .s m k true).length<=m.length+1:=by
 have:=j0 k true m
 have e:((bS .s m k true).map (·.1)).length=(bS .s m k true).length:=acY _
 rw[<- e,this];split
 ·rw[acY];omega
 ·rw[ac3,acY];simp
theorem yc{α:Type}[Inhabited α]{body:(Int×VM->Prop)->Int×VM->Prop}(l:List α)(ar:α->Lt.Arg)(m:VM)(Q:VM->Prop)
  (hs:∀R(i:Nat)m,i<l.length->l.length<=4611686018427387904->((ar (l.getD i default)).Kind=1->R (i64.wrap ((i:Int)+1),bS .s m (ar (l.getD i default)).S true))->(¬ (ar (l.getD i default)).Kind=1->R (i64.wrap ((i:Int)+1),m))->body R ((i:Int),m))
  (he:∀R m,Q m->body R ((l.length:Int),m)) (hl:l.length<=4611686018427387904)
  (h:∀m',(∀v,v∈m'.map (·.1) ↔ v∈m.map (·.1)\/∃a∈l,(ar a).Kind=1/\(ar a).S=v)->m'.length<=m.length+l.length->Q m'):af body (0,m):=by
 refine gJ l (fun m i=>(i,m)) (fun r m=>∀m',(∀v,v∈m'.map (·.1) ↔ v∈m.map (·.1)\/∃a∈r,(ar a).Kind=1/\(ar a).S=v)->m'.length<=m.length+r.length->Q m') (fun R m i x r hi hx _ ih h=>hs R i m hi hl (fun hc=>ih hl _ fun m' hm hn=>h m' (fun v=>?_) ?_) (fun hc=>ih hl _ fun m' hm hn=>h m' (fun v=>?_) ?_)) (fun R m h=>he R m (h m (fun v=>by simp) (by simp))) m h
 ·rw[hm,Xv,hx];rw[hx]at hc;simp only[ac8,exists_eq_or_imp];rw[or_assoc];exact or_congr Iff.rfl (or_congr ⟨fun e=>⟨hc,e.symm⟩,fun e=>e.2.symm⟩ Iff.rfl)
 ·have:=Xq m (ar (l.getD i default)).S
  rw[ac0];omega
 ·rw[hm];rw[hx]at hc;simp only[ac8,exists_eq_or_imp];exact or_congr Iff.rfl ⟨.inr,fun h=>h.resolve_left fun e=>hc e.1⟩
 ·rw[ac0];omega
theorem LL(x:Lt.Instr)(hp:eV x)(KK:List (List UInt8)->Prop)(h:∀y,zu x y->KK y):xu x KK:=by
 unfold xu;unfold eV VD at hp;dsimp only;intro hl1;refine yc x.Args id [] (fun m=>∀m',(∀v,v∈m'.map (·.1) ↔ v∈m.map (·.1)\/(∃f∈x.Frames,∃b∈f.Vars,b.A.Kind=1/\b.A.S=v)\/∃o∈x.Objs,∃a∈o.Vals,a.Kind=1/\a.S=v)->m'.length<=m.length+(x.Frames.map fun f=>f.Vars.length).sum+(x.Objs.map fun o=>o.Vals.length).sum->iz (some m')/\∀y,fE (some m') y->KK y) (fun R i m hi hl k1 k2=>?_) (fun R m hQ=>?_) hl1 (fun m hm hn m' hm' hn'=>⟨⟨rfl,?_⟩,fun y hy=>h y fun v=>by rw[hy v];simp only[adW];rw[hm',hm];simp only[List.map_nil,List.not_mem_nil,false_or,id];rfl⟩)
 ·rw[if_pos (aU hi)];intro J hJ;refine⟨ob hi,?_⟩;dsimp +instances only [Int.toNat_natCast]at hJ⊢
  exact ifk (fun hc=>hJ _ (k1 (of_decide_eq_true hc))) (fun hc=>hJ _ (k2 (by simpa using hc)))
 rotate_left
 ·simp only[adW];simp only[ac6]at hn;omega
 rw[if_neg (by simp)];intro hl2;refine gJ x.Frames (fun m i=>(i,m)) (fun r m=>∀m',(∀v,v∈m'.map (·.1) ↔ v∈m.map (·.1)\/(∃f∈r,∃b∈f.Vars,b.A.Kind=1/\b.A.S=v)\/∃o∈x.Objs,∃a∈o.Vals,a.Kind=1/\a.S=v)->m'.length<=m.length+(r.map fun f=>f.Vars.length).sum+(x.Objs.map fun o=>o.Vals.length).sum->iz (some m')/\∀y,fE (some m') y->KK y) (fun R m i x' r hi hx _ ih h=>?_) (fun R m hQ=>?_) m hQ
 ·rw[if_pos (aU hi)];refine⟨ob hi,fun hl=>?_⟩;dsimp +instances only [Int.toNat_natCast]
  rw[hx];refine yc x'.Vars (·.A) m (fun m'=>∀m'',(∀v,v∈m''.map (·.1) ↔ v∈m'.map (·.1)\/(∃f∈r,∃b∈f.Vars,b.A.Kind=1/\b.A.S=v)\/∃o∈x.Objs,∃a∈o.Vals,a.Kind=1/\a.S=v)->m''.length<=m'.length+(r.map fun f=>f.Vars.length).sum+(x.Objs.map fun o=>o.Vals.length).sum->iz (some m'')/\∀y,fE (some m'') y->KK y) (fun R i m hi hl k1 k2=>?_) (fun R m hQ=>?_) (by rw[<- hx];exact hl) (fun m1 hm1 hn1 m2 hm2 hn2=>h m2 (fun v=>?_) ?_)
  ·rw[if_pos (aU hi)];intro J hJ;refine⟨ob hi,?_⟩;dsimp +instances only [Int.toNat_natCast]at hJ⊢
   exact ifk (fun hc=>hJ _ (k1 (of_decide_eq_true hc))) (fun hc=>hJ _ (k2 (by simpa using hc)))
  ·rw[if_neg (by simp)];exact ih hl2 _ hQ
  ·rw[hm2,hm1];simp only[ac8,exists_eq_or_imp,or_assoc]
  ·simp only[List.map_cons,aeS];omega
 rw[if_neg (by simp)];intro hl3;refine gJ x.Objs (fun m i=>(i,m)) (fun r m=>∀m',(∀v,v∈m'.map (·.1) ↔ v∈m.map (·.1)\/∃o∈r,∃a∈o.Vals,a.Kind=1/\a.S=v)->m'.length<=m.length+(r.map fun o=>o.Vals.length).sum->iz (some m')/\∀y,fE (some m') y->KK y) (fun R m i x' r hi hx _ ih h=>?_) (fun R m hQ=>?_) m (fun m' hm hn=>hQ m' (fun v=>by rw[hm];simp) (by simp only[List.map_nil,List.sum_nil];omega))
 ·rw[if_pos (aU hi)];refine⟨ob hi,fun hl=>?_⟩;dsimp +instances only [Int.toNat_natCast]
  rw[hx];refine yc x'.Vals id m (fun m'=>∀m'',(∀v,v∈m''.map (·.1) ↔ v∈m'.map (·.1)\/∃o∈r,∃a∈o.Vals,a.Kind=1/\a.S=v)->m''.length<=m'.length+(r.map fun o=>o.Vals.length).sum->iz (some m'')/\∀y,fE (some m'') y->KK y) (fun R i m hi hl k1 k2=>?_) (fun R m hQ=>?_) (by rw[<- hx];exact hl) (fun m1 hm1 hn1 m2 hm2 hn2=>h m2 (fun v=>?_) ?_)
  ·rw[if_pos (aU hi)];intro J hJ;refine⟨ob hi,?_⟩;dsimp +instances only [Int.toNat_natCast]at hJ⊢
   exact ifk (fun hc=>hJ _ (k1 (of_decide_eq_true hc))) (fun hc=>hJ _ (k2 (by simpa using hc)))
  ·rw[if_neg (by simp)];exact ih hl3 _ hQ
  ·rw[hm2,hm1];simp only[ac8,exists_eq_or_imp,or_assoc,id]
  ·simp only[List.map_cons,aeS];omega
 rw[if_neg (by simp)];exact hQ m (fun v=>by simp) (by simp)
theorem E6{P Q:List UInt8->Prop}(b:Lt.Block)(h:∀v,P v ↔ Q v):nO P b ↔ nO Q b:=by
 have:P=Q:=funext fun v=>propext (h v)
 rw[this]
theorem Is(s:Lt.Vs)(b:Lt.Block)(hp:Mr s b)(KK:Bool->Prop)(h:KK (jd s b)):tR s b KK:=by
 unfold tR;have kF:¬ nO (fun v=>bb s v=true) b->KK false:=fun hg=>by unfold jd at h;rw[yO hg]at h;exact h
 have kT:nO (fun v=>bb s v=true) b->KK true:=fun hg=>by unfold jd at h;rw[uJ hg]at h;exact h
 dsimp only;obtain⟨hp,hpu⟩:=hp;refine⟨hp,fun hl=>?_⟩;have es:some (s.getD [])=s:=by cases s with|none=>simp at hp|some m=>rfl
 have hpui:∀i,i<b.Code.length->eV (b.Code.getD i default):=fun i hi=>hpu _ (bJ _ hi)
 let D:Nat->List (List UInt8):=fun i=>((b.Code.take i).map (·.Dst)).filter fun d=>!decide (d=[])
 have hD:∀i v,i<b.Code.length->(v∈D (i+1) ↔ v∈D i\/(v=(b.Code.getD i default).Dst/\v≠[])):=fun i v hi=>by
  show v∈List.filter _ _ ↔ v∈List.filter _ _\/_
  rw[ce _ hi];simp only[aeN,List.filter_append,adF,List.map_cons,List.map_nil,afN,ac9];refine or_congr Iff.rfl ⟨fun⟨a,c⟩=>⟨a,by simpa using c⟩,fun⟨a,c⟩=>⟨a,by simpa using c⟩⟩
 have hD0:∀v,v ∉ D 0:=fun v hv=>by simp[D]at hv
 have hDl:D b.Code.length=iQ b:=by
  show List.filter _ _=_
  rw[afA];rfl
 refine aZ _ b.Code.length (fun i v=>v.1=(i:Int)/\(∀w,bb (some v.2) w=true ↔ bb s w=true\/w∈D i)/\∀j,j<i->∀w,vz (b.Code.getD j default) w->bb s w=true\/w∈D j) (fun R i v hi⟨e,h1,h2⟩ih=>?_) (fun R v⟨e,h1,h2⟩=>?_) _ ⟨rfl,fun w=>by dsimp only;rw[es];exact⟨.inl,fun h=>h.resolve_right (hD0 w)⟩,fun j hj=>by omega⟩
 ·obtain⟨v1,m⟩:=v;dsimp only at e h1 h2⊢;subst e;rw[if_pos (aU hi)];intro J3 hJ3;dsimp +instances only [Int.toNat_natCast]at hJ3⊢
  have hd:=hD i
  have hpx:=hpui i hi
  have kF:(¬ ∀w,vz (b.Code.getD i default) w->bb s w=true\/w∈D i)->KK false:=fun hn=>kF fun hb=>hn (hb.1 i hi)
  have on:(∀w,vz (b.Code.getD i default) w->bb s w=true\/w∈D i)->∀m',(∀w,bb (some m') w=true ↔ bb s w=true\/w∈D (i+1))->J3 m':=fun hu m' hm'=>hJ3 _ (ih _ ⟨az kQ1,hm',fun j hj w hw=>by
   rcases adJ j i with h'|h'
   ·exact h2 j h' w hw
   ·obtain rfl:j=i:=by omega
    exact hu w hw⟩)
  generalize b.Code.getD i default=x at hd kF on hpx⊢;refine⟨ob hi,fun J5 hJ5=>⟨hpx,fun y hy hyl=>?_⟩⟩;have goF:(¬ ∀w,vz x w->bb s w=true\/w∈D i)->J5 true:=fun hn=>hJ5 _ (by show if true=true then KK false else _;rw[if_pos rfl];exact kF hn)
  refine aZ _ y.length (fun j v=>v=(j:Int)/\∀q,q<j->bb (some m) (y.getD q default)=true) (fun R8 j v hj⟨e,hq⟩ih8=>?_) (fun R8 v⟨e,hq⟩=>?_) _ ⟨rfl,fun q hq=>by omega⟩
  ·subst e;rw[if_pos (aU hj)];refine⟨ob hj,?_⟩;rw[Int.toNat_natCast];refine ifk (fun hc=>goF fun hu=>?_) (fun hc=>ih8 _ ⟨az kQ1,fun q hq'=>?_⟩)
   ·have:=(h1 _).2 (hu _ ((hy _).1 (bJ _ hj)))
    have hc:(!bb (some m) (y.getD j default))=true:=hc
    rw[this]at hc;cases hc
   ·rcases adJ q j with h'|h'
    ·exact hq q h'
    ·obtain rfl:q=j:=by omega
     have hc:¬ (!bb (some m) (y.getD q default))=true:=hc
     simpa using hc
  ·subst e;rw[if_neg (by simp)];have hu:∀w,vz x w->bb s w=true\/w∈D i:=fun w hw=>by
    obtain⟨q,hq1,e⟩:=ae4.1 ((hy w).2 hw);have:=hq q hq1
    rw[List.getD,acW hq1]at this;exact(h1 w).1 (by rw[<- e];exact this)
   refine hJ5 _ ?_;show if false=true then KK false else _
   rw[if_neg (by simp)];refine ifk (fun hc=>on hu _ fun w=>?_) (fun hc=>on hu _ fun w=>?_)
   ·rw[If,aeZ,h1,hd w hi,decide_eq_true_eq];have hc:¬ x.Dst=[]:=by simpa using hc
    constructor
    ·rintro(rfl|h|h)
     ·exact .inr (.inr ⟨rfl,hc⟩)
     ·exact .inl h
     ·exact .inr (.inl h)
    ·rintro(h|h|⟨h,_⟩)
     ·exact .inr (.inl h)
     ·exact .inr (.inr h)
     ·exact .inl h.symm
   ·have hc:x.Dst=[]:=by simpa using hc
    rw[h1,hd w hi];exact or_congr Iff.rfl ⟨.inl,fun h=>h.elim id fun⟨a,c⟩=>absurd (a.trans hc) c⟩
 ·obtain⟨v1,m⟩:=v;dsimp only at e h1 h2⊢;subst e;rw[if_neg (by simp)];rw[hDl]at h1;intro J10 hJ10;have fin:∀c:Bool,(c=true ↔ ((b.End.Kind=2\/b.End.Kind=3)->b.End.A.Kind=1->bb s b.End.A.S=true\/b.End.A.S∈iQ b))->J10 c:=fun c hc=>by
   refine hJ10 _ ?_;show KK c
   cases c with
   |true=>exact kT ⟨h2,hc.1 rfl⟩
   |false=>exact kF fun hb=>by have:=hc.2 hb.2;cases this
  have hm:∀w,(aI (β:=Bool) .s m w).getD (dflt .bo)=bb (some m) w:=fun w=>rfl
  rw[hm];by_cases c2:b.End.Kind=2
  ·rw[if_neg (by simp[c2])];by_cases ca:b.End.A.Kind=1
   ·rw[if_neg (by simp[ca])];exact fin _ ((h1 _).trans ⟨fun h _ _=>h,fun h=>h (.inl c2) ca⟩)
   ·rw[if_pos (by simp[ca])];exact fin _ ⟨fun _ _ e=>absurd e ca,fun _=>rfl⟩
  ·rw[if_pos (by simp[c2])];by_cases c3:b.End.Kind=3
   ·rw[if_neg (by simp[c3])];by_cases ca:b.End.A.Kind=1
    ·rw[if_neg (by simp[ca])];exact fin _ ((h1 _).trans ⟨fun h _ _=>h,fun h=>h (.inr c3) ca⟩)
    ·rw[if_pos (by simp[ca])];exact fin _ ⟨fun _ _ e=>absurd e ca,fun _=>rfl⟩
   ·rw[if_pos (by simp[c3])];exact fin _ ⟨fun _ e=>absurd e (by simp[c2,c3]),fun _=>rfl⟩
theorem It(f:Lt.Func)(s to:List UInt8)(KK:Bool->Prop)(h:KK (Do f s to)):tS f s to KK:=by
 unfold tS;intro hl;refine bZ f.Blocks (fun l=>KK (DU to s l)) (fun R i x r hi hx _ ih h=>?_) (fun R h=>?_) h
 ·rw[if_pos (aU hi)];refine⟨ob hi,?_⟩;rw[Int.toNat_natCast,hx];unfold DU at h;refine ifk (fun hc=>?_) (fun hc=>?_)
  ·rw[if_pos (of_decide_eq_true hc)]at h;exact h
  ·rw[if_neg (by simpa using hc)]at h;exact ih hl h
 ·rw[if_neg (by simp)];exact h
theorem LG(f:Lt.Func)(o:Option (List (List UInt8×Lt.Vs)))(hp:uY f o)(KK:Bool->Prop)(h:KK (K5 f o)):xq f o KK:=by
 unfold xq;dsimp only;intro hl;refine bZ f.Blocks (fun _=>True) (fun R i x r hi hx hm ih _=>?_) (fun R _=>?_) trivial
 ·rw[if_pos (aU hi)];refine⟨ob hi,fun _=>?_⟩;dsimp +instances only [Int.toNat_natCast]
  rw[hx,hp x hm];refine aZ _ 0 (fun i v=>v=0) (fun R i v hi=>by omega) (fun R3 v e=>?_) _ rfl;subst e;exact ih hl trivial
 ·rw[if_neg (by simp)];exact h
theorem Iu(f:Lt.Func)(hp:Ms f)(KK:Bool->Prop)(h:KK (je f)):tT f KK:=by
 unfold tT;obtain⟨hp,hph,hpu⟩:=hp;have kF:(¬ ∀k,k<f.Blocks.length->nO (fun v=>¬ Bare f v k) (bkB f k))->KK false:=fun hg=>by unfold je at h;rw[yO hg]at h;exact h
 have kT:(∀k,k<f.Blocks.length->nO (fun v=>¬ Bare f v k) (bkB f k))->KK true:=fun hg=>by unfold je at h;rw[uJ hg]at h;exact h
 dsimp only;refine⟨hp,fun y hy hyl=>?_⟩;obtain⟨hyn,hy⟩:=hy;have hbe:∀k,k<f.Blocks.length->(jd (y.getD k default) (bkB f k)=true ↔ nO (fun v=>¬ Bare f v k) (bkB f k)):=fun k hk=>by
  unfold jd;rw[OF];refine E6 _ fun v=>((hy k hk).2 v).trans ?_
  have:phB f k=[]:=by show(bkB f k).Phis.map _=[];rw[hph _ (bJ _ hk)];rfl
  rw[this];simp
 refine aZ _ y.length (fun i v=>v.1=(i:Int)/\∀k,k<i->nO (fun v=>¬ Bare f v k) (bkB f k)) (fun R i v hi⟨e,h1⟩ih=>?_) (fun R v⟨e,h1⟩=>?_) _ ⟨rfl,fun k hk=>by omega⟩
 ·obtain⟨v1,m⟩:=v;dsimp only at e h1⊢;subst e;rw[if_pos (aU hi)];have hk:i<f.Blocks.length:=by omega
  have hbe:=hbe i hk
  have hsm:=(hy i hk).1
  intro J4 hJ4;dsimp +instances only [Int.toNat_natCast]at hJ4⊢
  refine⟨ob hi,ob hk,⟨hsm,hpu _ (bJ _ hk)⟩,?_⟩;refine ifk (fun hc=>kF fun hall=>?_) (fun hc=>?_)
  ·have hc:(!jd (y.getD i default) (bkB f i))=true:=hc
   rw[hbe.2 (hall i hk)]at hc;cases hc
  ·have hc:¬ (!jd (y.getD i default) (bkB f i))=true:=hc
   have hb:=hbe.1 (by simpa using hc)
   have on:∀m',J4 m':=fun m'=>hJ4 _ (ih _ ⟨az kQ1,fun k hk'=>by
    rcases adJ k i with h'|h'
    ·exact h1 k h'
    ·obtain rfl:k=i:=by omega
     exact hb⟩)
   exact⟨ob hk,⟨ob hk,hsm,on _⟩,hsm,ob hk,on _⟩
 ·obtain⟨v1,m⟩:=v;dsimp only at e h1⊢;subst e;rw[if_neg (by simp)];exact⟨hph,kT fun k hk=>h1 k kQ1⟩
end Go.Am
end

section
namespace Go.Am
open Go
theorem Mo{p:Lt.Program}(h:gO p=true):∀f∈p.Funcs,∀b∈f.Blocks,b.Phis=[]:=by
 intro f hf b hb;have h1:p.Funcs.all zq=true:=((acX _ _).mp h).1
 have h2:f.Blocks.all rm=true:=adC.1 h1 f hf
 have h3:rm b=true:=adC.1 h2 b hb
 unfold rm at h3;have h4:=((acX _ _).mp h3).1
 exact adZ (by simpa using h4)
theorem DQ(p:Lt.Program)(hp:cw p)(KK:Int->Prop)(h:KK (dH p)):qI p KK:=by
 unfold qI;unfold dH at h;obtain⟨hh,hf⟩:=hp;dsimp only;intro _;refine⟨⟨by simp,by simp only[ac0,ac6];omega⟩,?_⟩;refine ifk (fun hc=>?_) (fun hc=>by rw[if_pos (.inl (by simpa using hc))]at h;exact h);refine ifk (fun hc2=>by rw[if_pos (.inr (by simpa using hc2))]at h;exact h) (fun hc2=>?_);have hc2:gO p=true:=by simpa using hc2
 rw[if_neg (by rw[hc,hc2];simp)]at h;refine⟨⟨by simp,by simp only[ac0,ac6];omega⟩,trivial,?_⟩;refine ifk (fun hc3=>by rw[if_pos (by simpa using hc3)]at h;exact h) (fun hc3=>?_);rw[if_neg (by simpa using hc3)]at h;refine⟨⟨by simp,by simp only[ac0,ac6];omega⟩,hh,?_⟩;refine ifk (fun hc4=>by rw[if_pos (by simpa using hc4)]at h;exact h) (fun hc4=>?_);rw[if_neg (by simpa using hc4)]at h;intro _;have hph:=Mo hc2
 refine bZ p.Funcs (fun l=>KK (wt p l)) (fun R i x r hi hx hm ih h=>?_) (fun R h=>?_) h
 ·rw[if_pos (aU hi)];refine⟨ob hi,fun _=>?_⟩;dsimp +instances only [Int.toNat_natCast]
  rw[hx];obtain⟨h1,h2,h3,h4,h5⟩:=hf x hm;unfold wt at h;refine⟨⟨by simp,by simp only[ac0,ac6];omega⟩,h2,?_⟩;refine ifk (fun hc5=>by rw[if_pos (by simpa using hc5)]at h;exact h) (fun hc5=>?_);have hc5:e9 x=true:=by simpa using hc5
  rw[if_neg (by rw[hc5];simp)]at h;refine⟨⟨by simp,by simp only[ac0,ac6];omega⟩,h1,?_⟩;refine ifk (fun hc6=>by rw[if_pos (by simpa using hc6)]at h;exact h) (fun hc6=>?_);rw[if_neg (by simpa using hc6)]at h;refine⟨⟨by simp,by simp only[ac0,ac6];omega⟩,⟨⟨h2,?_,h3,h4⟩,hph x hm,h5⟩,?_⟩
  ·unfold e9 at hc5;exact OF.1 hc5
  ·refine ifk (fun hc7=>by rw[if_pos (by simpa using hc7)]at h;exact h) (fun hc7=>?_);rw[if_neg (by simpa using hc7)]at h;exact ih (by assumption) h
 ·rw[if_neg (by simp)];exact h
theorem yQ(p:Lt.Program)(hp:zw p)(KK:Bool->Prop)(h:KK (Kl p)):mM p KK:=by
 obtain⟨okP,okE,okAt,hr⟩:=hp;unfold mM;have h:KK true:=h
 intro J hJ;have hm:Eh p 6000:=⟨okP,by decide⟩
 refine ifk (fun hc=>absurd hc (by decide)) (fun _=>⟨hm,hJ _ ?_⟩);refine ifk (fun hc=>h) (fun hc=>?_);have hc:Lt.Few p 6000=true:=by simpa using hc
 have hf:mm p:=⟨okP,okE,okAt,(hr hc).2⟩
 exact⟨hf,(hr hc).1,hf,by rw[decide_eq_true rfl];exact h⟩
theorem OZ(p:Lt.Program):∀l:List Lt.Func,wt p l=0 ↔ ∀f∈l,e9 f=true/\mZ p f=true/\je f=true
 |[]=>by simp[wt]
 |f::r=>by
  have ih:=OZ p r
  unfold wt;simp only[ac8,forall_eq_or_imp];rw[<- ih];by_cases h1:e9 f=false
  ·rw[if_pos h1];simp[h1]
  ·rw[if_neg h1];by_cases h2:mZ p f=false
   ·rw[if_pos h2];simp[h2]
   ·rw[if_neg h2];by_cases h3:je f=false
    ·rw[if_pos h3];simp[h3]
    ·rw[if_neg h3];simp only[Bool.not_eq_false]at h1 h2 h3;simp[h1,h2,h3]
theorem Zs(p:Lt.Program):dH p=0 ↔ dY p=true/\gO p=true/\ik p=true/\eX p=true/\wt p p.Funcs=0:=by
 unfold dH;cases h1:dY p with
 |false=>simp
 |true=>
  cases h2:gO p with
  |false=>simp
  |true=>
   cases h3:ik p with
   |false=>simp
   |true=>
    cases h4:eX p with
    |false=>simp
    |true=>simp
theorem kk{α:Type}{KK:α->Prop}{a b:α}(h:KK a)(e:a=b):KK b:=e ▸ h
theorem Up(s:List UInt8)(KK:Bool->Prop)(h:KK (Lt.kept s)):Kx s KK:=by
 unfold Kx;(try simp only[aE,aK,aL,jval,bor,band,bnand,bimp,and_self]);unfold Lt.kept at h;simpa only[Bool.or_assoc]using h
theorem Uq(s:List UInt8)(KK:Bool->Prop)(h:KK (Lt.kind s)):Ky s KK:=by
 unfold Ky;(try simp only[aE,aK,aL,jval,bor,band,bnand,bimp,and_self]);unfold Lt.kind at h;simpa only[Bool.or_assoc]using h
theorem LK(c:UInt8)(KK:Bool->Prop)(h:KK (Lt.letter c)):xt c KK:=by
 unfold xt;(try simp only[aE,aK,aL,jval,bor,band,bnand,bimp,and_self]);refine kk h ?_;unfold Lt.letter OH
 grind
theorem AG(c:UInt8)(KK:Bool->Prop)(h:KK (pW c)):nZ c KK:=by
 unfold nZ;(try simp only[aE,aK,aL,jval,bor,band,bnand,bimp,and_self]);exact h
theorem QC(n:Int)(KK:Int->Prop)(h:KK (Lt.Plain n)):CQ n KK:=by
 unfold CQ;(try simp only[aE,aK,aL,jval,bor,band,bnand,bimp,and_self]);unfold Lt.Plain at h;exact h
theorem Un(s:List UInt8)(KK:Bool->Prop)(h:KK (Lt.Name s)):Kv s KK:=by
 unfold Kv;(try simp only[aE,aK,aL,jval,bor,band,bnand,bimp,and_self,abM,ab5,ab6]);have hn:¬ s=[]->0<s.length:=by cases s<;>simp
 refine⟨fun h1 h2=>⟨Int.le_refl _,by grind⟩,?_⟩;split
 ·refine kk h ?_;unfold Lt.Name;grind
 ·intro hl;refine cU (α:=UInt8) s hl y9 true KK _ (fun R i hi ih hF=>?_) (fun R h=>?_) (kk h ?_)
  ·have hd:s.getD i 0=s.getD i default:=rfl
   simp only[aU hi,if_true,Int.toNat_natCast,hd];unfold y9 at ih hF;refine⟨fun _=>⟨ac2 i,hi⟩,fun _ _=>⟨ac2 i,hi⟩,?_⟩
   grind
  ·simp only[gm,ac4,if_false];exact⟨False.elim,False.elim,h⟩
  ·unfold Lt.Name;grind
theorem QU(l:List Lt.Var)(most:Int)(KK:Bool->Prop)(h:KK (Lt.typed l most)):C9 l most KK:=by
 unfold C9;(try simp only[aE,aK,aL,jval,bor,band,bnand,bimp,and_self]);unfold Lt.typed at h;intro hl;split
 ·refine kk h ?_;grind
 ·intro _;refine cU l hl (fun v=>Lt.Name v.Name&&Lt.kind v.Type_) true KK _ (fun R i hi ih hF=>?_) (fun R h=>?_) (kk h ?_)
  ·simp only[aU hi,if_true,Int.toNat_natCast];refine⟨⟨ac2 i,hi⟩,?_⟩
   grind
  ·simp only[gm,ac4,if_false];exact h
  ·grind
theorem AH(a:Lt.Arg)(KK:Bool->Prop)(h:KK (mE a)):n3 a KK:=by
 unfold n3;(try simp only[aE,aK,aL,jval,bor,band,bnand,bimp,and_self]);refine kk h ?_;unfold mE
 grind
theorem DS(l:List Lt.Arg)(objs:Bool)(KK:Bool->Prop)(h:KK (cZ l objs)):qL l objs KK:=by
 unfold qL;(try simp only[aE,aK,aL,jval,bor,band,bnand,bimp,and_self]);intro hl;refine cU l hl (ib objs) true KK _ (fun R i hi ih hF=>?_) (fun R h=>?_) (kk h ?_)
 ·simp only[aU hi,if_true,Int.toNat_natCast];refine⟨⟨ac2 i,hi⟩,?_⟩;unfold ib at ih hF
  grind
 ·simp only[gm,ac4,if_false];exact h
 ·simp[cZ]
theorem Tg(a:Lt.Arg)(o:Bool):cZ [a] o=ib o a:=by simp[cZ]
theorem QF(f:Lt.Frame)(KK:Bool->Prop)(h:KK (Lt.frame f)):CU f KK:=by
 unfold CU;(try simp only[aE,aK,aL,jval,bor,band,bnand,bimp,and_self]);unfold Lt.frame at h;split
 ·refine kk h ?_;grind
 ·intro hl;refine cU f.Vars hl ur true KK _ (fun R i hi ih hF=>?_) (fun R h=>?_) (kk h ?_)
  ·simp only[aU hi,if_true,Int.toNat_natCast,Tg];refine⟨⟨ac2 i,hi⟩,?_⟩;unfold ur at ih hF
   grind
  ·simp only[gm,ac4,if_false];exact h
  ·grind
theorem Xi(l:List UInt8)(n:Int)(KK:List UInt8->Prop)(h:KK (Lt.nth l n)):SC l n KK:=by
 unfold SC;(try simp only[aE,aK,aL,fU,nh,jval,bor,band,bnand,bimp,and_self]);unfold Lt.nth at h;by_cases hl:l.length<=LEN
 ·refine aZ _ (l.length+1) (fun k x=>∃(n:Int)(f i:Nat),x=(n,(f:Int),(i:Int))/\i=k+1/\f<i/\f<=l.length/\KK (Q1 l (l.length+1-k) n f i)) (fun R k x hk hP hR=>?_) (fun R x hP=>?_) _ ⟨n,0,1,rfl,by omega,by omega,by omega,h⟩
  ·obtain⟨n,f,i,rfl,hi1,hf,hf2,h⟩:=hP;intro _;by_cases hi:i<l.length
   ·simp only[aU hi,if_true,Int.toNat_natCast];refine⟨⟨ac2 i,hi⟩,?_⟩;rw[show l.length+1-k=(l.length+1 - (k+1))+1 by omega]at h;simp only[Q1,hi,if_true]at h;have w1:i64.wrap ((i:Int)+1)=((i+1:Nat):Int):=az (by unfold LEN at hl;omega)
    have w2:i64.wrap ((f:Int)+1)=((f+1:Nat):Int):=az (by unfold LEN at hl;omega)
    rw[w1,w2];dsimp +instances only [Int.toNat_natCast]
    split
    ·rename_i hc;have hc':¬ (((l.getD i 0).toNat:Nat):Int)=32:=by simpa using hc
     rw[if_neg hc']at h;exact hR _ ⟨n,f,i+1,rfl,by omega,by omega,by omega,h⟩
    ·rename_i hc;have hc':(((l.getD i 0).toNat:Nat):Int)=32:=by simpa using hc
     rw[if_pos hc']at h;split
     ·rename_i hz;have hz':i64.wrap (n - 1)=0:=by simpa using hz
      rw[if_pos hz']at h;exact⟨ac2 _,ac2 _,⟨by omega,by omega⟩,h⟩
     ·rename_i hz;have hz':¬ i64.wrap (n - 1)=0:=by simpa using hz
      rw[if_neg hz']at h;exact hR _ ⟨_,i,i+1,rfl,by omega,by omega,by omega,h⟩
   ·have hf:decide ((i:Int) < (l.length:Int))=false:=by simp;omega
    simp only[hf,ac4,if_false];rw[show l.length+1-k=(l.length+1 - (k+1))+1 by omega]at h;simp only[Q1,hi,if_false]at h;exact h
  ·obtain⟨n,f,i,rfl,hi1,hf,hf2,h⟩:=hP;intro _;have hf:decide ((i:Int) < (l.length:Int))=false:=by simp;omega
   simp only[hf,ac4,if_false];rw[show l.length+1 - (l.length+1)=0 by omega]at h;exact h
 ·exact⟨1,fun h=>absurd h hl⟩
theorem ZG(op:Int)(KK:Lt.Form×Bool->Prop)(h:KK (Lt.Of op)):YV op KK:=by
 unfold YV;(try simp only[aE,aK,aL,jval,bor,band,bnand,bimp,and_self]);refine kk h ?_;unfold Lt.Of Lt.two;simp only[acX,decide_eq_true_eq]
theorem Xm{α:Type}(l:List α):((l.length:Int)=0)=(l=[]):=by
 cases l<;>simp
 omega
theorem Xj(x:Lt.Phi)(KK:Bool->Prop)(h:KK (Lt.phi x)):SE x KK:=by
 unfold SE;(try simp only[aE,aK,aL,fU,nh,jval,bor,band,bnand,bimp,and_self]);have e0:=Xm x.Ins
 unfold Lt.phi at h;split
 ·refine kk h ?_;grind
 ·intro hl;refine cU x.Ins hl DL true KK _ (fun R i hi ih hF=>?_) (fun R h=>?_) (kk h ?_)
  ·simp only[aU hi,if_true,Int.toNat_natCast,Tg];refine⟨⟨ac2 i,hi⟩,?_⟩;unfold DL at ih hF
   grind
  ·simp only[gm,ac4,if_false];exact h
  ·grind
theorem UQ(a:Lt.Arg):(decide (a.Kind=0)&&(decide (a.S=([]:List UInt8))&&decide (a.N=0)))=OJ a:=by
 obtain⟨k,s,n⟩:=a;simp only[OJ,Lt.Arg.mk.injEq];by_cases h1:k=0<;>by_cases h2:s=[]<;>by_cases h3:n=0<;>simp[h1,h2,h3]
theorem IA(t:Lt.Term)(KK:Bool->Prop)(h:KK (tf t)):tZ t KK:=by
 unfold tZ;(try simp only[aE,aK,aL,fU,nh,jval,bor,band,bnand,bimp,and_self]);intro hl;unfold tf at h;refine cU t.To hl Lt.Name _ KK _ (fun R i hi ih hF=>?_) (fun R h=>?_) h
 ·simp only[aU hi,if_true,Int.toNat_natCast];refine⟨⟨ac2 i,hi⟩,?_⟩
  grind
 ·simp only[gm,ac4,if_false,UQ,Tg];have e0:((t.To.length:Int)=0)=(t.To.length=0):=propext kQ1
  have e1:((t.To.length:Int)=1)=(t.To.length=1):=propext kQ1
  have e2:((t.To.length:Int)=2)=(t.To.length=2):=propext kQ1
  refine kk h ?_;simp only[e0,e1,e2]
  grind
theorem QG(x:Lt.Instr)(KK:Bool->Prop)(h:KK (Lt.instr x)):CV x KK:=by
 unfold CV;dsimp only;(try simp only[aE,aK,aL,jval,bor,band,bnand,bimp,and_self]);have e0:=Xm x.Frames
 have e1:=Xm x.Objs
 unfold Lt.instr at h;refine ifk (fun hc=>kk h (by grind)) (fun hA hl=>?_);refine ifk (fun hc=>kk h (by grind)) (fun hB=>?_);refine ifk (fun hc hl=>kk h (by grind)) (fun hC hl=>?_);refine cU x.Frames hl Lt.frame (x.Objs.all Lt.virt) KK _ (fun R i hi ih hF=>?_) (fun R h=>?_) (kk h ?_)
 ·simp only[aU hi,if_true,Int.toNat_natCast];refine⟨⟨ac2 i,hi⟩,?_⟩
  grind
 ·simp only[gm,ac4,if_false];intro hl2;refine cU x.Objs hl2 Lt.virt true KK _ (fun R i hi ih hF=>?_) (fun R h=>?_) (kk h ?_)
  ·simp only[aU hi,if_true,Int.toNat_natCast];refine⟨⟨ac2 i,hi⟩,?_⟩;unfold Lt.virt at ih hF
   grind
  ·simp only[gm,ac4,if_false];exact h
  ·simp
 ·grind
theorem QE(b:Lt.Block)(KK:Bool->Prop)(h:KK (Lt.block b)):CS b KK:=by
 unfold CS;(try simp only[aE,aK,aL,jval,bor,band,bnand,bimp,and_self]);unfold Lt.block at h;split
 ·refine kk h ?_;grind
 ·intro hl;refine cU b.Phis hl Lt.phi (b.Code.all Lt.instr) KK _ (fun R i hi ih hF=>?_) (fun R h=>?_) (kk h ?_)
  ·simp only[aU hi,if_true,Int.toNat_natCast];refine⟨⟨ac2 i,hi⟩,?_⟩
   grind
  ·simp only[gm,ac4,if_false];intro hl2;refine cU b.Code hl2 Lt.instr true KK _ (fun R i hi ih hF=>?_) (fun R h=>?_) (kk h ?_)
   ·simp only[aU hi,if_true,Int.toNat_natCast];refine⟨⟨ac2 i,hi⟩,?_⟩
    grind
   ·simp only[gm,ac4,if_false];exact h
   ·simp
  ·grind
theorem uK(f:Lt.Func)(KK:Bool->Prop)(h:KK (cG f)):jM f KK:=by
 unfold jM;dsimp only;(try simp only[aE,aK,aL,jval,bor,band,bnand,bimp,and_self]);have e0:=Xm f.Blocks
 unfold cG at h;refine ifk (fun hc=>kk h (by grind)) (fun hA hl=>?_);refine qZ f.Blocks hl (fun(b:{b:Nat // b<=1024}) i=>((b.1:Int),i)) (fun t b=>Lt.blocks t b.1) KK _ (fun R b i hi ih h=>?_) (fun R b h=>?_) ⟨0,by omega⟩ (kk h (by grind))
 ·obtain⟨b,hb⟩:=b;simp only[aU hi,if_true,Int.toNat_natCast]
  try dsimp +instances only [Int.toNat_natCast]
  refine⟨⟨ac2 i,hi⟩,?_⟩;generalize f.Blocks.getD i default=x at h;obtain⟨bn,bp,bc,⟨k,a,t,n⟩⟩:=x;dsimp only at h ih⊢;simp only[Lt.blocks]at h;intro _;refine ifk (fun hc=>kk h (by grind)) (fun hc _ _=>?_);simp only[aeZ,decide_eq_true_eq,not_or]at hc;have w1:i64.wrap ((bp.length:Int)+(bc.length:Int))=((bp.length+bc.length:Nat):Int):=by rw[dl kQ1 kQ1];omega
  have w2:i64.wrap ((b:Int)+((bp.length+bc.length:Nat):Int))=((b+(bp.length+bc.length):Nat):Int):=by rw[dl kQ1 kQ1];omega
  rw[w1,w2];refine ifk (fun hc=>kk h (by grind)) (fun hc=>?_);have hle:b+(bp.length+bc.length)<=1024:=by grind
  exact ih ⟨_,hle⟩ (kk h (by grind))
 ·simp only[gm,ac4,if_false];simpa only[Lt.blocks]using h
theorem AC(p:Lt.Program)(KK:Bool->Prop)(h:KK (dY p)):nW p KK:=by
 unfold nW;dsimp only;(try simp only[aE,aK,aL,jval,bor,band,bnand,bimp,and_self]);unfold dY at h;intro _;refine ifk (fun hc=>kk h (by grind)) (fun hA hl=>?_);refine cU p.Classes hl qX (p.Externs.all kV&&p.Funcs.all cG) KK _ (fun R i hi ih hF=>?_) (fun R h=>?_) (kk h (by grind))
 ·simp only[aU hi,if_true,Int.toNat_natCast];refine⟨⟨ac2 i,hi⟩,?_⟩;unfold qX at ih hF
  grind
 ·simp only[gm,ac4,if_false];intro hl2;refine cU p.Externs hl2 kV (p.Funcs.all cG) KK _ (fun R i hi ih hF=>?_) (fun R h=>?_) h
  ·simp only[aU hi,if_true,Int.toNat_natCast];refine⟨⟨ac2 i,hi⟩,?_⟩;unfold kV at ih hF
   grind
  ·simp only[gm,ac4,if_false];intro hl3;refine cU p.Funcs hl3 cG true KK _ (fun R i hi ih hF=>?_) (fun R h=>?_) (kk h (by simp))
   ·simp only[aU hi,if_true,Int.toNat_natCast];refine⟨⟨ac2 i,hi⟩,?_⟩
    grind
   ·simp only[gm,ac4,if_false];exact h
theorem bL{α:Type}[Inhabited α]{l:List α}{P:α->Prop}(h:∀x∈l,P x){i:Nat}(hi:i<l.length):P (l.getD i default):=h _ (bJ l hi)
theorem cW{α:Type}[Inhabited α](l:List α)(most:Int)(go:List α->Int->Int)(h0:∀b,go [] b=b)(h1:∀x r b,¬ b<=most->go (x::r) b=b)(KK:Int->Prop)(A B:(Int×Int->Prop)->Int×Int->Prop)
  (hs:∀R b i,l.length<=LEN->i<l.length->b<=most->(∀b',KK (go (l.drop (i+1)) b')->R (b',i64.wrap ((i:Int)+1)))->KK (go (l.getD i default::l.drop (i+1)) b)->A R (b,(i:Int)))
  (he:∀R b i,KK b->B R (b,i)) (b:Int) (h:KK (go l b)):af (fun R v=>l.length<=4611686018427387904->if(decide (v.2 < (l.length:Int))&&decide (v.1<=most))=true then A R v else B R v) (b,0):=by
 by_cases hl:l.length<=LEN
 ·refine Ql l hl go KK _ (fun R b i hi ih h _=>?_) (fun R b h _=>?_) b h
  ·by_cases hb:b<=most
   ·rw[if_pos (by simp only[aU hi,hb,decide_true,afJ])];exact hs R b i hl hi hb ih h
   ·rw[if_neg (by simp[hb])];rw[h1 _ _ _ hb]at h;exact he R b i h
  ·rw[if_neg (by simp)];rw[h0]at h;exact he R b _ h
 ·exact⟨1,fun h=>absurd h hl⟩
theorem AB(l:List Lt.Var)(most:Int)(KK:Int->Prop)(h:KK (bP l most)):nV l most KK:=by
 unfold nV;(try simp only[aE,aK,aL,fU,nh,jval,bor,band,bnand,bimp,and_self]);unfold bP at h;intro _;refine ifk (fun hc=>kk h (by grind)) (fun hc _=>?_);refine cW l most (yl most) (fun _=>rfl) (fun x r b hb=>by simp[yl,hb]) KK _ _ (fun R b i hl hi hb ih h=>?_) (fun R b i h=>h) _ (kk h (by grind));simp only[Int.toNat_natCast]
 try dsimp +instances only [Int.toNat_natCast]
 refine⟨⟨ac2 i,hi⟩,fun _=>?_⟩;simp only[yl,Lt.plus,hb,if_true]at h;have o:=ob hi
 grind
theorem AA(l:List Lt.Arg)(most:Int)(KK:Int->Prop)(h:KK (dv l most)):nU l most KK:=by
 unfold nU;(try simp only[aE,aK,aL,fU,nh,jval,bor,band,bnand,bimp,and_self]);unfold dv at h;intro _;refine ifk (fun hc=>kk h (by grind)) (fun hc _=>?_);refine cW l most (yk most) (fun _=>rfl) (fun x r b hb=>by simp[yk,hb]) KK _ _ (fun R b i hl hi hb ih h=>?_) (fun R b i h=>h) _ (kk h (by grind));simp only[Int.toNat_natCast]
 try dsimp +instances only [Int.toNat_natCast]
 refine⟨⟨ac2 i,hi⟩,fun _=>?_⟩;simp only[yk,Lt.plus,hb,if_true]at h;exact ih _ h
theorem yS(x:Lt.Instr)(most:Int)(hp:U5 x most)(KK:Int->Prop)(h:KK (dJ x most)):mO x most KK:=by
 obtain⟨⟨_,okF,_⟩,hm⟩:=hp;unfold mO;dsimp only;(try simp only[aE,aK,aL,jval,bor,band,bnand,bimp,and_self]);unfold dJ at h;intro _;refine ifk (fun hc=>kk h (by grind)) (fun hc _ _ _=>?_);rw[if_neg hc]at h;intro J hJ;have hj:J (Lt.upto most (Lt.plus (Lt.plus (Lt.plus 1 x.Dst.length) x.Frames.length) x.Objs.length) (x.Name.length:Int)):=by
  refine hJ _ ?_;dsimp only;refine cW x.Frames most (kM most) (fun _=>rfl) (fun x r b hb=>by simp[kM,hb]) (fun n=>KK (sC most x.Objs n)) _ _ (fun R b i hl hi hb ih h=>?_) (fun R b i h=>?_) _ (kk h (by unfold Lt.upto;grind))
  ·simp only[Int.toNat_natCast]
   try dsimp +instances only [Int.toNat_natCast]
   have o:(0:Int)<=(i:Int)/\i<x.Frames.length:=⟨ac2 i,hi⟩
   simp only[o,and_self,true_and];intro _;simp only[kM,Lt.plus,hb,if_true]at h;have okf:=bL okF hi
   generalize x.Frames.getD i default=f at h okf⊢;intro J2 hJ2;have hj2:J2 (if i64.wrap (b+(f.Func.length:Int))<=most then i64.wrap (i64.wrap (b+(f.Func.length:Int))+(f.Block.length:Int))else i64.wrap (b+(f.Func.length:Int))):=by
    refine hJ2 _ ?_;refine cW f.Vars most (ox most) (fun _=>rfl) (fun x r b hb=>by simp[ox,hb]) (fun n=>KK (sC most x.Objs (kM most (x.Frames.drop (i+1)) n))) _ _ (fun R2 b2 j hl2 hj hb2 ih2 h=>?_) (fun R2 b2 j h=>?_) _ (kk h (by grind))
    ·simp only[Int.toNat_natCast]
     try dsimp +instances only [Int.toNat_natCast]
     have o2:(0:Int)<=(j:Int)/\j<f.Vars.length:=⟨ac2 j,hj⟩
     simp only[o2,and_self,true_and];(try simp only[aE,aK,aL,fU,nh,jval,bor,band,bnand,bimp,and_self]);intro _;simp only[ox,Lt.plus,hb2,if_true]at h
     grind
    ·exact ih _ h
   grind
  ·refine cW x.Objs most (sC most) (fun _=>rfl) (fun x r b hb=>by simp[sC,hb]) KK _ _ (fun R b i hl hi hb ih h=>?_) (fun R b i h=>h) _ h;simp only[Int.toNat_natCast]
   try dsimp +instances only [Int.toNat_natCast]
   have o:(0:Int)<=(i:Int)/\i<x.Objs.length:=⟨ac2 i,hi⟩
   simp only[o,and_self,true_and];(try simp only[aE,aK,aL,fU,nh,jval,bor,band,bnand,bimp,and_self]);intro _;simp only[sC,Lt.plus,hb,if_true]at h
   grind
 unfold Lt.upto Lt.plus at hj
 grind
theorem yR(b:Lt.Block)(most:Int)(hp:U4 b most)(KK:Int->Prop)(h:KK (dI b most)):mN b most KK:=by
 obtain⟨⟨okP,okC,okE⟩,hm⟩:=hp;unfold mN;dsimp only;(try simp only[aE,aK,aL,jval,bor,band,bnand,bimp,and_self]);unfold dI at h;intro _;refine ifk (fun hc=>kk h (by grind)) (fun hc _=>?_);rw[if_neg (by simpa only[Bool.or_assoc]using hc)]at h;intro J hJ;have hj:J (Lt.upto most (Lt.plus 1 b.Name.length) (b.End.A.S.length:Int)):=by
  refine hJ _ ?_;refine cW b.End.To most (Lt.cTo most) (fun _=>rfl) (fun x r b hb=>by simp[Lt.cTo,hb]) (fun n=>KK (qc most b.Code (sD most b.Phis n))) _ _ (fun R n i hl hi hb ih h=>?_) (fun R n i h=>?_) _ h
  ·simp only[Int.toNat_natCast]
   try dsimp +instances only [Int.toNat_natCast]
   refine⟨⟨ac2 i,hi⟩,fun _=>?_⟩;simp only[Lt.cTo,Lt.plus,hb,if_true]at h;exact ih _ h
  ·refine cW b.Phis most (sD most) (fun _=>rfl) (fun x r b hb=>by simp[sD,hb]) (fun n=>KK (qc most b.Code n)) _ _ (fun R n i hl hi hb ih h=>?_) (fun R n i h=>?_) _ h
   ·simp only[Int.toNat_natCast]
    try dsimp +instances only [Int.toNat_natCast]
    have o:(0:Int)<=(i:Int)/\i<b.Phis.length:=⟨ac2 i,hi⟩
    simp only[o,and_self,true_and];intro _;simp only[sD,Lt.plus,hb,if_true]at h;generalize b.Phis.getD i default=x at h⊢;refine cW x.Ins most (Gy most) (fun _=>rfl) (fun x r b hb=>by simp[Gy,hb]) (fun n=>KK (qc most b.Code (sD most (b.Phis.drop (i+1)) n))) _ _ (fun R2 b2 j hl2 hj hb2 ih2 h=>?_) (fun R2 b2 j h=>?_) _ h
    ·simp only[Int.toNat_natCast]
     try dsimp +instances only [Int.toNat_natCast]
     have o2:(0:Int)<=(j:Int)/\j<x.Ins.length:=⟨ac2 j,hj⟩
     simp only[o2,and_self,true_and];(try simp only[aE,aK,aL,fU,nh,jval,bor,band,bnand,bimp,and_self]);intro _;simp only[Gy,Lt.plus,hb2,if_true]at h
     grind
    ·exact ih _ h
   ·refine cW b.Code most (qc most) (fun _=>rfl) (fun x r b hb=>by simp[qc,hb]) KK _ _ (fun R n i hl hi hb ih h=>?_) (fun R n i h=>h) _ h;simp only[Int.toNat_natCast]
    try dsimp +instances only [Int.toNat_natCast]
    refine⟨⟨ac2 i,hi⟩,⟨bL okC hi,hm⟩,?_⟩;simp only[qc,hb,if_true]at h;exact ih _ h
 unfold Lt.upto Lt.plus at hj
 grind
theorem Ir(f:Lt.Func)(most:Int)(hp:U6 f most)(KK:Int->Prop)(h:KK (kG f most)):tQ f most KK:=by
 obtain⟨okB,hm⟩:=hp;unfold tQ;dsimp only;(try simp only[aE,aK,aL,jval,bor,band,bnand,bimp,and_self]);unfold kG at h;intro _;refine ifk (fun hc=>kk h (by grind)) (fun hc _=>?_);rw[if_neg (by simpa using hc)]at h;intro J hJ;have hj:J (Lt.upto most (Lt.plus 1 f.Name.length) (f.Result.length:Int)):=by
  refine hJ _ ?_;refine cW f.Blocks most (mV most) (fun _=>rfl) (fun x r b hb=>by simp[mV,hb]) KK _ _ (fun R n i hl hi hb ih h=>?_) (fun R n i h=>h) _ (kk h (by unfold Lt.upto;grind));simp only[Int.toNat_natCast]
  try dsimp +instances only [Int.toNat_natCast]
  refine⟨⟨ac2 i,hi⟩,⟨bL okB hi,hm⟩,?_⟩;simp only[mV,hb,if_true]at h;exact ih _ h
 unfold Lt.upto Lt.plus at hj
 grind
theorem Xh(p:Lt.Program)(most:Int)(hp:Eh p most)(KK:Bool->Prop)(h:KK (Lt.Few p most)):SB p most KK:=by
 obtain⟨okF,hm⟩:=hp;unfold SB;dsimp only;(try simp only[aE,aK,aL,fU,nh,jval,bor,band,bnand,bimp,and_self]);unfold Lt.Few at h;intro _;refine ifk (fun hc=>kk h (by grind)) (fun hc=>?_);rw[if_neg (by simpa only[Bool.or_assoc]using hc)]at h;refine cW p.Classes most (jU most) (fun _=>rfl) (fun x r b hb=>by simp[jU,hb]) (fun n=>KK (decide (mW most p.Funcs (ii most p.Externs n)<=most))) _ _ (fun R n i hl hi hb ih h=>?_) (fun R n i h=>?_) _ h
 ·simp only[Int.toNat_natCast]
  try dsimp +instances only [Int.toNat_natCast]
  have o:(0:Int)<=(i:Int)/\i<p.Classes.length:=⟨ac2 i,hi⟩
  simp only[o,and_self,true_and];intro _;simp only[jU,Lt.plus,hb,if_true]at h
  grind
 ·refine cW p.Externs most (ii most) (fun _=>rfl) (fun x r b hb=>by simp[ii,hb]) (fun n=>KK (decide (mW most p.Funcs n<=most))) _ _ (fun R n i hl hi hb ih h=>?_) (fun R n i h=>?_) _ h
  ·simp only[Int.toNat_natCast]
   try dsimp +instances only [Int.toNat_natCast]
   refine⟨⟨ac2 i,hi⟩,fun _=>?_⟩;simp only[ii,Lt.plus,hb,if_true]at h;exact ih _ h
  ·refine cW p.Funcs most (mW most) (fun _=>rfl) (fun x r b hb=>by simp[mW,hb]) (fun n=>KK (decide (n<=most))) _ _ (fun R n i hl hi hb ih h=>?_) (fun R n i h=>h) _ h;simp only[Int.toNat_natCast]
   try dsimp +instances only [Int.toNat_natCast]
   refine⟨⟨ac2 i,hi⟩,⟨bL okF hi,hm⟩,?_⟩;simp only[mW,hb,if_true]at h;exact ih _ h
end Go.Am
end
