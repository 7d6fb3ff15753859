/-
  Part 14: AmY11 · AmZ1 · AmJoinW · AmE3 · AmE3b · AmE3c · AmE3d · AmE20 · AmAppTwo · AmBuildTwo · AmE3e · AmE5 · AmE6 · AmE7.
-/
import Derived.Test.YtlikflolhhlgjaaGreatDoorKe13
import Derived.Lib.Split
set_option linter.unusedSimpArgs false
set_option linter.unusedVariables false
set_option linter.unusedSectionVars false
set_option linter.unnecessarySimpa false
section
namespace Go.Am
open Go
theorem L2 (c:UInt8) (KK:Bool->Prop) (h:KK (Lt.blank c)):B5 c KK:=by
 unfold B5;unfold Lt.blank at h;simp only [wm];cases h1:decide (c=32) <;> simpa [h1] using h
theorem Iv (s:List UInt8) (hp:Lt.rK s) (KK:List (List UInt8)×Bool->Prop) (h:KK (Lt.bO s)):w9 s KK:=by
 have hp:s.length<=1099511627776:=hp
 unfold w9; dsimp only;unfold Lt.bO at h;refine bJ _ (s.length+1) (fun i x=>(i<=s.length/\∃ out f w,x=(out,f,(i:Int))/\((f=-1/\w=[])\/∃ j:Nat,f=(j:Int)/\j<i/\w=(s.drop j).take (i-j))/\out.length<=i/\KK (Lt.fF (s.drop i) w out))\/(i=s.length+1/\∃ out f,x=(out,f,(i:Int))/\KK (out,true))) (fun R i x hi hx hR=>?_) (fun R x hx=>?_) _ (Or.inl ⟨WP _,[],-1,[],rfl,.inl ⟨rfl,rfl⟩,Wb _,h⟩)
 ·rcases hx with ⟨hi,out,f,w,rfl,hw,ho,hk⟩ | ⟨e,_⟩
  ·simp only [show decide ((i:Int)<=(s.length:Int))=true by simpa using hi,if_true,Int.toNat_natCast];refine fun _ J3 hJ3=>?_
   have w1:IntKind.i64.wrap ((i:Int)+1)=((i+1:Nat):Int):=aQ (by omega)
   rw [w1] at hJ3;have push:∀ B:List (List UInt8)->Prop,B (if w=[] then out else out++[w])->aa (α:=List (List UInt8)) (fun J7=>if (decide (0<=f))=true then ((0:Int)<=f/\(0:Int)<=(i:Int)/\(f.toNat<=i/\i<=s.length)/\(out.length+[(s.drop f.toNat).take (i-f.toNat)].length<=4611686018427387904/\(out.length+[(s.drop f.toNat).take (i-f.toNat)].length)*16<=140737488355328)/\J7 (out++[(s.drop f.toNat).take (i-f.toNat)])) else (J7 out)) B:=by
    intro B hB J hJ;rcases hw with ⟨rfl,rfl⟩ | ⟨j,rfl,hj,rfl⟩
    ·exact hJ _ hB
    ·rw [if_pos (by simp),Int.toNat_natCast];have hne:¬ (s.drop j).take (i-j)=[]:=by
      intro e;have:=congrArg List.length e
      simp only [Xc,Wi,W0] at this; omega
     rw [if_neg hne] at hB;refine ⟨by omega,by omega,⟨by omega,hi⟩,⟨?_,?_⟩,hJ _ hB⟩ <;> rw [Wf] <;> omega
   have hol:(if w=[] then out else out++[w]).length<=i+1:=by
    split
    ·omega
    ·rw [WA,Wf]; omega
   by_cases he:i=s.length
   ·refine fun J5 hJ5=>?_
    rw [show decide ((i:Int)=(s.length:Int))=true from decide_eq_true (by omega)];refine fun _=>(hJ5 true ?_)
    simp only [if_true];refine push _ (hJ3 _ (hR _ (.inr ⟨by omega,_,_,rfl,?_⟩)));rw [he,Xd] at hk;exact hk
   have hlt:i<s.length:=by omega
   have hd:s.drop i=s.getD i 0::s.drop (i+1):=by
    rw [Wm hlt,List.getD,V8 hlt]; rfl
   have et:∀ j,j<=i->(s.drop j).take (i+1-j)=(s.drop j).take (i-j)++[s.getD i 0]:=by
    intro j hj;have:=dZ (s.drop j) (i:=i-j) (by rw [Wi]; omega)
    rw [show i+1-j=i-j+1 by omega,this]
    congr 2
    rw [List.getD,Wt,show j+(i-j)=i by omega]; rfl
   rw [hd,Lt.fF] at hk;rw [show decide ((i:Int)=(s.length:Int))=false from decide_eq_false (by omega)];refine fun J5 hJ5=>fun _=>⟨⟨by omega,hlt⟩,hJ5 _ ?_⟩
   refine ifk (fun hb=>?_) (fun hb=>?_)
   ·rw [if_pos hb] at hk;refine push _ (hJ3 _ (hR _ (.inl ⟨by omega,_,_,_,rfl,.inl ⟨rfl,rfl⟩,hol,hk⟩)))
   ·rw [if_neg hb] at hk;have e32:(32:UInt8).toNat=32:=rfl
    have e126:(126:UInt8).toNat=126:=rfl
    have bad:(s.getD i 0).toNat<=32\/126 < (s.getD i 0).toNat->KK ([],false):=fun hc=>by rw [if_pos hc] at hk; exact hk
    simp only [aj,aV,ac,jval,e32,e126];refine ⟨⟨by omega,hlt⟩,ifk (fun c1=>?_) (fun c1=>⟨⟨by omega,hlt⟩,ifk (fun c2=>?_) (fun c2=>?_)⟩)⟩
    ·exact bad (by rw [decide_eq_true_eq] at c1; omega)
    ·exact bad (by rw [decide_eq_true_eq] at c2; omega)
    rw [decide_eq_true_eq] at c1 c2;rw [if_neg (by omega)] at hk;have fin:∀ f:Int,(∃ j:Nat,f=(j:Int)/\j<i+1/\w++[s.getD i 0]=(s.drop j).take (i+1-j))->J3 (out,f):=fun f hf=>hJ3 _ (hR _ (.inl ⟨by omega,_,_,_,rfl,.inr hf,by show out.length<=i+1; omega,hk⟩))
    rcases hw with ⟨rfl,rfl⟩ | ⟨j,rfl,hj,rfl⟩
    ·rw [if_pos (by simp)];exact fin _ ⟨i,rfl,by omega,by rw [et i (Wb _)]; simp⟩
    ·rw [if_neg (by simp)];exact fin _ ⟨j,rfl,by omega,(et j (by omega)).symm⟩
  ·omega
 ·rcases hx with ⟨hi,_⟩ | ⟨_,out,f,rfl,hk⟩
  ·omega
  ·simp only [show decide (((s.length+1:Nat):Int)<=(s.length:Int))=false by simp; omega,V9,if_false];exact fun _=>hk
theorem Kd (c b:UInt8) (s:List UInt8):([c]:List UInt8).isPrefixOf (b::s)=(c==b):=by
 simp [List.isPrefixOf]
theorem sH (c:UInt8):∀ a b:List UInt8,(∀ x∈a,x≠c)->Go.Lib.index (a++c::b) [c]=(a.length:Int)
 | [],b,_=>by rw [XA,Go.Lib.index]; simp [List.isPrefixOf]
 | x::a,b,h=>by
  have ih:=sH c a b (fun y hy=>h y (by simp [hy]))
  rw [WR,Go.Lib.index,Kd,show (c==x)=false from beq_eq_false_iff_ne.2 (fun e=>h x (by simp) e.symm),ih];have:¬ ((a.length:Int) == -1)=true:=by simp
  simp only [V9,if_false,this];rfl
theorem ye (c:UInt8):∀ a:List UInt8,(∀ x∈a,x≠c)->Go.Lib.index a [c]=-1
 | [],_=>by rw [Go.Lib.index]; simp
 | x::a,h=>by
  have ih:=ye c a (fun y hy=>h y (by simp [hy]))
  rw [Go.Lib.index,Kd,show (c==x)=false from beq_eq_false_iff_ne.2 (fun e=>h x (by simp) e.symm),ih];simp
theorem sA (c:UInt8):∀ s:List UInt8,(∀ x∈s,x≠c)\/∃ a b,s=a++c::b/\∀ x∈a,x≠c
 | []=>.inl (by simp)
 | x::s=>by
  by_cases hx:x=c
  ·subst hx; exact .inr ⟨[],s,rfl,by simp⟩
  ·have go:∀ a:List UInt8,(∀ y∈a,y≠c)->∀ y∈x::a,y≠c:=fun a h y hy=>(Wk.1 hy).elim (fun e=>e ▸ hx) (h y)
   rcases sA c s with h | ⟨a,b,rfl,h⟩
   ·exact .inl (go s h)
   ·exact .inr ⟨x::a,b,rfl,go a h⟩
theorem nO {s:List UInt8} {c:UInt8} (h:∀ x∈s,x≠c):Lt.dR s [c]=[s]:=by
 unfold Lt.dR;rw [Go.Lib.splitB_data];have:Go.Lib.countB ⟨s.toArray⟩ ⟨[c].toArray⟩=0:=Go.Lib.count_miss (by simpa using ye c s h)
 rw [this]; rfl
theorem xK {a b:List UInt8} {c:UInt8} (h:∀ x∈a,x≠c):Lt.dR (a++c::b) [c]=a::Lt.dR b [c]:=by
 unfold Lt.dR;rw [Go.Lib.splitB_data,Go.Lib.splitB_data];have hi:Go.Lib.index (a++c::b) [c]=(a.length:Int):=sH c a b h
 have hc:Go.Lib.countB ⟨(a++c::b).toArray⟩ ⟨[c].toArray⟩=1+Go.Lib.countB ⟨b.toArray⟩ ⟨[c].toArray⟩:=by
  have:=Go.Lib.count_hit (s:=a++c::b) (sub:=[c]) (i:=a.length) (by simp) hi
  have e:(a++c::b).drop (a.length+[c].length)=b:=by simp
  rw [e] at this;exact this
 rw [hc,Nat.add_comm,Go.Lib.splitK];show (if Go.Lib.index (a++c::b) [c] == -1 then _ else _)=_
 have:¬ ((a.length:Int) == -1)=true:=by simp
 rw [hi,if_neg this];show (a++c::b).take ((a.length:Int).toNat+0)::Go.Lib.splitK [c] 0 _ ((a++c::b).drop ((a.length:Int).toNat+1))=_
 rw [Int.toNat_natCast]
 congr 1
 ·simp
 ·congr 1; simp
abbrev front (l:List UInt8):List UInt8:=(Lt.Pu l [59]).1
theorem uZ {l:List UInt8} (h:∀ x∈l,x≠59):front l=l:=by
 unfold front Lt.Pu Go.Lib.cut;rw [ye 59 l h]; simp
theorem sk {a b:List UInt8} (h:∀ x∈a,x≠59):front (a++59::b)=a:=by
 unfold front Lt.Pu Go.Lib.cut;rw [sH 59 a b h]; simp
theorem zl:∀ (l:List UInt8) (k:Lt.Cut),k.bad=true->(l.foldl Lt.Cut.byte k).bad=true
 | [],k,h=>h
 | c::l,k,h=>by
  refine zl l _ ?_;unfold Lt.Cut.byte Lt.Cut.word;split
  ·exact h
  ·split
   ·exact h
   ·simp [h]
theorem nh:∀ (l:List UInt8) (k:Lt.Cut),(l.foldl Lt.Cut.byte k).out=k.out/\(l.foldl Lt.Cut.byte k).n=k.n
 | [],k=>⟨rfl,rfl⟩
 | c::l,k=>by
  have ih:=nh l (k.byte c)
  rw [Xr,ih.1,ih.2];unfold Lt.Cut.byte Lt.Cut.word;split
  ·exact ⟨rfl,rfl⟩
  ·split <;> exact ⟨rfl,rfl⟩
theorem lm:∀ (l:List UInt8) (k:Lt.Cut),k.remark=true->k.w=[]->(l.foldl Lt.Cut.byte k).word.l=k.l/\(l.foldl Lt.Cut.byte k).bad=k.bad
 | [],k,h,hw=>⟨by unfold Lt.Cut.word; simp [hw],rfl⟩
 | c::l,k,h,hw=>by
  have e:k.byte c=k:=by
   obtain ⟨o,L,w,n,r,b⟩:=k;have h:r=true:=h
   have hw:w=[]:=hw
   subst h; subst hw;unfold Lt.Cut.byte Lt.Cut.word;split
   ·rfl
   ·rfl
  rw [Xr,e]; exact lm l k h hw
theorem fg:∀ (l:List UInt8) (k:Lt.Cut),(∀ x∈l,x≠59)->k.remark=false->k.bad=false ->
  (l.foldl Lt.Cut.byte k).remark=false/\(l.foldl Lt.Cut.byte k).bad=!(Lt.fF l k.w k.l).2/\((Lt.fF l k.w k.l).2=true->(l.foldl Lt.Cut.byte k).word.l=(Lt.fF l k.w k.l).1)
 | [],k,_,hr,hb=>by
  refine ⟨hr,by rw [Lt.fF]; exact hb,fun _=>?_⟩;rw [Lt.fF]; rfl
 | c::l,k,h,hr,hb=>by
  have h59:¬ c=59:=h c (by simp)
  have h':∀ x∈l,x≠59:=fun x hx=>h x (by simp [hx])
  rw [Xr,Lt.fF];by_cases hbl:Lt.blank c=true
  ·rw [if_pos hbl];have e:k.byte c=k.word:=by
    unfold Lt.Cut.byte;rw [if_neg h59,if_pos];unfold Lt.blank at hbl;rw [hr];simpa using hbl
   rw [e];exact fg l k.word h' hr hb
  ·rw [if_neg hbl];have e:k.byte c={ k with bad:=k.bad||(decide (c.toNat < 33)||decide (126<c.toNat)),w:=k.w++[c] }:=by
    unfold Lt.Cut.byte;rw [if_neg h59,if_neg];unfold Lt.blank at hbl;rw [hr];simpa using hbl
   rw [e];by_cases hc:c.toNat<=32\/126<c.toNat
   ·rw [if_pos hc];have hbad:(decide (c.toNat < 33)||decide (126<c.toNat))=true:=by simp; omega
    rw [hb,hbad];refine ⟨?_,?_,fun h=>by simp at h⟩
    ·have hrr:∀ (l:List UInt8) (k:Lt.Cut),(∀ x∈l,x≠59)->k.remark=false->(l.foldl Lt.Cut.byte k).remark=false:=by
      intro l;induction l with
      | nil=>intro k _ h; exact h
      | cons d l ih=>
       intro k h1 h2;refine ih _ (fun x hx=>h1 x (by simp [hx])) ?_;unfold Lt.Cut.byte Lt.Cut.word;rw [if_neg (h1 d (by simp))];split <;> exact h2
     exact hrr l _ h' hr
    ·rw [zl l _ rfl]; rfl
   ·rw [if_neg hc];have hbad:(decide (c.toNat < 33)||decide (126<c.toNat))=false:=by simp; omega
    rw [hb,hbad];exact fg l ⟨k.out,k.l,k.w++[c],k.n,k.remark,false⟩ h' hr rfl
theorem wg (l:List UInt8) (out:List Lt.RLine) (n:Int):(l.foldl Lt.Cut.byte ⟨out,[],[],n,false,false⟩).bad=!(Lt.bO (front l)).2 /\
  ((Lt.bO (front l)).2=true->(l.foldl Lt.Cut.byte ⟨out,[],[],n,false,false⟩).line=⟨if (Lt.bO (front l)).1=[] then out else out++[⟨n,(Lt.bO (front l)).1⟩],[],[],n+1,false,false⟩):=by
 have fin:∀ k:Lt.Cut,k.out=out->k.n=n->k.bad=!(Lt.bO (front l)).2->((Lt.bO (front l)).2=true->k.word.l=(Lt.bO (front l)).1)->k.bad=!(Lt.bO (front l)).2/\((Lt.bO (front l)).2=true->k.line=⟨if (Lt.bO (front l)).1=[] then out else out++[⟨n,(Lt.bO (front l)).1⟩],[],[],n+1,false,false⟩):=by
  intro k h1 h2 h3 h4;refine ⟨h3,fun hok=>?_⟩;unfold Lt.Cut.line;rw [h4 hok,h1,h2,h3,hok]; rfl
 have ho:=nh l ⟨out,[],[],n,false,false⟩
 refine fin _ ho.1 ho.2 ?_ ?_
 ·rcases sA 59 l with h | ⟨a,b,rfl,h⟩
  ·rw [uZ h]; exact (fg l ⟨out,[],[],n,false,false⟩ h rfl rfl).2.1
  ·rw [sk h,List.foldl_append,Xr];obtain ⟨h1,h2,h3⟩:=fg a ⟨out,[],[],n,false,false⟩ h rfl rfl;have e:(a.foldl Lt.Cut.byte ⟨out,[],[],n,false,false⟩).byte 59={ (a.foldl Lt.Cut.byte ⟨out,[],[],n,false,false⟩).word with remark:=true }:=by
    unfold Lt.Cut.byte; rw [if_pos rfl]
   rw [e,(lm b _ rfl rfl).2];exact h2
 ·rcases sA 59 l with h | ⟨a,b,rfl,h⟩
  ·rw [uZ h]; exact (fg l ⟨out,[],[],n,false,false⟩ h rfl rfl).2.2
  ·rw [sk h,List.foldl_append,Xr];obtain ⟨h1,h2,h3⟩:=fg a ⟨out,[],[],n,false,false⟩ h rfl rfl;have e:(a.foldl Lt.Cut.byte ⟨out,[],[],n,false,false⟩).byte 59={ (a.foldl Lt.Cut.byte ⟨out,[],[],n,false,false⟩).word with remark:=true }:=by
    unfold Lt.Cut.byte; rw [if_pos rfl]
   rw [e,(lm b _ rfl rfl).1];exact h3
theorem s7:∀ (l r:List UInt8) (k:Lt.Cut),(∀ x∈l,x≠10)->Lt.cD (l++r) k=Lt.cD r (l.foldl Lt.Cut.byte k)
 | [],r,k,_=>rfl
 | c::l,r,k,h=>by
  rw [WR,Lt.cD,if_neg (h c (by simp)),s7 l r _ (fun x hx=>h x (by simp [hx]))]; rfl
def jP:List (List UInt8)->Int->List Lt.RLine->List Lt.RLine×Int×Int
 | [],_,out=>(out,0,0)
 | l::r,n,out=>if (Lt.bO (front l)).2 then jP r (n+1) (if (Lt.bO (front l)).1=[] then out else out++[⟨n,(Lt.bO (front l)).1⟩]) else ([],n,3)
theorem G8:∀ (m:Nat) (s:List UInt8) (n:Int) (out:List Lt.RLine),s.length<=m->Lt.cD s ⟨out,[],[],n,false,false⟩=jP (Lt.dR s [10]) n out:=by
 intro m;induction m with
 | zero=>
  intro s n out hs;have:s=[]:=List.length_eq_zero_iff.1 (by omega)
  subst this;rw [nO (by simp)];rfl
 | succ m ih=>
  intro s n out hs;rcases sA 10 s with h | ⟨a,b,rfl,h⟩
  ·rw [nO h];have:=s7 s [] ⟨out,[],[],n,false,false⟩ h
   rw [XC] at this;rw [this,Lt.cD,jP];obtain ⟨h1,h2⟩:=wg s out n;rw [h1];cases hok:(Lt.bO (front s)).2 with
   | false=>simp [(nh s ⟨out,[],[],n,false,false⟩).2]
   | true=>simp [h2 hok,jP]
  ·rw [xK h,s7 a _ _ h,Lt.cD,if_pos rfl,jP];obtain ⟨h1,h2⟩:=wg a out n;rw [h1];cases hok:(Lt.bO (front a)).2 with
   | false=>simp [(nh a ⟨out,[],[],n,false,false⟩).2]
   | true=>
    simp only [WE,V9,if_false,if_true];rw [h2 hok];exact ih b _ _ (by simp only [WA,Wp] at hs; omega)
theorem GI:∀ (m:Nat) (s:List UInt8),s.length<=m->(Lt.dR s [10]).length<=s.length+1/\∀ l∈Lt.dR s [10],l.length<=s.length:=by
 intro m;induction m with
 | zero=>
  intro s hs;have:s=[]:=List.length_eq_zero_iff.1 (by omega)
  subst this;rw [nO (by simp)]; simp
 | succ m ih=>
  intro s hs;rcases sA 10 s with h | ⟨a,b,rfl,h⟩
  ·rw [nO h]; simp
  ·rw [xK h];have hl:(a++10::b).length=a.length+(b.length+1):=by simp
   obtain ⟨h1,h2⟩:=ih b (by omega);refine ⟨by rw [Wp,hl]; omega,fun l hm=>?_⟩;rcases Wk.1 hm with rfl | hm
   ·omega
   ·have:=h2 l hm; omega
theorem LZ (l:List UInt8):(front l).length<=l.length:=by
 rcases sA 59 l with h | ⟨a,b,rfl,h⟩
 ·rw [uZ h]; exact Wb _
 ·rw [sk h]; simp
theorem G3 (s:List UInt8) (KK:List Lt.Line×Int×Int->Prop) (h:KK (Lt.dN s)):yf s KK:=by
 unfold yf; dsimp only;unfold Lt.dN Lt.bV at h;refine fun _=>ifk (fun hc=>?_) (fun hc=>?_)
 ·rw [if_pos (by simp at hc; omega)] at h; exact h
 have hs:s.length<=4194304:=by simp at hc; omega
 rw [if_neg (by omega),G8 _ s 1 [] (Wb _)] at h;obtain ⟨hl1,hl2⟩:=GI _ s (Wb _);generalize Lt.dR s [10]=L at h hl1 hl2 ⊢;refine ⟨⟨by omega,by decide⟩,fun _=>?_⟩;refine bJ _ L.length (fun i x=>∃ out:List Lt.RLine,x=(out.map fun l=>(⟨l.N,l.Words⟩:Lt.Line),(i:Int))/\out.length<=i/\KK ((jP (L.drop i) ((i:Int)+1) out).1.map fun l=>(⟨l.N,l.Words⟩:Lt.Line),(jP (L.drop i) ((i:Int)+1) out).2.1,(jP (L.drop i) ((i:Int)+1) out).2.2)) (fun R i x hi hx hR=>?_) (fun R x hx=>?_) _ ⟨[],rfl,Wb _,by simpa using h⟩
 ·obtain ⟨out,rfl,ho,hk⟩:=hx;simp only [fj hi,if_true,Int.toNat_natCast];have hlen:=hl2 _ (iH L hi)
  have hd:L.drop i=L.getD i default::L.drop (i+1):=by
   rw [Wm hi,List.getD,V8 hi]; rfl
  rw [hd,jP] at hk;have hfl:=LZ (L.getD i default)
  simp only [show IntKind.i64.wrap ((i:Int)+1)=((i:Int)+1) from wrap_i64 (by omega) (by omega),aj,aV,aq,ac,ay];refine ⟨⟨by omega,hi⟩,by show (L.getD i default).length < 4294967281; omega,by show (front (L.getD i default)).length<=1099511627776; omega,?_⟩;by_cases hok:(Lt.bO (front (L.getD i default))).2=true
  ·rw [if_pos hok] at hk;refine ifk (fun hc=>by rw [hok] at hc; simp at hc) (fun _=>fun _=>?_);refine ifk (fun hc=>?_) (fun hc=>?_)
   ·have hne:¬ (Lt.bO (front (L.getD i default))).1=[]:=by intro e; rw [decide_eq_true_eq,e] at hc; simp at hc
    rw [if_neg hne] at hk;refine ⟨⟨by simp; omega,by simp; omega⟩,hR _ ⟨out++[⟨(i:Int)+1,(Lt.bO (front (L.getD i default))).1⟩],?_,by simp; omega,by rw [show ((i+1:Nat):Int)=(i:Int)+1 from rfl]; exact hk⟩⟩;rw [Xb]; rfl
   ·have hne:(Lt.bO (front (L.getD i default))).1=[]:=by
     cases hh:(Lt.bO (front (L.getD i default))).1 with
     | nil=>rfl
     | cons a b=>rw [decide_eq_true_eq,hh] at hc; simp at hc
    rw [if_pos hne] at hk;exact hR _ ⟨out,rfl,by omega,by rw [show ((i+1:Nat):Int)=(i:Int)+1 from rfl]; exact hk⟩
  ·rw [if_neg hok] at hk;exact ifk (fun _=>hk) (fun hc=>absurd (by rw [Wn.2 hok]; rfl) hc)
 ·obtain ⟨out,rfl,ho,hk⟩:=hx;rw [Xd,jP] at hk;simp only [gF,V9,if_false];exact hk
end Go.Am
end

section
namespace Go.Am
open Go
def ex1:List UInt8:=[102,117,110,99,32,102,32,105,110,116,10,98,108,111,99,107,32,98,10,120,32,61,32,97,100,100,32,49,32,121,10,114,101,116,32,120,10]
theorem TL:Lt.cR ex1=(⟨false,[],[],[],[⟨[102],[105,110,116],[],[],[⟨[98],[],[⟨1,[120],[],[⟨2,[],1⟩,⟨1,[121],0⟩],[],[]⟩],⟨3,⟨1,[120],0⟩,[],0⟩⟩]⟩]⟩,0,0):=by decide +kernel
theorem T8:(Lt.cR [120,32,61,32,97,100,100,32,49,32,50]).2=(1,3):=by decide +kernel
theorem TQ:(Lt.cR [102,117,110,99,32,102,32,105,110,116,10]).2=(0,3):=by decide +kernel
theorem IX (KK:Bool->Prop) (h:KK Lt.Cc):vX KK:=by
 unfold vX; dsimp only;have e1:=TL
 unfold ex1 at e1;simp only [e1,T8,TQ];simp [ac];exact h
end Go.Am
end

section
namespace Go.Am
open Go.RowKit Go.Proofs
abbrev bp (b:Nat):AV:=.one (.c (.d (.v (.pointer (some ⟨b,0,none⟩)))))
def ii (n:Nat):AV:=.one (.c (.d (.int .i64 (n:Int))))
def jst (b:Nat) (ls:List Lt.Line) (i:Nat):S:=⟨[(3,bp b),(8,.one (.c (.d (.li (ls.map Lt.Line.enc))))),(9,ii ls.length),(10,ii i)],[]⟩
def V1 (b:Nat) (ls:List Lt.Line) (i:Nat) (ws:List (List UInt8)) (j:Nat):S:=⟨[(3,bp b),(8,.one (.c (.d (.li (ls.map Lt.Line.enc))))),(9,ii ls.length),(10,ii i),(15,.one (.c (.d (.li (ws.map rS.enc))))),(16,ii ws.length),(17,ii j)],[]⟩
attribute [push_cast] bp ii jst V1
def UC:CK1:=oo (fn1 (cL Lt.Line.rw) (o1 cS) (fun ls=>(Lt.S3 ls).length<=140737488355328) Lt.S3)
attribute [push_cast] UC
end Go.Am
end

section
namespace Go.Am
theorem KI (c:C):(sct c).toV=sc c.toD:=rfl
theorem wF {n:Int} (h:0<=n/\n < 256):(((UInt8.ofNat n.toNat).toNat:Nat):Int)=n:=by
 have:n.toNat < 256:=by omega
 simp only [UInt8.toNat_ofNat',Nat.reducePow];omega
theorem RU (x:UInt8):0<=((x.toNat:Nat):Int)/\((x.toNat:Nat):Int) < 256:=by
 have:=x.toNat_lt
 omega
theorem AN {k:IntKind} {n:Int} (h:k=.u8->0<=n/\n < 256):(mkC k n).toD=.int k n:=by
 cases k with
 | u8=>show D.int .u8 _=_; rw [wF (h rfl)]
 | _=>rfl
theorem Vv (n:Int):0<=IntKind.u8.wrap n/\IntKind.u8.wrap n < 256:=by
 have:=wf_wrap (k:=.u8) n
 simp only [Lit.wf,V7,decide_eq_true_eq] at this;have h1:IntKind.u8.min=0:=by decide
 have h2:IntKind.u8.max=255:=by decide
 rw [h1,h2] at this;omega
theorem dv {k:IntKind} {n:Int}:(mkC k (k.wrap n)).toD=.int k (k.wrap n):=AN fun h=>by subst h; exact Vv n
theorem fO {c:C} {k:IntKind} {n:Int} (h:q9 c=some (k,n)):c.toD=.int k n/\(k=.u8->0<=n/\n < 256):=by
 unfold q9 at h;split at h
 ·rename_i k' n';cases k' <;> simp only [V6,Prod.mk.injEq,reduceCtorEq] at h <;> (obtain ⟨rfl,rfl⟩:=h; exact ⟨rfl,fun h=>by cases h⟩)
 ·rename_i x;simp only [V6,Prod.mk.injEq] at h;obtain ⟨rfl,rfl⟩:=h;exact ⟨rfl,fun _=>RU x⟩
 ·cases h
theorem OB {k:Nat} {row:List D} (h:gP k=some row):row=gw.map D.str:=by
 unfold gP at h;split at h
 ·first | (cases h; done) | (simp only [V6] at h; exact h.symm)
 ·cases h
theorem sO {v:Value} (h:okT v=true):(qX v).toT=nY v:=by
 cases v with
 | int k n=>
  simp only [qX,nY];cases k with
  | u8=>
   simp only [okT,Lit.wf,V7,decide_eq_true_eq] at h;have h1:IntKind.u8.min=0:=by decide
   have h2:IntKind.u8.max=255:=by decide
   rw [h1,h2] at h;have h':0<=n/\n < 256:=by omega
   simp only [h',and_self,if_true,Tt.toT,C.toD,wF h']
  | _=>rfl
 | slice a l c=>cases a with
  | none=>match l,c with
   | 0,0=>rfl
   | 0,_+1=>rfl
   | _+1,_=>rfl
  | some _=>rfl
 | pointer p=>cases p <;> rfl
 | map p=>cases p <;> rfl
 | _=>rfl
theorem ax {s:St} {x:Operand} (h:aX x=true):ev s.toS x=(evA s x).toV:=by
 cases x with
 | tmp t=>exact cK t s.t
 | const v=>
  simp only [aX] at h;cases v with
  | agg cs=>
   simp only [ev,evA,cst,TS,At.toV,A1.toV]
   congr 2
   rw [Wo];refine Ws fun x hx=>?_
   simp only [okC] at h;exact (sO (Array.all_eq_true_iff_forall_mem.1 h x (by simpa using hx))).symm
  | _=>
   simp only [ev,evA,cst,TS,At.toV,A1.toV];rw [sO (by simpa [okC] using h)]
 | func f=>rfl
 | global g=>
  simp only [aX] at h;simp only [ev,evA,Ti];cases hg:gP g with
  | none=>rw [hg] at h; cases h
  | some row=>
   simp only [At.toV,A1.toV,Tt.toT,OB hg];rfl
section
variable {k:At->Prop}
abbrev up (k:At->Prop):AV->Prop:=fun v=>∃ v',v=v'.toV/\k v'
theorem Gu {c:C} {d:D} (h:k (sct c)) (e:c.toD=d):up k (sc d):=⟨sct c,by rw [KI,e],h⟩
theorem PP {c x y:At} (h:zk c x y k):Ez c.toV x.toV y.toV (up k):=by
 unfold zk at h;split at h
 ·rename_i b;cases b
  ·rw [if_neg (by simp)] at h; exact ⟨y,rfl,h⟩
  ·rw [if_pos rfl] at h; exact ⟨x,rfl,h⟩
 ·exact h.elim
theorem U9 {a b:Int} (ha:0<=a/\a < 256):0<=a.tmod b/\a.tmod b < 256:=by
 refine ⟨Int.tmod_nonneg _ ha.1,?_⟩;rcases Int.lt_or_le b 0 with h | h
 ·rw [<- Int.tmod_neg];rcases Int.lt_or_le a (-b) with h' | h'
  ·rw [Int.tmod_eq_of_lt ha.1 h']; exact ha.2
  ·have:=Int.tmod_lt_of_pos a (show 0 < -b by omega); omega
 ·rcases Int.lt_or_le a b with h' | h'
  ·rw [Int.tmod_eq_of_lt ha.1 h']; exact ha.2
  ·rcases Int.lt_or_eq_of_le h with h'' | h''
   ·have:=Int.tmod_lt_of_pos a h''; omega
   ·subst h''; rw [Int.tmod_zero]; exact ha.2
theorem VP {a:Int} {m:Nat} (ha:0<=a/\a < 256):0<=a.fdiv (2 ^ m)/\a.fdiv (2 ^ m) < 256:=by
 have hp:(0:Int) < 2 ^ m:=Int.pow_pos (by decide)
 rw [Int.fdiv_eq_ediv_of_nonneg _ (by omega)];refine ⟨Int.ediv_nonneg ha.1 (by omega),?_⟩;have:=Int.ediv_le_self (2 ^ m) ha.1
 omega
theorem SC {op:BinOp} {x y:C} {K:C->Prop} (h:L5 op x y K):sM op x.toD y.toD (fun d=>∃ c:C,c.toD=d/\K c):=by
 unfold L5 at h;split at h
 ·rename_i a b;cases op <;> first | exact h.elim | exact ⟨_,rfl,h⟩ | exact ⟨h.1,_,rfl,h.2⟩
 ·split at h
  ·rename_i k a k' b hx hy;obtain ⟨ex,rx⟩:=fO hx;obtain ⟨ey,ry⟩:=fO hy;rw [ex,ey];split at h
   ·rename_i hk;unfold OP at h;cases op <;> simp only [Vu,V9,false_or,true_or] at hk <;> simp only [sM]
    case add=>exact ⟨hk,_,dv,h⟩
    case sub=>exact ⟨hk,_,dv,h⟩
    case mul=>exact ⟨hk,_,dv,h⟩
    case quo=>exact ⟨hk,h.1,_,dv,h.2⟩
    case rem=>exact ⟨hk,h.1,_,AN fun e=>U9 (rx e),h.2⟩
    case and=>exact ⟨hk,_,dv,h⟩
    case or=>exact ⟨hk,_,dv,h⟩
    case xor=>exact ⟨hk,_,dv,h⟩
    case andNot=>exact ⟨hk,_,dv,h⟩
    case shl=>exact ⟨h.1,_,dv,h.2⟩
    case shr=>exact ⟨h.1,_,AN fun e=>VP (rx e),h.2⟩
    case eql=>exact ⟨hk,_,rfl,h⟩
    case neq=>exact ⟨hk,_,rfl,h⟩
    case lss=>exact ⟨hk,_,rfl,h⟩
    case leq=>exact ⟨hk,_,rfl,h⟩
    case gtr=>exact ⟨hk,_,rfl,h⟩
    case geq=>exact ⟨hk,_,rfl,h⟩
   ·exact h.elim
  ·exact h.elim
theorem Iy {op:BinOp} {x y:D} {K K':D->Prop} (hk:∀ d,K d->K' d) (h:sM op x y K):sM op x y K':=by
 cases x <;> cases y <;> try exact h.elim
 ·cases op <;> simp only [sM] at h ⊢ <;> first | exact ⟨h.1,h.2.1,hk _ h.2.2⟩ | exact ⟨h.1,hk _ h.2⟩
 ·cases op <;> simp only [sM] at h ⊢ <;> first | exact ⟨h.1,hk _ h.2⟩ | exact hk _ h | exact h.elim
theorem TA {ck:CK} {x y:C} {b:Bool} (h:eqC ck x y=some b):eqD ck x.toD y.toD=some b:=by
 unfold eqC at h;cases ck with
 | i=>
  dsimp only at h;split at h
  ·rename_i k a k' b' hx hy;rw [(fO hx).1,(fO hy).1]; exact h
  ·cases h
 | s=>
  dsimp only at h;split at h
  ·exact h
  ·cases h
 | b=>
  dsimp only at h;split at h
  ·exact h
  ·cases h
theorem BV:∀ {l:List (Nat×CK)} {xs ys:List C} {b:Bool},Pt l xs ys=some b->jd l (xs.map C.toD) (ys.map C.toD)=some b
 | [],_,_,_,h=>h
 | (o,ck)::l,xs,ys,b,h=>by
  unfold Pt at h;unfold jd;rw [Wa,Wa];cases hx:xs[o]? with
  | none=>rw [hx] at h; cases h
  | some x=>
   cases hy:ys[o]? with
   | none=>rw [hx,hy] at h; cases h
   | some y=>
    rw [hx,hy] at h;dsimp only [Option.map_some] at h ⊢;cases he:eqC ck x y with
    | none=>rw [he] at h; cases h
    | some c=>
     rw [he] at h;rw [TA he];cases l with
     | nil=>exact h
     | cons z l=>
      dsimp only at h ⊢;cases hr:Pt (z::l) xs ys with
      | none=>rw [hr] at h; cases h
      | some r=>rw [hr] at h; rw [BV hr]; exact h
theorem PW (t:Tt) (h:TD t.toT≠.any\/True):(TC t).toD=TD t.toT:=by
 cases t <;> rfl
theorem QU {P:Program} {op:BinOp} {t:TypeId} {x y:At} (h:Mp P op t x y k):Gs P op t x.toV y.toV (up k):=by
 unfold Mp at h;split at h
 ·rename_i a b;split at h
  ·rename_i ht;refine ⟨ht,?_⟩;cases op <;> first | exact h.elim | exact ⟨_,rfl,h⟩
  ·exact h.elim
 ·rename_i a b hne;have h':=SC h
  have key:sM op a.toD b.toD (fun d=>up k (sc d)):=by
   refine Iy ?_ h';rintro d ⟨c,rfl,hc⟩
   exact ⟨sct c,rfl,hc⟩
  cases a with
  | bo a=>cases b with
   | bo b=>exact (hne a b rfl rfl).elim
   | _=>exact key
  | _=>exact key
 ·rename_i xs ys;split at h
  ·rename_i l hl;have e1:(xs.map Tt.toT).map TD=(xs.map TC).map C.toD:=by
    rw [Wo,Wo]; exact Ws fun t _=>(PW t (.inr trivial)).symm
   have e2:(ys.map Tt.toT).map TD=(ys.map TC).map C.toD:=by
    rw [Wo,Wo]; exact Ws fun t _=>(PW t (.inr trivial)).symm
   simp only [At.toV,A1.toV,Gs];rw [hl,e1,e2];dsimp only;split at h
   ·rename_i b hb;rw [BV hb]; exact ⟨_,rfl,h⟩
   ·rename_i b hb;rw [BV hb]; exact ⟨_,rfl,h⟩
   ·exact h.elim
  ·exact h.elim
 ·exact h.elim
theorem Tx {op:UnOp} {x:At} (h:unT op x k):unK op x.toV (up k):=by
 unfold unT at h;split at h
 ·exact ⟨_,rfl,h⟩
 ·rename_i c;split at h
  ·rename_i κ n hc;simp only [At.toV,A1.toV,Tt.toT,(fO hc).1];exact Gu h dv
  ·exact h.elim
 ·rename_i c;split at h
  ·rename_i κ n hc;simp only [At.toV,A1.toV,Tt.toT,(fO hc).1];exact Gu h dv
  ·exact h.elim
 ·exact h.elim
theorem Fe {x:At} {i:Nat} (h:j1 x i k):iG x.toV i (up k):=by
 unfold j1 at h;split at h
 ·rename_i vs;split at h
  ·rename_i v hv;simp only [At.toV,iG,Wa,hv,Option.map_some];exact ⟨.one v,rfl,h⟩
  ·exact h.elim
 ·exact h.elim
theorem LS {x i:At} (h:rZ x i k):rM x.toV i.toV (up k):=by
 unfold rZ at h;split at h
 ·rename_i l κ n;obtain ⟨⟨h1,h2⟩,h3⟩:=h;simp only [At.toV,A1.toV,Tt.toT,C.toD,rM];refine ⟨h1,?_⟩;rw [V8 h2];dsimp only;refine ⟨_,?_,h3⟩;rw [KI];simp only [C.toD];rw [List.getD,V8 h2]; rfl
 ·exact h.elim
theorem Bq {x:At} (h:io x k):j6 x.toV (up k):=by
 unfold io at h;split at h
 ·exact ⟨_,rfl,h⟩
 ·exact ⟨_,rfl,h⟩
 ·exact ⟨_,rfl,h⟩
 ·exact h.elim
theorem Me {P:Program} {t:TypeId} {x:At} {i:Nat} (h:sK P t x i k):sf P t x.toV i (up k):=by
 unfold sK at h;split at h
 ·rename_i fs ts hk;simp only [At.toV,A1.toV,sf];rw [hk];dsimp only;cases hf:fs[i]? with
  | none=>rw [hf] at h; exact h.elim
  | some f=>
   obtain ⟨off,size,ag⟩:=f;rw [hf] at h
   match ag,h with
   | some false,h=>
    dsimp only at h ⊢;rw [Wa];cases ht:ts[off]? with
    | none=>rw [ht] at h; exact h.elim
    | some t'=>rw [ht] at h; exact ⟨_,rfl,h⟩
   | some true,h=>
    dsimp only at h ⊢;split at h
    ·rename_i hb;refine ⟨by rw [Wc]; exact Wh hb,.one (.agg ((ts.drop off).take size)),?_,h⟩;simp only [At.toV,A1.toV,XG,XH]
    ·exact h.elim
   | none,h=>exact h.elim
 ·exact h.elim
theorem Nw {P:Program} {su du:TypeId} {x:At} (h:yR P su du x k):qS P su du x.toV (up k):=by
 unfold yR at h;split at h
 ·rename_i κ0 κ h1 h2;split at h
  ·rename_i c;split at h
   ·rename_i κ1 n hc;simp only [At.toV,A1.toV,Tt.toT,(fO hc).1,qS,h1,h2];exact Gu h dv
   ·exact h.elim
  ·exact h.elim
 ·rename_i e h1 h2;split at h
  ·rename_i h3;split at h
   ·rename_i l;simp only [At.toV,A1.toV,Tt.toT,C.toD,qS,h1,h2];refine ⟨h3,?_⟩;have:∀ l:List UInt8,jk (l.map (ao .b8))=some l:=by
     intro l;induction l with
     | nil=>rfl
     | cons a l ih=>
      simp only [List.map_cons,ao,jk];have ih':jk (l.map (ao .b8))=some l:=ih
      simp only [ao] at ih'
      first
       | rw [ih']
       | (show (jk (l.map (ao .b8))).map _=_; rw [ih])
      simp
    rw [this l];exact ⟨_,rfl,h⟩
   ·simp only [At.toV,A1.toV,Tt.toT,qS,h1,h2];exact ⟨h3,_,rfl,h⟩
   ·exact h.elim
  ·exact h.elim
 ·exact h.elim
end
end Go.Am
end

section
namespace Go.Am
theorem Dv (t:Tt):t.toT.sure=t.sure:=by
 cases t with
 | d c=>cases c <;> rfl
 | _=>rfl
def RH (t:Tt) (t':T):Prop:=t'=t.toT\/∃ sh u l,∃ l':List (List D),t=.ow sh u l/\t'=.ow sh l'/\l'.length=l.length
structure HL (ts:List Tt) (ts':List T):Prop where
 len:ts'.length=ts.length
 nth:∀ (i:Nat) (t:Tt) (t':T),ts[i]? = some t->ts'[i]? = some t'->RH t t'
theorem rJ (ts:List Tt):HL ts (ts.map Tt.toT):=by
 refine ⟨by simp,fun i t t' h h'=>?_⟩;rw [Wa,h] at h';exact .inl (Option.some.inj h').symm
theorem HL.drop {ts:List Tt} {ts':List T} (h:HL ts ts') (n:Nat):HL (ts.drop n) (ts'.drop n):=
 ⟨by simp [h.len],fun i t t' h1 h2=>by rw [Wt] at h1 h2; exact h.nth _ t t' h1 h2⟩
theorem HL.take {ts:List Tt} {ts':List T} (h:HL ts ts') (n:Nat):HL (ts.take n) (ts'.take n):=
 ⟨by simp [h.len],fun i t t' h1 h2=>by
  rw [List.getElem?_take] at h1 h2;split at h1
  ·rename_i hi; rw [if_pos hi] at h2; exact h.nth _ t t' h1 h2
  ·cases h1⟩
theorem js:∀ (q:List Step) (sub:List Sh) (l:List (List D)) (x:D),(bE sub l x q).length=l.length
 | [],_,_,_=>rfl
 | [st],_,_,_=>by simp [bE]
 | st::st'::r,sub,l,x=>by
  simp only [bE];split
  ·simp
  ·rfl
theorem xH (cells:List Tt) (hole:Option (Nat×Step×List Step)):HL cells (holed (cells.map Tt.toT) hole):=by
 cases hole with
 | none=>exact rJ cells
 | some h=>
  obtain ⟨off,st,q⟩:=h;simp only [holed];split
  ·rename_i sub l hc;refine ⟨by simp,fun i t t' h1 h2=>?_⟩;by_cases hi:off=i
   ·subst hi;rw [Wa,h1] at hc;have hc':=Option.some.inj hc
    have hlt:off < (cells.map Tt.toT).length:=by
     have:=(WV.1 h1).1
     simpa using this
    rw [Wz hlt] at h2;have h2':=Option.some.inj h2
    cases t with
    | ow sh u l0=>
     simp only [Tt.toT,T.ow.injEq] at hc';obtain ⟨rfl,rfl⟩:=hc';exact .inr ⟨_,_,_,_,rfl,h2'.symm,by rw [js]; simp⟩
    | _=>simp [Tt.toT] at hc'
   ·rw [WF hi] at h2;exact (rJ cells).nth i t t' h1 h2
  ·exact rJ cells
theorem QM {t:Tt} {t':T} (h:RH t t') (q:Pl):yp q t'=(QO q t).toT:=by
 rcases h with rfl | ⟨sh,u,l,l',rfl,rfl,_⟩
 ·cases t <;> rfl
 ·rfl
theorem SK {ts:List Tt} {ts':List T} (h:HL ts ts') (p:Pl):qN p ts'=(I2 p ts).map Tt.toT:=by
 refine Xl fun i=>?_
 simp only [qN,I2,Wa,List.getElem?_zipIdx,Xu,Option.map_map];cases h1:ts[i]? with
 | none=>
  have:ts'[i]? = none:=by rw [List.getElem?_eq_none_iff] at h1 ⊢; rw [h.len]; exact h1
  rw [this]; rfl
 | some t=>
  have hlt:i<ts'.length:=by rw [h.len]; exact (WV.1 h1).1
  rw [V8 hlt];simp only [Option.map_some,Function.comp,V6];exact QM (h.nth i t _ h1 (V8 hlt)) _
theorem gp {u:U} (l:List (El u)) {i:Nat} (h:i<l.length):(l.map (ao u)).getD i []=ao u (l.getD i (dflt u)):=by
 rw [List.getD,List.getD,Wa,V8 h]; rfl
theorem gU {u:U} (l:List (El u)) {i:Nat} (h:i<l.length):(l.map (ao u))[i]? = some (ao u (l.getD i (dflt u))):=by
 rw [List.getD,Wa,V8 h]; rfl
def Qh (s:Sh) (c:C):Tt:=match s,c with
 | Sh.fr,x=>Tt.d x
 | Sh.ow s,C.li u' l'=>Tt.ow s u' l'
 | _,_=>Tt.any
theorem PJ (s:Sh) (c:C):mkT s c.toD=(Qh s c).toT:=by
 cases s with
 | fr=>rfl
 | ow s=>cases c <;> rfl
theorem uE:∀ (s:List Sh) (c:List C),List.zipWith mkT s (c.map C.toD)=(List.zipWith Qh s c).map Tt.toT
 | [],_=>by simp
 | _::_,[]=>by simp
 | s::ss,c::cs=>by simp only [List.map_cons,List.zipWith_cons_cons,PJ,uE ss cs]
theorem GB:∀ {path:List Step} {sub:List Sh} {u:U} {l:List (El u)} {n:Nat} {ts:List Tt} {K:List T->Prop},okO sub (l.map (ao u)) path->inT sub u l n path=some ts->K (ts.map Tt.toT)->inK sub (l.map (ao u)) n path K
 | [],_,_,_,_,_,_,h,_,_=>h.elim
 | [st],sub,u,l,n,ts,K,h,ht,hK=>by
  obtain ⟨h1,h2,h3⟩:=h;rw [Wc] at h1;simp only [inT] at ht;split at ht
  ·rename_i hb;simp only [V6] at ht;refine ⟨Wh hb,?_⟩;rw [gU l h1];dsimp only;rw [<- bz,<- XH,<- XG,uE];subst ht;exact hK
  ·cases ht
 | st::st'::r,sub,u,l,n,ts,K,h,ht,hK=>by
  obtain ⟨⟨h1,h2,h3⟩,h4⟩:=h;rw [Wc] at h1;simp only [inT] at ht;split at ht
  ·rename_i s u' l' e1 e2;simp only [inK];rw [gU l h1];dsimp only;have e3:(ao u (l.getD st.idx (dflt u)))[st.off]? = some (.li (l'.map (ao u'))):=by
    rw [<- bz,Wa,e2]; rfl
   rw [e1,e3];dsimp only;rw [e1,gp l h1,List.getD,e3] at h4;exact GB h4 ht hK
  ·cases ht
def okP (m:Mm) (p:Pl):Prop:=match p.path with
 | []=>True
 | st::q=>∃ r sub l,ae m p.root=some r/\r.cells[p.off]? = some (.ow sub l)/\okO sub l (st::q)
theorem NJ {m:Mm} {p:Pl} (h:bA m p):okP m p:=by
 unfold okP;split
 ·trivial
 ·rename_i st q hp;unfold bA at h;split at h
  ·exact h.elim
  ·rename_i r hr;rw [hp] at h;dsimp only at h;split at h
   ·rename_i sub l hc; exact ⟨r,sub,l,hr,hc,h⟩
   ·exact h.elim
theorem A4 {m:Mm} {p:Pl} (h:fl m p):okP m p:=by
 unfold okP;split
 ·trivial
 ·rename_i st q hp;unfold fl at h;split at h
  ·exact h.elim
  ·rename_i r hr;rw [hp] at h;split at h
   ·simp_all
   ·rename_i sub l st' q' hc he;simp only [List.cons.injEq] at he;obtain ⟨rfl,rfl⟩:=he;exact ⟨r,sub,l,hr,hc,h.1⟩
   ·exact h.elim
theorem bq {m:List (Nm×Nat×Rt)} {n:Nm} {r:Rt} (h:bK m n=some r):ae (toM m) n=some r.toR:=by rw [qe,h]; rfl
theorem JF {ss:List Sh} {xs:List D} {i:Nat} {t:T} (h:(List.zipWith mkT ss xs)[i]? = some t):∃ s x,ss[i]? = some s/\xs[i]? = some x/\t=mkT s x:=by
 rw [List.getElem?_zipWith] at h;cases h1:ss[i]? with
 | none=>rw [h1] at h; simp at h
 | some s=>cases h2:xs[i]? with
  | none=>rw [h1,h2] at h; simp at h
  | some x=>rw [h1,h2] at h; exact ⟨s,x,rfl,rfl,(Option.some.inj h).symm⟩
theorem QP:∀ {path hp:List Step} {sub:List Sh} {u:U} {l:List (El u)} {n:Nat} {ts:List Tt} {K:List T->Prop},path.length<hp.length->okO sub (bE sub (l.map (ao u)) .any hp) path->inT sub u l n path=some ts->(∀ ts',HL ts ts'->K ts')->inK sub (bE sub (l.map (ao u)) .any hp) n path K
 | [],_,_,_,_,_,_,_,_,h,_,_=>h.elim
 | _::_,[],_,_,_,_,_,_,hlt,_,_,_=>by simp at hlt
 | [_],[_],_,_,_,_,_,_,hlt,_,_,_=>by simp at hlt
 | _::_::_,[_],_,_,_,_,_,_,hlt,_,_,_=>by simp at hlt
 | [st],h::h'::hr,sub,u,l,n,ts,K,hlt,hok,ht,hK=>by
  have hlen:(bE sub (l.map (ao u)) .any (h::h'::hr)).length=l.length:=by rw [js,Wc]
  have hok1:=hok.1
  rw [hlen] at hok1;simp only [inT] at ht;split at ht
  ·rename_i hb;simp only [V6] at ht;refine ⟨Wh hb,?_⟩;have base:((l.map (ao u))[st.idx]?)=some (ao u (l.getD st.idx (dflt u))):=gU l hok1
   have key:∀ x,(bE sub (l.map (ao u)) .any (h::h'::hr))[st.idx]? = some x->(x=ao u (l.getD st.idx (dflt u))\/∃ s l1,sub[h.off]? = some (.ow s)/\(ao u (l.getD st.idx (dflt u)))[h.off]? = some (.li l1)/\x=(ao u (l.getD st.idx (dflt u))).set h.off (.li (bE s l1 .any (h'::hr)))):=by
    intro x hx;simp only [bE] at hx;split at hx
    ·rename_i s l1 e1 e2;rw [W3] at hx;split at hx
     ·rename_i ei;split at hx
      ·have hx':=Option.some.inj hx
       rw [ei,gp l hok1] at e2 hx';refine .inr ⟨s,l1,e1,?_,hx'.symm⟩;rw [List.getD] at e2;cases h3:(ao u (l.getD st.idx (dflt u)))[h.off]? with
       | none=>rw [h3] at e2; cases e2
       | some d=>rw [h3] at e2; simp only [Option.getD_some] at e2; rw [e2]
      ·cases hx
     ·rw [base] at hx; exact .inl (Option.some.inj hx).symm
    ·rw [base] at hx; exact .inl (Option.some.inj hx).symm
   have hlt2:st.idx < (bE sub (l.map (ao u)) .any (h::h'::hr)).length:=by rw [hlen]; exact hok1
   rw [V8 hlt2];dsimp only;rcases key _ (V8 hlt2) with e | ⟨s,l1,e1,e2,e⟩
   ·rw [e,<- bz,<- XH,<- XG,uE];subst ht;exact hK _ (rJ _)
   ·rw [e];refine hK _ ?_;subst ht;have hbase:List.zipWith mkT ((sub.drop st.off).take n) (((ao u (l.getD st.idx (dflt u))).drop st.off).take n)=(List.zipWith Qh ((sub.drop st.off).take n) (((flat u (l.getD st.idx (dflt u))).drop st.off).take n)).map Tt.toT:=by
     rw [<- bz,<- XH,<- XG,uE]
    refine ⟨?_,fun i t t' a1 a2=>?_⟩
    ·have hl:=congrArg List.length hbase
     simp only [Wc] at hl;have hx:∀ ys:List D,(List.zipWith mkT ((sub.drop st.off).take n) ((ys.drop st.off).take n)).length=min (min n (sub.length-st.off)) (min n (ys.length-st.off)):=by
      intro ys; simp
     refine Eq.trans ?_ hl;rw [hx,hx,WM]
    ·obtain ⟨s0,x0,b1,b2,b3⟩:=JF a2;have a1':((List.zipWith Qh ((sub.drop st.off).take n) (((flat u (l.getD st.idx (dflt u))).drop st.off).take n)).map Tt.toT)[i]? = some t.toT:=by
      rw [Wa];have:(List.zipWith Qh ((sub.drop st.off).take n) (((flat u (l.getD st.idx (dflt u))).drop st.off).take n))[i]? = some t:=a1
      rw [this]; rfl
     rw [<- hbase] at a1';obtain ⟨s1,x1,c1,c2,c3⟩:=JF a1';rw [b1] at c1;obtain rfl:=Option.some.inj c1;rw [List.getElem?_take] at b1 b2 c2;split at b2
     ·rename_i hin;rw [if_pos hin] at b1 c2;rw [Wt] at b1 b2 c2;rw [W3] at b2;split at b2
      ·rename_i eo;rw [<- eo] at b1 c2;rw [e1] at b1;obtain rfl:=Option.some.inj b1;rw [e2] at c2;obtain rfl:=Option.some.inj c2;split at b2
       ·obtain rfl:=Option.some.inj b2;rw [b3];cases t with
        | ow sh2 u2 l2=>
         simp only [mkT,Tt.toT,T.ow.injEq] at c3;obtain ⟨rfl,e5⟩:=c3;refine .inr ⟨_,_,_,_,rfl,rfl,?_⟩;rw [js,<- e5,Wc]
        | _=>simp [mkT,Tt.toT] at c3
       ·cases b2
      ·rw [b2] at c2;obtain rfl:=Option.some.inj c2;rw [b3,<- c3]; exact .inl rfl
     ·cases b2
  ·cases ht
 | st::st'::r,h::h'::hr,sub,u,l,n,ts,K,hlt,hok,ht,hK=>by
  have hlen:(bE sub (l.map (ao u)) .any (h::h'::hr)).length=l.length:=by rw [js,Wc]
  obtain ⟨⟨hi,hz,ho⟩,hok2⟩:=hok;rw [hlen] at hi;simp only [inT] at ht;split at ht
  ·rename_i s u' l' e1 e2;have base:((l.map (ao u))[st.idx]?)=some (ao u (l.getD st.idx (dflt u))):=gU l hi
   have e3:(ao u (l.getD st.idx (dflt u)))[st.off]? = some (.li (l'.map (ao u'))):=by
    rw [<- bz,Wa,e2]; rfl
   have key:∃ x,(bE sub (l.map (ao u)) .any (h::h'::hr))[st.idx]? = some x/\(x[st.off]? = some (.li (l'.map (ao u')))\/x[st.off]? = some (.li (bE s (l'.map (ao u')) .any (h'::hr)))):=by
    simp only [bE];split
    ·rename_i s1 l1 f1 f2;rw [W3];split
     ·rename_i ei;rw [if_pos (by rw [Wc,ei]; exact hi)];refine ⟨_,rfl,?_⟩;rw [ei,gp l hi] at f2 ⊢;rw [W3];split
      ·rename_i eo;rw [eo] at f1 f2;rw [e1] at f1;simp only [V6,Sh.ow.injEq] at f1;subst f1;rw [List.getD,e3,Option.getD_some] at f2;simp only [D.li.injEq] at f2;subst f2;rw [if_pos (by rw [eo]; exact ai e3)];exact .inr rfl
      ·exact .inl e3
     ·exact ⟨_,base,.inl e3⟩
    ·exact ⟨_,base,.inl e3⟩
   obtain ⟨x,hx,hx2⟩:=key;have hg:(bE sub (l.map (ao u)) .any (h::h'::hr)).getD st.idx []=x:=by rw [List.getD,hx]; rfl
   rw [e1,hg] at hok2;simp only [inK];rw [hx];dsimp only;rw [e1];rcases hx2 with hx2 | hx2
   ·rw [List.getD,hx2] at hok2;rw [hx2];dsimp only at hok2 ⊢;exact GB hok2 ht (hK _ (rJ _))
   ·rw [List.getD,hx2] at hok2;rw [hx2];dsimp only at hok2 ⊢;exact QP (by simpa using hlt) hok2 ht hK
  ·cases ht
theorem Jc {m:List (Nm×Nat×Rt)} {p:Pl} {n:Nat} {ts:List Tt} {K:List T->Prop} (hp:okP (toM m) p) (h:atT m p n=some ts) (hK:∀ ts',HL ts ts'->K ts'):atK (toM m) p n K:=by
 unfold atT at h;split at h
 ·cases h
 ·rename_i r hr;unfold atK;rw [bq hr];dsimp only;unfold okP at hp;split at h
  ·rename_i hpath;rw [hpath];split at h
   ·rename_i hb;simp only [V6] at h;have hH:=xH r.cells r.hole
    refine ⟨?_,hK _ ?_⟩
    ·show p.off+n<=(holed (r.cells.map Tt.toT) r.hole).length
     rw [hH.len]; exact Wh hb
    ·subst h; exact (hH.drop _).take _
   ·cases h
  ·rename_i st q hpath;rw [hpath] at hp ⊢;split at h
   ·rename_i sub u l hhole hc;obtain ⟨r',sub',l',e1,e2,e3⟩:=hp;rw [bq hr] at e1;obtain rfl:=Option.some.inj e1;have plain:r.toR.cells[p.off]? = some (.ow sub (l.map (ao u)))->(match st::q,r.toR.cells[p.off]? with
      | [],_=>p.off+n<=r.toR.cells.length/\K ((r.toR.cells.drop p.off).take n)
      | st::q,some (.ow sub l)=>inK sub l n (st::q) K
      | _,_=>False):=by
     intro ec;rw [ec] at e2 ⊢;have e2':=Option.some.inj e2
     simp only [T.ow.injEq] at e2';obtain ⟨rfl,rfl⟩:=e2';exact GB e3 h (hK _ (rJ ts))
    cases hho:r.hole with
    | none=>
     refine plain ?_;show (holed (r.cells.map Tt.toT) r.hole)[p.off]? = _
     rw [hho];show (r.cells.map Tt.toT)[p.off]? = _
     rw [Wa,hc]; rfl
    | some hh=>
     obtain ⟨off,st',q'⟩:=hh;rw [hho] at hhole;have hlt:(st::q).length < (st'::q').length:=Wh hhole
     by_cases hoff:off=p.off
     ·subst hoff;have hlt2:p.off < (r.cells.map Tt.toT).length:=by rw [Wc]; exact (WV.1 hc).1
      have ec:r.toR.cells[p.off]? = some (.ow sub (bE sub (l.map (ao u)) .any (st'::q'))):=by
       show (holed (r.cells.map Tt.toT) r.hole)[p.off]? = _
       rw [hho];simp only [holed];rw [Wa,hc];simp only [Option.map_some,Tt.toT];rw [Wz hlt2]
      rw [ec] at e2 ⊢;have e2':=Option.some.inj e2
      simp only [T.ow.injEq] at e2';obtain ⟨rfl,rfl⟩:=e2';exact QP hlt e3 h hK
     ·refine plain ?_;show (holed (r.cells.map Tt.toT) r.hole)[p.off]? = _
      rw [hho];simp only [holed];split
      ·rw [WF hoff,Wa,hc]; rfl
      ·rw [Wa,hc]; rfl
   ·cases h
theorem xW {m:List (Nm×Nat×Rt)} {p:Pl} {sh:List Sh} {u:U} {l:List (El u)} {K:List T->Prop} (hp:okP (toM m) p) (h:sliceAt m p=some ⟨sh,u,l⟩) (hK:∀ l':List (List D),l'.length=l.length->K [.ow sh l']):atK (toM m) p 1 K:=by
 unfold sliceAt at h;split at h
 ·rename_i sh' u' l' ht;cases h;refine Jc hp ht (fun ts' hH=>?_);have hl:=hH.len
  match ts',hl with
  | [t'],_=>
   rcases hH.nth 0 _ _ rfl rfl with e | ⟨sh2,u2,l2,l3,e1,e2,e3⟩
   ·rw [e]; exact hK _ (by simp)
   ·simp only [Tt.ow.injEq] at e1;obtain ⟨rfl,rfl,e5⟩:=e1;have e5':=eq_of_heq e5
    subst e5';rw [e2]; exact hK _ e3
 ·cases h
section
variable {k:At->Prop} {m:List (Nm×Nat×Rt)}
theorem Bz {gd:Option (Nat×Bool)} {n:Nat} {q:Prop} (h:gift gd n q):n<=4611686018427387904->q:=by
 cases gd with
 | none=>exact h
 | some _=>exact fun _=>h
theorem SO {gd:Option (Nat×Bool)} {x:At} {k:Nat->Prop} (hp:∀ p,x=.one (.c (.rf p))->okP (toM m) p) (h:Ma gd m x k):Ed (toM m) x.toV k:=by
 unfold Ma at h;split at h
 ·exact Bz h
 ·simp only [At.toV,A1.toV,Tt.toT,C.toD,Ed,Wc]; exact Bz h
 ·exact h
 ·rename_i p;split at h
  ·rename_i sh u l hs;simp only [At.toV,A1.toV,Tt.toT,Ed];refine xW (hp p rfl) hs (fun l' hl=>?_);dsimp only;rw [hl]; exact Bz h
  ·exact h.elim
 ·exact h.elim
theorem ir {x:Option At} {d:Nat} {k:Nat->Prop} (h:fG x d k):fQ (x.map At.toV) d k:=by
 unfold fG at h;split at h
 ·exact h
 ·exact h
 ·exact h.elim
theorem LB {P:Program} {t:TypeId} {x:At} {lo hi:Option At} (h:r9 P t x lo hi k):jO P t x.toV (lo.map At.toV) (hi.map At.toV) (up k):=by
 have bmono:∀ {y:Option At} {d:Nat} {k1 k2:Nat->Prop},(∀ n,k1 n->k2 n)->fG y d k1->fG y d k2:=by
  intro y d k1 k2 hk hb;unfold fG at hb ⊢;split at hb
  ·exact hk _ hb
  ·exact ⟨hb.1,hk _ hb.2⟩
  ·exact hb.elim
 unfold r9 at h;split at h
 ·rename_i l;split at h
  ·rename_i ht;refine ⟨ht,ir (bmono (fun a ha=>ir (bmono (fun b hb=>?_) ha)) h)⟩;exact ⟨hb.1,_,rfl,hb.2⟩
  ·exact h.elim
 ·rename_i u l;split at h
  ·rename_i e ht;split at h
   ·rename_i hc;simp only [V7] at hc;simp only [At.toV,A1.toV,Tt.toT,C.toD,jO,ht];refine ⟨hc.1,fun y hy=>?_,ir (bmono (fun a ha=>?_) h)⟩
    ·obtain ⟨z,_,rfl⟩:=WW.1 hy;rw [jl]; exact Wg hc.2
    ·rw [Wc];refine ir (bmono (fun b hb=>?_) ha);exact ⟨hb.1,_,by simp only [At.toV,A1.toV,Tt.toT,C.toD,XG,XH],hb.2⟩
   ·exact h.elim
  ·exact h.elim
 ·split at h
  ·rename_i e ht;split at h
   ·rename_i hc;simp only [At.toV,A1.toV,Tt.toT,jO,ht];refine ⟨hc,ir (bmono (fun a ha=>ir (bmono (fun b hb=>?_) ha)) h)⟩;exact ⟨hb.1,hb.2.1,_,rfl,hb.2.2⟩
   ·exact h.elim
  ·exact h.elim
 ·exact h.elim
theorem mf {p:Pl} {n:Nat} (h:mC m p n=true):gi (toM m) p n:=by
 unfold mC at h;split at h
 ·cases h
 ·rename_i r hr;unfold gi room;rw [bq hr];dsimp only;have hH:=xH r.cells r.hole
  split at h
  ·rename_i hpath;rw [hpath];show n < (holed (r.cells.map Tt.toT) r.hole).length-p.off
   rw [hH.len];exact Wh h
  ·rename_i st q sub u l hpath hc;rw [hpath];split at h
   ·rename_i k hk;have hlt:=(WV.1 hc).1
    have hlt':p.off < (holed (r.cells.map Tt.toT) r.hole).length:=by rw [hH.len]; exact hlt
    have:=hH.nth p.off _ _ hc (V8 hlt')
    have e:∃ l',r.toR.cells[p.off]? = some (.ow sub l'):=by
     rcases this with e | ⟨sh,u2,l2,l3,e1,e2,_⟩
     ·exact ⟨_,by show (holed _ _)[p.off]? = _; rw [V8 hlt',e]; rfl⟩
     ·simp only [Tt.ow.injEq] at e1;obtain ⟨rfl,_,_⟩:=e1;exact ⟨l3,by show (holed _ _)[p.off]? = _; rw [V8 hlt',e2]⟩
    obtain ⟨l',e⟩:=e;rw [e];dsimp only;rw [hk];exact Wh h
   ·cases h
  ·cases h
theorem yO {P:Program} {t:TypeId} {x:At} {i:Nat} (h:fW P m t x i k):eM P (toM m) t x.toV i (up k):=by
 unfold fW at h;split at h
 ·rename_i fs ht;unfold eM;rw [ht];dsimp only;cases hf:fs[i]? with
  | none=>rw [hf] at h; exact h.elim
  | some f=>
   obtain ⟨off,size,ag⟩:=f;rw [hf] at h;cases size with
   | zero=>exact h.elim
   | succ size=>
    dsimp only at h ⊢;refine ⟨by omega,?_⟩;split at h
    ·split at h
     ·rename_i hr; exact ⟨mf hr,_,rfl,h⟩
     ·exact h.elim
    ·exact ⟨_,rfl,h⟩
    ·exact h.elim
 ·exact h.elim
theorem yj {P:Program} {t:TypeId} {x i:At} (hp:∀ p,x=.one (.c (.rf p))->okP (toM m) p) (h:gc P m t x i k):eO P (toM m) t x.toV i.toV (up k):=by
 unfold gc at h;split at h
 ·rename_i κ n;simp only [At.toV,A1.toV,Tt.toT,C.toD,eO];split at h
  ·rename_i e ht;rw [ht];split at h
   ·rename_i u l;split at h
    ·rename_i hc;simp only [V7] at hc;obtain ⟨⟨h1,h2⟩,h3⟩:=h;simp only [At.toV,A1.toV,Tt.toT,C.toD];refine ⟨hc.1,h1,?_⟩;rw [gU l h2];dsimp only;refine ⟨by rw [jl]; exact Wg hc.2,_,?_,h3⟩;simp only [At.toV,A1.toV,Tt.toT,bz]
    ·exact h.elim
   ·rename_i p;split at h
    ·rename_i hc;simp only [V7] at hc;split at h
     ·rename_i sh u l hs;split at h
      ·rename_i hb;obtain ⟨h1,h2⟩:=h;simp only [At.toV,A1.toV,Tt.toT];refine ⟨hc.1,by have:=Wh hc.2; omega,xW (hp p rfl) hs (fun l' hl=>?_)⟩;dsimp only;exact ⟨⟨h1.1,by rw [hl]; exact h1.2⟩,Wg hb,_,rfl,h2⟩
      ·exact h.elim
     ·exact h.elim
    ·exact h.elim
   ·exact h.elim
  ·rename_i N e ht;rw [ht];split at h
   ·rename_i u l i;split at h
    ·rename_i hc;simp only [V7] at hc;obtain ⟨h1,h2⟩:=h;simp only [At.toV,A1.toV,Tt.toT];refine ⟨hc.1.1,h1,_,?_,h2⟩;simp only [At.toV,A1.toV,Tt.toT];rw [Wg hc.1.2,Nat.mul_one,Nat.add_comm];rfl
    ·exact h.elim
   ·rename_i p;split at h
    ·rename_i hc;simp only [V7] at hc;obtain ⟨h1,h2⟩:=h;simp only [At.toV,A1.toV,Tt.toT];exact ⟨hc.1,h1,mf hc.2,_,rfl,h2⟩
    ·exact h.elim
   ·exact h.elim
  ·exact h.elim
 ·exact h.elim
theorem CU {P:Program} {t:TypeId} {x:At} (hp:∀ p,x=.one (.c (.pl p))->okP (toM m) p) (h:ou P m t x k):ro P (toM m) t x.toV (up k):=by
 unfold ou at h;split at h
 ·rename_i hok;refine ⟨hok,?_⟩;split at h
  ·rename_i row o;simp only [At.toV,A1.toV,Tt.toT];split at h
   ·rename_i ha;rw [if_pos ha];split at h
    ·rename_i hb;refine ⟨by rw [Wc]; exact Wh hb,fun _=>⟨_,?_,h⟩⟩;simp only [At.toV,A1.toV,AV.one.injEq,AV1.agg.injEq];rw [Wo,<- XH,<- XG,Wo];rfl
    ·exact h.elim
   ·rename_i ha;rw [if_neg (by rw [ha]; simp),Wa];split at h
    ·rename_i c hc; rw [hc]; exact fun _=>⟨_,rfl,h⟩
    ·exact h.elim
  ·rename_i u l i;simp only [At.toV,A1.toV,Tt.toT];split at h
   ·rename_i ha hl;have e:l[i]? = some (l.getD i (dflt u)):=by rw [List.getD_eq_getElem?_getD,V8 h.1]; rfl
    rw [if_neg (by rw [ha]; simp),Wa,e];exact fun _=>⟨_,rfl,h.2⟩
   ·exact h.elim
  ·rename_i p;simp only [At.toV,A1.toV,Tt.toT];split at h
   ·rename_i ha;rw [if_pos ha];split at h
    ·rename_i ts hts;refine Jc (hp p rfl) hts (fun ts' hH=>fun _=>⟨_,?_,h⟩);simp only [At.toV,A1.toV,SK hH]
    ·exact h.elim
   ·rename_i ha;rw [if_neg (by rw [ha]; simp)];split at h
    ·rename_i t' hts;refine Jc (hp p rfl) hts (fun ts' hH=>?_);have hl:=hH.len
     match ts',hl with
     | [t''],_=>
      dsimp only;refine fun _=>⟨_,?_,h⟩
      simp only [At.toV,A1.toV];rw [QM (hH.nth 0 _ _ rfl rfl)]
    ·exact h.elim
  ·exact h.elim
 ·exact h.elim
theorem pG (x:At):dA x.toV=(ni x).map (·.map Tt.toT):=by
 cases x with
 | one x=>cases x <;> rfl
 | _=>rfl
theorem Ms {α β:Type} (f:α->β) (ts cs:List α) (off:Nat):(overw ts off cs).map f=overw (ts.map f) off (cs.map f):=by
 simp only [overw,Xb,XG,XH,Wc]
theorem nI {pl:Nat->Option (Nat×Nat)}:∀ {parts:List (Nat×At)} {ts ts':List Tt},pc pl ts parts=some ts'->gR pl (ts.map Tt.toT) (parts.map fun x=>(x.1,x.2.toV))=some (ts'.map Tt.toT)
 | [],ts,ts',h=>by simp only [pc,V6] at h; subst h; rfl
 | (i,x)::r,ts,ts',h=>by
  simp only [pc] at h;simp only [List.map_cons,gR];cases hpl:pl i with
  | none=>rw [hpl] at h; cases h
  | some q=>
   obtain ⟨off,size⟩:=q;cases hc:ni x with
   | none=>rw [hpl,hc] at h; cases h
   | some cs=>
    rw [hpl,hc] at h;dsimp only at h;split at h
    ·rename_i hb;simp only [V7] at hb;rw [pG,hc];dsimp only [Option.map_some];have hs:(cs.map Tt.toT).all T.sure=true:=by
      rw [XK];rw [<- hb.2]
      congr 1
      funext t; exact Dv t
     rw [if_pos ⟨by rw [Wc]; exact Wg hb.1.1,by rw [Wc,Wc]; exact Wh hb.1.2,hs⟩];rw [<- Ms];exact nI h
    ·cases h
theorem rF {s:St} {ps:Array (Nat×Operand)} (h:(ps.toList.all fun x=>aX x.2)=true):iR s.toS ps=(lg s ps).map fun x=>(x.1,x.2.toV):=by
 unfold iR lg;rw [Wo];refine Ws fun x hx=>?_
 simp only [Function.comp];rw [ax (Wj.1 h x hx)]
theorem JA {zs:List Value} (h:zs.all okT=true):(zs.map qX).map Tt.toT=zs.map nY:=by
 rw [Wo];exact Ws fun x hx=>sO (Wj.1 h x hx)
theorem SS {P:Program} {t:TypeId} {zs:List Value} {pl:List (Nat×Nat)} (h:zst P t=some (zs,pl)):zs.all okT=true:=by
 unfold zst at h;split at h
 ·split at h
  ·split at h
   ·rename_i hall;simp only [V6,Prod.mk.injEq] at h;obtain ⟨rfl,_⟩:=h;simpa using hall
   ·cases h
  ·cases h
 ·split at h
  ·split at h
   ·rename_i hall;simp only [V6,Prod.mk.injEq] at h;obtain ⟨rfl,_⟩:=h;simpa using hall
   ·cases h
  ·cases h
 ·cases h
theorem Ng {P:Program} {t:TypeId} {parts:List (Nat×At)} (h:r7 P t parts k):oD P t (parts.map fun x=>(x.1,x.2.toV)) (up k):=by
 unfold r7 at h;split at h
 ·rename_i zs places hz;split at h
  ·rename_i ts hf;unfold oD;rw [hz];dsimp only;have:=nI hf
   rw [JA (SS hz)] at this;rw [this];exact ⟨.one (.agg ts),rfl,h⟩
  ·exact h.elim
 ·exact h.elim
end
end Go.Am
end

section
namespace Go.Am
theorem gr (bad:Bool->Pl->Bool) (t:Tt):(t.kill bad).toT=t.toT.kill bad:=by
 cases t with
 | pl p=>
  show (if bad false p=true then Tt.any else Tt.pl p).toT=if bad false p=true then T.any else T.pl p
  by_cases h:bad false p=true <;> simp [h,Tt.toT]
 | rf p=>
  show (if bad true p=true then Tt.any else Tt.rf p).toT=if bad true p=true then T.any else T.rf p
  by_cases h:bad true p=true <;> simp [h,Tt.toT]
 | _=>rfl
theorem uY (bad:Bool->Pl->Bool) (ts:List Tt):(ts.map (·.kill bad)).map Tt.toT=(ts.map Tt.toT).map (·.kill bad):=by
 rw [Wo,Wo]; exact Ws fun t _=>gr bad t
theorem tH (bad:Bool->Pl->Bool) (x:A1):(x.kill bad).toV=x.toV.kill bad:=by
 cases x with
 | c t=>simp only [A1.kill,A1.toV,AV1.kill,gr]
 | agg ts=>simp only [A1.kill,A1.toV,AV1.kill,uY]
theorem Dx (bad:Bool->Pl->Bool) (x:At):(x.kill bad).toV=x.toV.kill bad:=by
 cases x with
 | one x=>simp only [At.kill,At.toV,AV.kill,tH]
 | tup xs=>
  simp only [At.kill,At.toV,AV.kill]
  congr 1
  rw [Wo,Wo]; exact Ws fun t _=>tH bad t
 | any=>rfl
theorem iU {bad:Bool->Pl->Bool} {t:Tt} (h:t.hit bad=false):t.kill bad=t:=by
 cases t with
 | pl p=>simp only [Tt.hit] at h; simp [Tt.kill,h]
 | rf p=>simp only [Tt.hit] at h; simp [Tt.kill,h]
 | _=>rfl
theorem mG {bad:Bool->Pl->Bool}:∀ {ts:List Tt},ts.any (·.hit bad)=false->ts.map (·.kill bad)=ts
 | [],_=>rfl
 | t::ts,h=>by
  simp only [List.any_cons,Xq] at h;rw [List.map_cons,iU h.1,mG h.2]
theorem vt {bad:Bool->Pl->Bool} {x:A1} (h:x.hit bad=false):x.kill bad=x:=by
 cases x with
 | c t=>simp only [A1.kill,iU (show t.hit bad=false from h)]
 | agg ts=>simp only [A1.kill,mG (show ts.any _=false from h)]
theorem IE {bad:Bool->Pl->Bool} {x:At} (h:x.hit bad=false):x.kill bad=x:=by
 cases x with
 | one x=>simp only [At.kill,vt (show x.hit bad=false from h)]
 | tup xs=>
  simp only [At.hit] at h;simp only [At.kill]
  congr 1
  induction xs with
  | nil=>rfl
  | cons x xs ih=>
   simp only [List.any_cons,Xq] at h;rw [List.map_cons,vt h.1,ih h.2]
 | any=>rfl
theorem IW (bad:Bool->Pl->Bool) (cells:List Tt) (hole:Option (Nat×Step×List Step)) :
  holed ((cells.map (·.kill bad)).map Tt.toT) hole=(holed (cells.map Tt.toT) hole).map (·.kill bad):=by
 rw [uY];cases hole with
 | none=>rfl
 | some h=>
  obtain ⟨off,st,q⟩:=h;simp only [holed];rw [Wa (f:=fun t=>T.kill bad t)];cases hc:(cells.map Tt.toT)[off]? with
  | none=>rfl
  | some t=>
   simp only [Option.map_some];cases t with
   | ow sub l=>simp only [T.kill,WS]
   | pl p=>by_cases h:bad false p=true <;> simp [T.kill,h]
   | rf p=>by_cases h:bad true p=true <;> simp [T.kill,h]
   | _=>rfl
theorem tG (bad:Bool->Pl->Bool) (r:Rt):(r.kill bad).toR={ r.toR with cells:=r.toR.cells.map (·.kill bad) }:=by
 simp only [Rt.toR,Rt.kill,IW]
theorem iu (bad:Bool->Pl->Bool) (nx:Nat) (t:List (Nat×Nat×At)):(eR bad nx t).map (fun x=>(x.1,x.2.2.toV))=i7 bad (t.map fun x=>(x.1,x.2.2.toV)):=by
 simp only [eR,i7,Wo];exact Ws fun x _=>by simp only [Function.comp,Dx]
theorem dV (bad:Bool->Pl->Bool) (nx:Nat) (m:List (Nm×Nat×Rt)):toM (bw bad nx m)=aH bad (toM m):=by
 simp only [toM,bw,aH,Wo];exact Ws fun x _=>by simp only [Function.comp,tG]
theorem BD {bad:Bool->Pl->Bool} {nx:Nat} {m:List (Nm×Nat×Rt)}:ND (bw bad nx m) ↔ ND m:=by
 simp only [ND,bw,Wo]; exact Iff.rfl
theorem vL {n k:Nm}:∀ {m:List (Nm×Nat×Rt)},k∈(dw m n).map (·.1)->k∈m.map (·.1)/\k≠n
 | [],h=>by simp [dw] at h
 | (k',j,v)::m,h=>by
  simp only [dw] at h;split at h
  ·have:=vL h; exact ⟨Wr _ this.1,this.2⟩
  ·rename_i hk;simp only [List.map_cons,Wk] at h;rcases h with rfl | h
   ·exact ⟨by simp,hk⟩
   ·have:=vL h; exact ⟨Wr _ this.1,this.2⟩
theorem Gw {n:Nm}:∀ {m:List (Nm×Nat×Rt)},ND m->ND (dw m n)
 | [],_=>by simp [ND,dw]
 | (k,j,v)::m,h=>by
  have h':k ∉ m.map (·.1)/\(m.map (·.1)).Nodup:=by simpa [ND] using h
  simp only [dw];split
  ·exact Gw h'.2
  ·have:=Gw (n:=n) h'.2
   simp only [ND,List.map_cons,Xa];exact ⟨fun hm=>h'.1 (vL hm).1,this⟩
theorem Aa (n:Nm) (i:Nat) (r:Rt):∀ m:List (Nm×Nat×Rt),(fK m n i r).map (·.1)=m.map (·.1)
 | []=>rfl
 | (k,j,v)::m=>by
  simp only [fK];split
  ·rfl
  ·simp only [List.map_cons,Aa n i r m]
theorem rk {g:G} {s:St} {a:Act} {w:World} {H:FH} {γ:Gam} {F:Nm->Fp} (h:RX g s.toS a w H γ F):ND s.m:=by
 have:=h.mem.keys
 have e:s.toS.m.map (·.1)=s.m.map (·.1):=by simp only [St.toS,Wo]; rfl
 rw [e] at this; exact this
theorem bx {s:St} {n:Nm} (h:ND s.m):(s.drop n).toS=s.toS.drop n:=by
 have h1:=iu (bG n) s.nx s.t
 have h2:=dV (bG n) s.nx (dw s.m n)
 rw [mb n s.m h] at h2;exact S_ext h1 h2
where
 S_ext {t t':List (Nat×AV)} {m m':Mm} (h1:t=t') (h2:m=m'):(⟨t,m⟩:S)=⟨t',m'⟩:=by rw [h1,h2]
theorem JM {s:St} {n:Nm} (h:ND s.m):ND (s.drop n).m:=BD.2 (Gw h)
theorem eA {s:St} {n:Nm} (h:ND s.m):(s.fresh n).toS=s.toS.fresh n:=by
 unfold St.fresh S.fresh;have e:ae s.toS.m n=(bK s.m n).map Rt.toR:=qe n s.m
 rw [e];cases hm:bK s.m n with
 | none=>rfl
 | some r=>exact bx h
def SEq (s s':S):Prop:=(∀ i,aA s.t i=aA s'.t i)/\s.m=s'.m
theorem dO {g:G} {s s':S} {a:Act} {w:World} {H:FH} {γ:Gam} {F:Nm->Fp} (e:SEq s s') (h:RX g s a w H γ F):RX g s' a w H γ F:=by
 obtain ⟨t,m⟩:=s;obtain ⟨t',m'⟩:=s';obtain ⟨e1,e2⟩:=e;dsimp only at e1 e2;subst e2;exact ⟨h.mem,h.fr,h.nt,h.df,fun i=>by rw [<- e1 i]; exact h.t i⟩
theorem CH {g:G} {s s':S} {a:Act} {w:World} (e:SEq s s') (h:R g s a w):R g s' a w:=by
 obtain ⟨H,γ,F,h⟩:=h; exact ⟨H,γ,F,dO e h⟩
theorem bY (s:St) (d:Option Tmp) (v:At):SEq (s.toS.put d v.toV) (s.put d v).toS:=by
 cases d with
 | none=>exact ⟨fun _=>rfl,rfl⟩
 | some d=>
  refine ⟨fun i=>?_,rfl⟩;show aA (lZ _ d v.toV) i=aA ((d,v.toV)::_) i
  rw [fY]; rfl
theorem zR (f:Nat×Nat×At->Nat×At) (k:Nat):∀ t:List (Nat×Nat×At),bX (t.map fun x=>(x.1,f x)) k=(bX t k).map fun y=>f (k,y)
 | []=>rfl
 | (i,j,v)::t=>by
  simp only [List.map_cons,bX];cases hb:Nat.beq i k with
  | true=>have:=Wg hb; subst this; rfl
  | false=>exact zR f k t
theorem rC (f:Nm×Nat×Rt->Nat×Rt) (k:Nm):∀ t:List (Nm×Nat×Rt),cQ (t.map fun x=>(x.1,f x)) k=(cQ t k).map fun y=>f (k,y)
 | []=>rfl
 | (i,j,v)::t=>by
  simp only [List.map_cons,cQ];by_cases hb:i=k
  ·subst hb; rw [if_pos rfl,if_pos rfl]; rfl
  ·rw [if_neg hb,if_neg hb]; exact rC f k t
structure Ext (s0 s:St):Prop where
 nx:s0.nx<=s.nx
 t:∀ k j v,bX s.t k=some (j,v)->j<s0.nx->bX s0.t k=some (j,v)
 m:∀ n j r,cQ s.m n=some (j,r)->j<s0.nx->cQ s0.m n=some (j,r)
theorem Ext.refl (s:St):Ext s s:=⟨Wb _,fun _ _ _ h _=>h,fun _ _ _ h _=>h⟩
theorem Ext.trans {a b c:St} (h1:Ext a b) (h2:Ext b c):Ext a c:=
 ⟨Xt h1.nx h2.nx,fun k j v h hj=>h1.t k j v (h2.t k j v h (Nat.lt_of_lt_of_le hj h1.nx)) hj,fun k j v h hj=>h1.m k j v (h2.m k j v h (Nat.lt_of_lt_of_le hj h1.nx)) hj⟩
abbrev GG (nx:Nat) (t t':List (Nat×Nat×At)):Prop:=∀ k j v,bX t' k=some (j,v)->j<nx->bX t k=some (j,v)
abbrev Bo (nx:Nat) (m m':List (Nm×Nat×Rt)):Prop:=∀ n j r,cQ m' n=some (j,r)->j<nx->cQ m n=some (j,r)
theorem Bo.trans {nx:Nat} {a b c:List (Nm×Nat×Rt)} (h1:Bo nx a b) (h2:Bo nx b c):Bo nx a c:=fun n j r h hj=>h1 n j r (h2 n j r h hj) hj
theorem GG.trans {nx:Nat} {a b c:List (Nat×Nat×At)} (h1:GG nx a b) (h2:GG nx b c):GG nx a c:=fun n j r h hj=>h1 n j r (h2 n j r h hj) hj
theorem s6 {nx:Nat} {t:List (Nat×Nat×At)} (d i:Nat) (v:At) (hi:nx<=i):GG nx t ((d,i,v)::t):=by
 intro k j w h hj;simp only [bX] at h;split at h
 ·simp only [V6,Prod.mk.injEq] at h; omega
 ·exact h
theorem iw {nx:Nat} {t:List (Nm×Nat×Rt)} (d:Nm) (i:Nat) (v:Rt) (hi:nx<=i):Bo nx t ((d,i,v)::t):=by
 intro k j w h hj;simp only [cQ] at h;split at h
 ·simp only [V6,Prod.mk.injEq] at h; omega
 ·exact h
theorem Cv {nx i:Nat} {t:List (Nat×Nat×At)} (chg:At->Bool) (f:At->At) (hf:∀ v,chg v=false->f v=v) (hi:nx<=i) :
  GG nx t (t.map fun x=>(x.1,stp (chg x.2.2) i x.2.1,f x.2.2)):=by
 intro k j v h hj;rw [zR (fun x=>(stp (chg x.2.2) i x.2.1,f x.2.2))] at h;cases hl:bX t k with
 | none=>rw [hl] at h; cases h
 | some y=>
  obtain ⟨j',v'⟩:=y;rw [hl] at h;simp only [Option.map_some,V6,Prod.mk.injEq] at h;cases hc:chg v' with
  | true=>rw [hc] at h; simp only [stp] at h; omega
  | false=>rw [hc,hf v' hc] at h; simp only [stp] at h; obtain ⟨rfl,rfl⟩:=h; rfl
theorem fb {nx i:Nat} {t:List (Nat×Nat×At)} {bad:Bool->Pl->Bool} (hi:nx<=i):GG nx t (eR bad i t):=Cv (·.hit bad) (·.kill bad) (fun _ h=>IE h) hi
theorem ej {nx i:Nat} {t:List (Nm×Nat×Rt)} {bad:Bool->Pl->Bool} (hi:nx<=i):Bo nx t (bw bad i t):=by
 intro k j v h hj;unfold bw at h;rw [rC (fun x=>(stp (x.2.2.cells.any (·.hit bad)) i x.2.1,x.2.2.kill bad))] at h;cases hl:cQ t k with
 | none=>rw [hl] at h; cases h
 | some y=>
  obtain ⟨j',r⟩:=y;rw [hl] at h;simp only [Option.map_some,V6,Prod.mk.injEq] at h;cases hc:r.cells.any (·.hit bad) with
  | true=>rw [hc] at h; simp only [stp] at h; omega
  | false=>
   rw [hc] at h;have:r.kill bad=r:=by unfold Rt.kill; rw [mG hc]
   rw [this] at h;simp only [stp] at h;obtain ⟨rfl,rfl⟩:=h; rfl
theorem o7 (n k:Nm):∀ m:List (Nm×Nat×Rt),cQ (dw m n) k=if k=n then none else cQ m k
 | []=>by simp [dw,cQ]
 | (i,j,v)::m=>by
  simp only [dw];by_cases h:i=n
  ·subst h;rw [if_pos rfl,o7 i k m];by_cases hk:k=i
   ·rw [if_pos hk,if_pos hk]
   ·rw [if_neg hk,if_neg hk]; simp only [cQ]; rw [if_neg (fun e=>hk e.symm)]
  ·rw [if_neg h];simp only [cQ];by_cases hk:i=k
   ·subst hk; rw [if_pos rfl,if_neg h,if_pos rfl]
   ·rw [if_neg hk,if_neg hk,o7 n k m]
theorem qG {nx:Nat} {m:List (Nm×Nat×Rt)} (n:Nm):Bo nx m (dw m n):=by
 intro k j r h _;rw [o7] at h;split at h
 ·cases h
 ·exact h
theorem dH {nx i:Nat} (n:Nm) (r:Rt) (hi:nx<=i):∀ m:List (Nm×Nat×Rt),Bo nx m (fK m n i r)
 | [],_,_,_,h,_=>h
 | (a,b,c)::m,k,j,v,h,hj=>by
  simp only [fK] at h;split at h
  ·rename_i ha;simp only [cQ] at h ⊢;split at h
   ·simp only [V6,Prod.mk.injEq] at h; omega
   ·rename_i hk; rw [if_neg hk]; exact h
  ·simp only [cQ] at h ⊢;split at h
   ·rename_i hk; rw [if_pos hk]; exact h
   ·rename_i hk; rw [if_neg hk]; exact dH n r hi m k j v h hj
theorem bm (s:St) (d:Option Tmp) (v:At):Ext s (s.put d v):=by
 cases d with
 | none=>exact Ext.refl s
 | some d=>exact ⟨WZ _,s6 d s.nx v (Wb _),fun _ _ _ h _=>h⟩
theorem vk (s:St) (n:Nm):Ext s (s.drop n):=⟨WZ _,fb (Wb _),(qG n).trans (ej (Wb _))⟩
theorem eX (s:St) (n:Nm):Ext s (s.fresh n):=by
 unfold St.fresh; split
 ·exact Ext.refl s
 ·exact vk s n
theorem ko (s:St) (n:Nm) (r:Rt):Ext s (s.root n r):=⟨WZ _,fun _ _ _ h _=>h,iw n s.nx r (Wb _)⟩
theorem Jl (q:Pl) (u:U) (l:List (El u)) (t:Tt):(t.frz q u l).toT=t.toT.frz q (l.map (ao u)):=by
 cases t with
 | pl p=>exact gr (thr q) (.pl p)
 | rf p=>
  obtain ⟨n,o,path⟩:=p;cases path with
  | nil=>
   show (if n=q.root/\o=q.off then Tt.d (.li u l) else (Tt.rf ⟨n,o,[]⟩).kill (thr q)).toT=if n=q.root/\o=q.off then T.d (.li (l.map (ao u))) else (T.rf ⟨n,o,[]⟩).kill (thr q)
   by_cases h:n=q.root/\o=q.off
   ·rw [if_pos h,if_pos h]; rfl
   ·rw [if_neg h,if_neg h]; exact gr (thr q) (.rf ⟨n,o,[]⟩)
  | cons st r=>exact gr (thr q) (.rf ⟨n,o,st::r⟩)
 | _=>rfl
theorem w8 {f:Tt->Tt} {f':T->T} (h:∀ t,(f t).toT=f' t.toT) (x:A1):(x.map f).toV=x.toV.map f':=by
 cases x with
 | c t=>simp only [A1.map,A1.toV,AV1.map,h]
 | agg ts=>
  simp only [A1.map,A1.toV,AV1.map]
  congr 1
  rw [Wo,Wo]; exact Ws fun t _=>h t
theorem F9 {f:Tt->Tt} {f':T->T} (h:∀ t,(f t).toT=f' t.toT) (x:At):(x.map f).toV=x.toV.map f':=by
 cases x with
 | one x=>simp only [At.map,At.toV,AV.map,w8 h]
 | tup xs=>
  simp only [At.map,At.toV,AV.map]
  congr 1
  rw [Wo,Wo]; exact Ws fun t _=>w8 h t
 | any=>rfl
theorem Ad {q:Pl} {u:U} {l:List (El u)} {t:Tt} (h:t.hit (DX q)=false):t.frz q u l=t:=by
 cases t with
 | pl p=>
  simp only [Tt.hit,DX,WO,Xg] at h;exact iU (t:=.pl p) h
 | rf p=>
  simp only [Tt.hit,DX,Wv,Xq] at h;obtain ⟨n,o,path⟩:=p;cases path with
  | nil=>
   simp only [Tt.frz];rw [if_neg (by simpa using h.2)];exact iU (t:=.rf ⟨n,o,[]⟩) h.1
  | cons st r=>exact iU (t:=.rf ⟨n,o,st::r⟩) h.1
 | _=>rfl
theorem Lv {q:Pl} {u:U} {l:List (El u)} {x:At} (h:x.hit (DX q)=false):x.map (Tt.frz q u l)=x:=by
 have one:∀ {y:A1},y.hit (DX q)=false->y.map (Tt.frz q u l)=y:=by
  intro y hy;cases y with
  | c t=>simp only [A1.map,Ad (show t.hit _=false from hy)]
  | agg ts=>
   simp only [A1.hit] at hy;simp only [A1.map]
   congr 1
   induction ts with
   | nil=>rfl
   | cons t ts ih=>
    simp only [List.any_cons,Xq] at hy;rw [List.map_cons,Ad hy.1,ih hy.2]
 cases x with
 | one y=>simp only [At.map,one (show y.hit _=false from h)]
 | tup xs=>
  simp only [At.hit] at h;simp only [At.map]
  congr 1
  induction xs with
  | nil=>rfl
  | cons y ys ih=>
   simp only [List.any_cons,Xq] at h;rw [List.map_cons,one h.1,ih h.2]
 | any=>rfl
theorem kK (n:Nm):∀ m:List (Nm×Nat×Rt),bK m n=(cQ m n).map (·.2)
 | []=>rfl
 | (k,j,r)::m=>by
  simp only [bK,cQ];by_cases h:k=n
  ·rw [if_pos h,if_pos h]; rfl
  ·rw [if_neg h,if_neg h]; exact kK n m
theorem rL (s:St) (q:Pl):Ext s (qk s q):=by
 unfold qk;split
 ·split
  ·rename_i u l _ _;refine ⟨WZ _,Cv (·.hit (DX q)) (·.map (Tt.frz q u l)) (fun _ h=>Lv h) (Wb _),?_⟩;have hset:∀ (m:List (Nm×Nat×Rt)) off t,Bo s.nx m (setCell m q.root s.nx off t):=by
    intro m off t;unfold setCell;split
    ·exact dH _ _ (Wb _) m
    ·exact fun _ _ _ h _=>h
   exact ((hset _ _ _).trans (ej (Wb _))).trans (hset _ _ _)
  ·exact Ext.refl s
 ·exact Ext.refl s
theorem m7 {m:List (Nm×Nat×Rt)} {n:Nm} {i off:Nat} {t:Tt} {r:Rt} (hr:bK m n=some r) (hh:r.hole=none) :
  toM (setCell m n i off t)=cy (toM m) n ⟨r.blk,(r.toR.cells).set off t.toT⟩:=by
 unfold setCell;rw [hr];dsimp only;rw [fo]
 congr 1
 simp only [Rt.toR,hh,holed,WS]
theorem B4 {m:List (Nm×Nat×Rt)} {n:Nm} {i off:Nat} {t:Tt} {r:Rt} (hr:bK m n=some r):bK (setCell m n i off t) n=some { r with cells:=r.cells.set off t }:=by
 unfold setCell;rw [hr];dsimp only;induction m with
 | nil=>cases hr
 | cons x m ih=>
  obtain ⟨k,j,v⟩:=x;simp only [fK];simp only [bK] at hr;by_cases h:k=n
  ·rw [if_pos h]; simp only [bK]; rw [if_pos h]
  ·rw [if_neg h] at hr ⊢; simp only [bK]; rw [if_neg h]; exact ih hr
theorem za (bad:Bool->Pl->Bool) (i:Nat) (n:Nm) (m:List (Nm×Nat×Rt)):bK (bw bad i m) n=(bK m n).map (·.kill bad):=by
 rw [kK,kK];unfold bw;rw [rC (fun x=>(stp (x.2.2.cells.any (·.hit bad)) i x.2.1,x.2.2.kill bad))];cases cQ m n <;> rfl
theorem rz {g:G} {s:St} {a:Act} {w:World} {H:FH} {γ:Gam} {F:Nm->Fp} (h:RX g s.toS a w H γ F) (q:Pl):∃ H' F',RX g (qk s q).toS a w H' γ F':=by
 unfold qk;split
 ·rename_i r hpath hr;split
  ·rename_i sh u l hh hc;obtain ⟨H',F',h'⟩:=IL h q;refine ⟨H',F',?_⟩;have ec:r.toR.cells[q.off]? = some (.ow sh (l.map (ao u))):=by
    show (holed (r.cells.map Tt.toT) r.hole)[q.off]? = _
    rw [hh];show (r.cells.map Tt.toT)[q.off]? = _
    rw [Wa,hc]; rfl
   have eg:ae s.toS.m q.root=some r.toR:=bq hr
   have egp:aU s.toS.m q=some (.ow sh (l.map (ao u))):=by
    unfold aU;rw [eg,hpath];exact ec
   have efrz:DT s.toS q=⟨wU (AV.map (T.frz q (l.map (ao u)))) s.toS.t,Fz s.toS.m q (l.map (ao u))⟩:=by
    unfold DT;rw [egp,hpath]
   rw [efrz] at h';have key:(⟨s.nx+1,s.t.map fun x=>(x.1,stp (x.2.2.hit (DX q)) s.nx x.2.1,x.2.2.map (Tt.frz q u l)),
     setCell (bw (thr q) s.nx (setCell s.m q.root s.nx q.off .any)) q.root s.nx q.off (.d (.li u l))⟩:St).toS=⟨wU (AV.map (T.frz q (l.map (ao u)))) s.toS.t,Fz s.toS.m q (l.map (ao u))⟩:=by
    refine bx.S_ext ?_ ?_
    ·simp only [St.toS,wU,Wo];exact Ws fun x _=>by simp only [Function.comp,F9 (Jl q u l)]
    ·have g1:=B4 (i:=s.nx) (off:=q.off) (t:=.any) hr
     have g2:bK (bw (thr q) s.nx (setCell s.m q.root s.nx q.off .any)) q.root=some (({ r with cells:=r.cells.set q.off .any }:Rt).kill (thr q)):=by rw [za,g1]; rfl
     show toM (setCell _ q.root s.nx q.off (.d (.li u l)))=_
     rw [m7 g2 hh,dV,m7 hr hh];unfold Fz;have p1:aY s.toS.m q .any=cy (toM s.m) q.root ⟨r.blk,r.toR.cells.set q.off Tt.any.toT⟩:=by
      unfold aY;rw [eg,hpath];rfl
     rw [p1];have g3:ae (aH (thr q) (cy (toM s.m) q.root ⟨r.blk,r.toR.cells.set q.off Tt.any.toT⟩)) q.root=some ⟨r.blk,(r.toR.cells.set q.off Tt.any.toT).map (·.kill (thr q))⟩:=by
      have:=bq g2
      rw [dV,m7 hr hh] at this;rw [this,tG];simp only [Rt.toR,hh,holed,WS,Tt.toT]
     unfold aY;rw [g3,hpath];dsimp only
     congr 1
     simp only [Rt.toR,Rt.kill,hh,holed,WS,uY,Xv,Tt.toT,C.toD]
   rw [key]; exact h'
  ·exact ⟨H,F,h⟩
 ·exact ⟨H,F,h⟩
end Go.Am
end

section
namespace Go.Am
section
variable {g:G} {a:Act} {w:World} {γ:Gam}
theorem zM {s:St} {H:FH} {F:Nm->Fp} (h:RX g s.toS a w H γ F) (t:Tt):∃ H' F',RX g (Kz s t).toS a w H' γ F':=by
 cases t with
 | rf p=>exact rz h p
 | _=>exact ⟨H,F,h⟩
theorem vb:∀ (ts:List Tt) (s:St) (H:FH) (F:Nm->Fp),RX g s.toS a w H γ F->∃ H' F',RX g (Ch s ts).toS a w H' γ F'
 | [],_,H,F,h=>⟨H,F,h⟩
 | t::ts,s,H,F,h=>by
  obtain ⟨H1,F1,h1⟩:=zM h t;exact vb ts _ H1 F1 h1
theorem kB {s:St} {H:FH} {F:Nm->Fp} (h:RX g s.toS a w H γ F) (v:At):∃ H' F',RX g (jz s v).toS a w H' γ F':=by
 cases v with
 | one x=>cases x with
  | c t=>exact zM h t
  | agg ts=>exact vb ts s H F h
 | _=>exact ⟨H,F,h⟩
theorem db:∀ (vs:List At) (s:St) (H:FH) (F:Nm->Fp),RX g s.toS a w H γ F->∃ H' F',RX g (b9 s vs).toS a w H' γ F'
 | [],_,H,F,h=>⟨H,F,h⟩
 | v::vs,s,H,F,h=>by
  obtain ⟨H1,F1,h1⟩:=kB h v;exact db vs _ H1 F1 h1
theorem Ew {s s':St} {H:FH} {F:Nm->Fp} (hX:RX g s.toS a w H γ F) (hf:∀ (g':G) (H:FH) (F:Nm->Fp),RX g' s.toS a w H γ F->∃ H' F',RX g' s'.toS a w H' γ F') :
  ∃ H' F',RX g s'.toS a w H' γ F'/\∀ b o y,H b o=some y->H' b o=some y:=by
 let g':G:=⟨g.nt,w,H,tot F s.toS.m,g.out,g.ex,g.dfs⟩
 have hX2:RX g' s.toS a w H γ F:=⟨hX.mem,Fr.refl' rfl rfl rfl rfl (fun _ h=>h),hX.nt,⟨hX.df.1,hX.df.2.1,eG hX⟩,hX.t⟩
 obtain ⟨H',F',h⟩:=hf g' H F hX2;exact ⟨H',F',⟨h.mem,hX.fr.trans h.fr,h.nt,⟨h.df.1,h.df.2.1,hX.df.2.2⟩,h.t⟩,h.fr.hold⟩
theorem nd:∀ (ts:List Tt) (s:St) (p:Pl) (H:FH) (F:Nm->Fp),RX g s.toS a w H γ F->∃ H' F',RX g (tA s p ts).toS a w H' γ F'
 | [],s,_,H,F,h=>⟨H,F,h⟩
 | t::ts,s,p,H,F,h=>by
  cases t with
  | rf q=>
   simp only [tA];split
   ·obtain ⟨H1,F1,h1⟩:=rz h q;exact nd ts _ _ H1 F1 h1
   ·exact nd ts _ _ H F h
  | _=>exact nd ts s (p.add 1) H F h
theorem ME {s:St} {H:FH} {F:Nm->Fp} (h:RX g s.toS a w H γ F) (x v:At):∃ H' F',RX g (Eg s x v).toS a w H' γ F':=by
 unfold Eg;split
 ·exact nd _ _ _ H F h
 ·exact ⟨H,F,h⟩
theorem zX (s:St) (t:Tt):Ext s (Kz s t):=by
 cases t with
 | rf p=>exact rL s p
 | _=>exact Ext.refl s
theorem yh:∀ (ts:List Tt) (s:St),Ext s (Ch s ts)
 | [],s=>Ext.refl s
 | t::ts,s=>(zX s t).trans (yh ts _)
theorem ku (s:St) (v:At):Ext s (jz s v):=by
 cases v with
 | one x=>cases x with
  | c t=>exact zX s t
  | agg ts=>exact yh ts s
 | _=>exact Ext.refl s
theorem nu:∀ (ts:List Tt) (s:St) (p:Pl),Ext s (tA s p ts)
 | [],s,_=>Ext.refl s
 | t::ts,s,p=>by
  cases t with
  | rf q=>
   simp only [tA];split
   ·exact (rL s q).trans (nu ts _ _)
   ·exact nu ts _ _
  | _=>exact nu ts s (p.add 1)
theorem LH (s:St) (x v:At):Ext s (Eg s x v):=by
 unfold Eg;split
 ·exact nu _ _ _
 ·exact Ext.refl s
theorem cv:∀ (vs:List At) (s:St),Ext s (b9 s vs)
 | [],s=>Ext.refl s
 | v::vs,s=>(ku s v).trans (cv vs _)
theorem vN {s:St} {H:FH} {F:Nm->Fp} (h:RX g s.toS a w H γ F) (o:Oper):∃ H' F',RX g (EV s o).toS a w H' γ F':=by
 unfold EV;split
 ·exact kB h _
 ·exact kB h _
 ·exact ⟨H,F,h⟩
theorem ED (s:St) (o:Oper):Ext s (EV s o):=by
 unfold EV;split
 ·exact ku s _
 ·exact ku s _
 ·exact Ext.refl s
theorem zC {s:S} {t:Tt} (h:t.noRf=true):PA s t.toT=s:=by
 cases t with
 | rf p=>cases h
 | _=>rfl
theorem xZ {s:S}:∀ {ts:List Tt},ts.all Tt.noRf=true->zQ s (ts.map Tt.toT)=s
 | [],_=>rfl
 | t::ts,h=>by
  simp only [Wl,V7] at h;simp only [List.map_cons,zQ];rw [zC h.1,xZ h.2]
theorem sN {s:S} {v:At} (h:v.noRf=true):CY s v.toV=s:=by
 cases v with
 | one x=>cases x with
  | c t=>exact zC h
  | agg ts=>exact xZ h
 | _=>rfl
theorem fJ {s:S}:∀ {vs:List At},vs.all At.noRf=true->gO s (vs.map At.toV)=s
 | [],_=>rfl
 | v::vs,h=>by
  simp only [Wl,V7] at h;simp only [List.map_cons,gO];rw [sN h.1,fJ h.2]
theorem Gt {s:St} {H:FH} {F:Nm->Fp} (hX:RX g s.toS a w H γ F) {x:Operand} (hc:aX x=true) :
  (∀ p,evA s x=.one (.c (.rf p))->okP (toM s.m) p)/\(∀ p,evA s x=.one (.c (.pl p))->okP (toM s.m) p):=by
 have h:=bg hX hc
 rw [ax hc] at h;refine ⟨fun p e=>?_,fun p e=>?_⟩
 ·rw [e] at h;obtain ⟨_,h1,_⟩:=h;exact A4 h1
 ·rw [e] at h;obtain ⟨_,h1,_⟩:=h;exact NJ h1
theorem sZ {gd:Option (Nat×Bool)} {n:Nat} {q q':Prop} (hq:q->q') (h:gift gd n q):gift gd n q':=by
 cases gd with
 | none=>exact fun hh=>hq (h hh)
 | some _=>exact hq h
theorem AA {gd:Option (Nat×Bool)} {m:List (Nm×Nat×Rt)} {x:At} {k k':Nat->Prop} (hk:∀ n,k n->k' n) (h:Ma gd m x k):Ma gd m x k':=by
 unfold Ma at h ⊢;split at h
 ·exact sZ (hk _) h
 ·exact sZ (hk _) h
 ·exact hk _ h
 ·split at h
  ·exact sZ (hk _) h
  ·exact h.elim
 ·exact h.elim
theorem LM (x:At):nE x.toV=Ox x:=by
 cases x with
 | one x=>cases x with
  | c t=>cases t with
   | d c=>cases c <;> rfl
   | _=>rfl
  | agg ts=>rfl
 | _=>rfl
theorem QG {e:En} {o:Oper} {s:St} {k:At->Prop} {H:FH} {F:Nm->Fp} (hX:RX g s.toS a w H γ F) (hc:opC g.nt o=true) (h:qT e o s k):qK e.P o s.toS (up k):=by
 unfold opC at hc;rw [V7] at hc;obtain ⟨_,hc⟩:=hc;unfold qT at h;unfold qK;cases ho:o.op with
 | move x=>rw [ho] at h hc; exact ⟨_,ax hc,h⟩
 | assign x=>rw [ho] at h hc; exact ⟨_,ax hc,h⟩
 | pick c x y=>
  rw [ho] at h hc;simp only [V7] at hc;dsimp only;rw [ax hc.1.1,ax hc.1.2,ax hc.2];exact PP h
 | binOp op t x y z=>
  rw [ho] at h hc;simp only [V7] at hc;dsimp only;rw [ax hc.1,ax hc.2];exact QU h
 | unOp op t x=>rw [ho] at h hc; dsimp only at hc ⊢; rw [ax hc]; exact Tx h
 | load t x=>rw [ho] at h hc; dsimp only at hc ⊢; rw [ax hc]; exact CU (Gt hX hc).2 h
 | field t x i=>rw [ho] at h hc; dsimp only at hc ⊢; rw [ax hc]; exact Me h
 | fieldAddr t x i=>rw [ho] at h hc; dsimp only at hc ⊢; rw [ax hc]; exact yO h
 | indexAddr t x i=>
  rw [ho] at h hc;simp only [V7] at hc;dsimp only;rw [ax hc.1,ax hc.2];exact yj (Gt hX hc.1).1 h
 | index t x i=>
  rw [ho] at h hc;simp only [V7] at hc;dsimp only at h ⊢;split at h
  ·rename_i ht;rw [ax hc.1,ax hc.2];exact ⟨ht,LS h⟩
  ·exact h.elim
 | extract x i=>rw [ho] at h hc; dsimp only at hc ⊢; rw [ax hc]; exact Fe h
 | convert su du x=>rw [ho] at h hc; dsimp only at hc ⊢; rw [ax hc]; exact Nw h
 | slice t x lo hi mx=>
  rw [ho] at h hc;cases mx with
  | some _=>exact h.elim
  | none=>
   dsimp only at h hc ⊢;simp only [V7] at hc;have opt:∀ (y:Option Operand),y.all aX=true->y.map (ev s.toS)=(y.map (evA s)).map At.toV:=by
    intro y hy;cases y with
    | none=>rfl
    | some y=>simp only [Option.map_some]; rw [ax (by simpa using hy)]
   rw [ax hc.1.1,opt lo hc.1.2,opt hi hc.2];exact LB h
 | nilCheck x=>rw [ho] at h hc; dsimp only at hc ⊢; rw [ax hc]; exact Bq h
 | build t ps=>rw [ho] at h hc; dsimp only at hc ⊢; rw [rF hc]; exact Ng h
 | call c=>
  rw [ho] at h hc;obtain ⟨callee,args,argTypes⟩:=c;obtain ⟨args⟩:=args;obtain ⟨argTypes⟩:=argTypes;dsimp only at h hc ⊢;cases callee with
  | builtin b=>
   cases b with
   | len=>
    match args,argTypes,h with
    | [x],[t],h=>
     have h1:aX x=true:=by simpa using hc
     dsimp only at h ⊢;split at h
     ·rename_i hl;rw [ax h1,LM];refine ⟨hl,?_⟩;exact SO (Gt hX h1).1 (AA (fun n hn=>⟨_,rfl,hn⟩) h)
     ·exact h.elim
   | _=>exact h.elim
  | _=>exact h.elim
 | _=>rw [ho] at h; exact h.elim
end
end Go.Am
end

section
namespace Go.Am
theorem nQ {u:U} {x x':El u} {off:Nat} {c:C} (h:Dn u x off c=some x'):(∃ d,(ao u x)[off]? = some d)/\ao u x'=(ao u x).set off c.toD:=by
 unfold Dn at h;split at h
 ·rename_i c0 hc;have e:=AJ h
  refine ⟨⟨c0.toD,by rw [<- bz,Wa,hc]; rfl⟩,?_⟩;rw [<- bz,<- e,<- bz,WS]
 ·cases h
theorem DQ:∀ {path:List Step} {sub:List Sh} {u:U} {l l':List (El u)} {t:Tt} {k:Prop} {K:List (List D)->Prop},oS sub u l path k->C0 sub u l t path=some l'->K (l'.map (ao u))->fA sub (l.map (ao u)) t.toT path K
 | [],_,_,_,_,_,_,_,h,_,_=>h.elim
 | [st],sub,u,l,l',t,k,K,h,ht,hK=>by
  obtain ⟨h1,_⟩:=h;simp only [C0] at ht;simp only [fA];rw [gU l h1];dsimp only;split at ht
  ·rename_i c hs;split at ht
   ·rename_i x hx;simp only [V6] at ht;subst ht;obtain ⟨⟨d,hd⟩,e⟩:=nQ hx;rw [hs,hd];dsimp only;refine ⟨trivial,?_⟩;rw [WS,e] at hK;exact hK
   ·cases ht
  ·rename_i hs;split at ht
   ·rename_i u' l0 hf;split at ht
    ·rename_i x hx;simp only [V6] at ht;subst ht;obtain ⟨⟨d,hd⟩,e⟩:=nQ hx;rw [hs,hd];dsimp only;refine ⟨trivial,?_⟩;rw [WS,e] at hK;exact hK
    ·cases ht
   ·cases ht
  ·cases ht
 | st::st'::r,sub,u,l,l',t,k,K,h,ht,hK=>by
  simp only [C0] at ht;simp only [fA];simp only [oS] at h;split at ht
  ·rename_i s u' l0 e1 e2;rw [e1,e2] at h;obtain ⟨h1,h4⟩:=h;rw [gU l h1];dsimp only;split at ht
   ·rename_i l2 hl2;split at ht
    ·rename_i x hx;simp only [V6] at ht;subst ht;obtain ⟨_,e⟩:=nQ hx;have e3:(ao u (l.getD st.idx (dflt u)))[st.off]? = some (.li (l0.map (ao u'))):=by
      rw [<- bz,Wa,e2]; rfl
     rw [e1,e3];dsimp only;refine DQ h4 hl2 ?_;rw [WS,e] at hK;exact hK
    ·cases ht
   ·cases ht
  ·cases ht
mutual
theorem Qd:∀ {a b:Sh},EH a b=true->a=b
 | .fr,.fr,_=>rfl
 | .ow a,.ow b,h=>by simp only [EH] at h; rw [nA h]
 | .fr,.ow _,h=>by simp [EH] at h
 | .ow _,.fr,h=>by simp [EH] at h
theorem nA:∀ {a b:List Sh},mw a b=true->a=b
 | [],[],_=>rfl
 | a::r,b::q,h=>by
  simp only [mw,V7] at h;rw [Qd h.1,nA h.2]
 | [],_::_,h=>by simp [mw] at h
 | _::_,[],h=>by simp [mw] at h
end
theorem Cw:∀ {path:List Step} {sub:List Sh} {u:U} {l l':List (El u)} {sh:List Sh} {v:U} {lv:List (El v)} {k:Prop} {K:List (List D)->Prop},oS sub u l path k->FG sub u l sh v lv path=some l'->K (l'.map (ao u)) ->
  fA sub (bE sub (l.map (ao u)) .any path) (.ow sh (lv.map (ao v))) path K
 | [],_,_,_,_,_,_,_,_,_,h,_,_=>h.elim
 | [st],sub,u,l,l',sh,v,lv,k,K,h,ht,hK=>by
  obtain ⟨h1,_⟩:=h;have h1':st.idx < (l.map (ao u)).length:=by rw [Wc]; exact h1
  simp only [FG] at ht;split at ht
  ·rename_i s c hs hc;split at ht
   ·rename_i x hsh hx;simp only [V6] at ht;subst ht;obtain ⟨⟨d,hd⟩,e⟩:=nQ hx;have hlt:st.off < (ao u (l.getD st.idx (dflt u))).length:=ai hd
    have hset:bE sub (l.map (ao u)) .any [st]=(l.map (ao u)).set st.idx ((ao u (l.getD st.idx (dflt u))).set st.off .any):=by
     simp only [bE]; rw [gp l h1]
    rw [hset];simp only [fA];rw [Wz h1'];dsimp only;rw [hs,Wz hlt];dsimp only;refine ⟨nA hsh,?_⟩;rw [Xv,Xv];rw [WS,e] at hK;exact hK
   ·cases ht
  ·cases ht
 | st::st'::r,sub,u,l,l',sh,v,lv,k,K,h,ht,hK=>by
  simp only [FG] at ht;simp only [oS] at h;split at ht
  ·rename_i s u' l0 e1 e2;rw [e1,e2] at h;obtain ⟨h1,h4⟩:=h;have h1':st.idx < (l.map (ao u)).length:=by rw [Wc]; exact h1
   split at ht
   ·rename_i l2 hl2;split at ht
    ·rename_i x hx;simp only [V6] at ht;subst ht;obtain ⟨_,e⟩:=nQ hx;have e3:(ao u (l.getD st.idx (dflt u)))[st.off]? = some (.li (l0.map (ao u'))):=by
      rw [<- bz,Wa,e2]; rfl
     have hlt:st.off < (ao u (l.getD st.idx (dflt u))).length:=ai e3
     have e4:(ao u (l.getD st.idx (dflt u))).getD st.off default=.li (l0.map (ao u')):=by rw [List.getD,e3]; rfl
     have hset:bE sub (l.map (ao u)) .any (st::st'::r)=(l.map (ao u)).set st.idx ((ao u (l.getD st.idx (dflt u))).set st.off (.li (bE s (l0.map (ao u')) .any (st'::r)))):=by
      simp only [bE]; rw [gp l h1,e1,e4]
     rw [hset];simp only [fA];rw [Wz h1'];dsimp only;rw [e1,Wz hlt];dsimp only;refine Cw h4 hl2 ?_;rw [Xv,Xv];rw [WS,e] at hK;exact hK
    ·cases ht
   ·cases ht
  ·cases ht
theorem AU:∀ {path:List Step} {sub:List Sh} {u:U} {l:List (El u)} {k:Prop},oS sub u l path k->k
 | [],_,_,_,_,h=>h.elim
 | [st],_,_,_,_,h=>h.2
 | st::st'::r,sub,u,l,k,h=>by
  simp only [oS] at h;split at h
  ·exact AU h.2
  ·exact h.elim
theorem nj:∀ {path:List Step} {sub:List Sh} {u:U} {l:List (El u)} {k k':Prop},(k->k')->oS sub u l path k->oS sub u l path k'
 | [],_,_,_,_,_,_,h=>h.elim
 | [st],_,_,_,_,_,hk,h=>⟨h.1,hk h.2⟩
 | st::st'::r,sub,u,l,k,k',hk,h=>by
  simp only [oS] at h ⊢;split at h
  ·exact ⟨h.1,nj hk h.2⟩
  ·exact h.elim
theorem Ap:∀ {a b:List Step} {k:Prop},pA a b k->a=b/\k
 | [],[],_,h=>⟨rfl,h⟩
 | x::r,y::q,k,h=>by
  simp only [pA] at h;split at h
  ·rename_i hb;rw [V7] at hb;obtain ⟨e,hk⟩:=Ap h.2;obtain ⟨a1,a2,a3⟩:=x; obtain ⟨b1,b2,b3⟩:=y;have h1:a1=b1:=h.1
   have h2:a2=b2:=Wg hb.1
   have h3:a3=b3:=Wg hb.2
   subst h1; subst h2; subst h3; subst e;exact ⟨rfl,hk⟩
  ·exact h.elim
 | [],_::_,_,h=>h.elim
 | _::_,[],_,h=>h.elim
theorem tj:∀ {a b:List Step} {k k':Prop},(k->k')->pA a b k->pA a b k'
 | [],[],_,_,hk,h=>hk h
 | x::r,y::q,k,k',hk,h=>by
  simp only [pA] at h ⊢;split at h
  ·exact ⟨h.1,tj hk h.2⟩
  ·exact h.elim
 | [],_::_,_,_,_,h=>h.elim
 | _::_,[],_,_,_,h=>h.elim
theorem Ee:∀ {path:List Step} {sub:List Sh} {u:U} {l:List (El u)} {sh:List Sh} {v:U} {lv:List (El v)},okO sub (l.map (ao u)) path->inT sub u l 1 path=some [.ow sh v lv]->aZ sub (l.map (ao u)) path=some (.ow sh,.li (lv.map (ao v)))
 | [],_,_,_,_,_,_,h,_=>h.elim
 | [st],sub,u,l,sh,v,lv,h,ht=>by
  obtain ⟨h1,h2,h3⟩:=h;rw [Wc] at h1;simp only [inT] at ht;split at ht
  ·simp only [V6] at ht;have e1:sub[st.off]? = some sub[st.off]:=V8 h3
   cases hc:(flat u (l.getD st.idx (dflt u)))[st.off]? with
   | none=>
    have:((flat u (l.getD st.idx (dflt u))).drop st.off).take 1=[]:=by
     rw [List.drop_eq_nil_of_le (List.getElem?_eq_none_iff.1 hc)]; rfl
    rw [this] at ht;simp at ht
   | some c=>
    have hlt:=ai hc
    have ec:(flat u (l.getD st.idx (dflt u)))[st.off]=c:=by
     rw [V8 hlt] at hc; exact Option.some.inj hc
    have d1:(sub.drop st.off).take 1=[sub[st.off]]:=by rw [Wm h3]; rfl
    have d2:((flat u (l.getD st.idx (dflt u))).drop st.off).take 1=[c]:=by rw [Wm hlt,ec]; rfl
    rw [d1,d2] at ht;simp only [List.zipWith_cons_cons,List.zipWith_nil_left,List.cons.injEq,and_true] at ht;simp only [aZ,e1,Option.map_some,gp l h1];have e3:(ao u (l.getD st.idx (dflt u))).getD st.off default=c.toD:=by
     rw [List.getD,<- bz,Wa,hc]; rfl
    rw [e3];generalize sub[st.off]=s0 at ht;cases s0 with
    | fr=>cases ht
    | ow s1=>
     cases c with
     | li u1 l1=>
      simp only [Tt.ow.injEq] at ht;obtain ⟨rfl,rfl,e⟩:=ht;rw [eq_of_heq e]; rfl
     | _=>cases ht
  ·cases ht
 | st::st'::r,sub,u,l,sh,v,lv,h,ht=>by
  obtain ⟨⟨h1,h2,h3⟩,h4⟩:=h;rw [Wc] at h1;simp only [inT] at ht;split at ht
  ·rename_i s u' l0 e1 e2;have e3:(ao u (l.getD st.idx (dflt u))).getD st.off default=.li (l0.map (ao u')):=by
    rw [List.getD,<- bz,Wa,e2]; rfl
   rw [e1,gp l h1,e3] at h4;simp only [aZ];rw [e1,gp l h1,e3];exact Ee h4 ht
  ·cases ht
theorem Db {cells:List Tt} {off:Nat} {sub:List Sh} {u:U} {l:List (El u)} (st:Step) (q:List Step) (h:cells[off]? = some (.ow sub u l)) :
  holed (cells.map Tt.toT) (some (off,st,q))=(cells.map Tt.toT).set off (.ow sub (bE sub (l.map (ao u)) .any (st::q))):=by
 unfold holed;dsimp only;rw [Wa,h];rfl
def xU (row:List D) (off:Nat):List D->List D
 | []=>row
 | d::r=>xU (row.set off d) (off+1) r
def fB (sub:List Sh) (l:List (List D)):List T->List Step->(List (List D)->Prop)->Prop
 | [],_,K=>K l
 | t::ts,path,K=>fA sub l t path fun l1=>fB sub l1 ts (aI path 1) K
theorem jy:∀ {path:List Step} {sub:List Sh} {l:List (List D)} {t:T} {K K':List (List D)->Prop},(∀ x,K x->K' x)->fA sub l t path K->fA sub l t path K'
 | [],_,_,_,_,_,_,h=>h.elim
 | [st],sub,l,t,K,K',hk,h=>by
  simp only [fA] at h ⊢;split at h
  ·split at h
   ·exact ⟨h.1,hk _ h.2⟩
   ·exact ⟨h.1,hk _ h.2⟩
   ·exact h.elim
  ·exact h.elim
 | st::st'::r,sub,l,t,K,K',hk,h=>by
  simp only [fA] at h ⊢;split at h
  ·split at h
   ·exact jy (fun x hx=>hk _ hx) h
   ·exact h.elim
  ·exact h.elim
theorem mr:∀ {ts:List T} {path:List Step} {sub:List Sh} {l:List (List D)} {K K':List (List D)->Prop},(∀ x,K x->K' x)->fB sub l ts path K->fB sub l ts path K'
 | [],_,_,_,_,_,hk,h=>hk _ h
 | t::ts,path,sub,l,K,K',hk,h=>jy (fun x hx=>mr hk hx) h
def CM:T->Bool
 | .d _=>true
 | .nil=>true
 | _=>false
theorem vB {sub:List Sh} {idx esz:Nat}:∀ {ts:List T} {l:List (List D)} {off:Nat} {row:List D} {K:List (List D)->Prop},l[idx]? = some row->ts.all CM=true->frs sub off ts.length=true->off+ts.length<=row.length ->
  K (l.set idx (xU row off (ts.map T.toD)))->fB sub l ts [⟨idx,esz,off⟩] K
 | [],l,off,row,K,hl,_,_,_,hK=>by
  have:l.set idx row=l:=by
   apply Xl
   intro n;rw [W3];split
   ·rename_i e;subst e;have hlt:=ai hl
    rw [if_pos hlt]; exact hl.symm
   ·rfl
  simp only [List.map_nil,xU,this] at hK;exact hK
 | t::ts,l,off,row,K,hl,hd,hf,hlen,hK=>by
  simp only [Wl,V7] at hd;simp only [Wp] at hlen hf;simp only [frs] at hf;cases hs:sub[off]? with
  | none=>rw [hs] at hf; cases hf
  | some s=>
   rw [hs] at hf;cases s with
   | ow _=>cases hf
   | fr=>
    dsimp only at hf;have hoff:off<row.length:=by omega
    simp only [fB,fA];rw [hl];dsimp only;rw [hs,V8 hoff];dsimp only;refine ⟨by have h0:=hd.1; cases t <;> first | trivial | (simp [CM] at h0),?_⟩;have hlt:=ai hl
    show fB sub _ ts [⟨idx,esz,off+1⟩] K
    refine vB (row:=row.set off t.toD) (Wz hlt) hd.2 hf (by rw [WM]; omega) ?_;rw [Xv];exact hK
theorem BS (st st':Step) (r:List Step) (n:Nat):aI (st::st'::r) n=st::aI (st'::r) n:=rfl
theorem tg {sub s:List Sh} {st st':Step}:∀ {ts:List T} {r:List Step} {l l':List (List D)} {row:List D} {K:List (List D)->Prop},l[st.idx]? = some row->sub[st.off]? = some (.ow s)->row[st.off]? = some (.li l') ->
  fB s l' ts (st'::r) (fun l''=>K (l.set st.idx (row.set st.off (.li l''))))->fB sub l ts (st::st'::r) K
 | [],r,l,l',row,K,hl,hs,hc,h=>by
  have e1:row.set st.off (.li l')=row:=by
   apply Xl
   intro n;rw [W3];split
   ·rename_i e; subst e; rw [if_pos (ai hc)]; exact hc.symm
   ·rfl
  have e2:l.set st.idx row=l:=by
   apply Xl
   intro n;rw [W3];split
   ·rename_i e; subst e; rw [if_pos (ai hl)]; exact hl.symm
   ·rfl
  simp only [fB,e1,e2] at h;exact h
 | t::ts,r,l,l',row,K,hl,hs,hc,h=>by
  simp only [fB,fA] at h ⊢;rw [hl];dsimp only;rw [hs,hc];dsimp only;refine jy (fun l1 h1=>?_) h;rw [BS];have hlt:=ai hl
  have hlt2:=ai hc
  obtain ⟨st2,r2,e⟩:∃ st2 r2,aI (st'::r) 1=st2::r2:=by
   cases r with
   | nil=>exact ⟨_,_,rfl⟩
   | cons a b=>exact ⟨_,_,rfl⟩
  rw [e] at h1 ⊢;refine tg (row:=row.set st.off (.li l1)) (l':=l1) (Wz hlt) hs (Wz hlt2) ?_;refine mr (fun l2 h2=>?_) h1;rw [Xv,Xv];exact h2
theorem wQ:∀ {ts:List Tt} {cs cs':List C} {off:Nat},iE cs off ts=some cs'->cs'.map C.toD=xU (cs.map C.toD) off ((ts.map Tt.toT).map T.toD)/\(ts.map Tt.toT).all CM=true/\(ts≠[]->off+ts.length<=cs.length)/\cs'.length=cs.length
 | [],cs,cs',off,h=>by
  simp only [iE,V6] at h;subst h; exact ⟨rfl,rfl,fun h=>(h rfl).elim,rfl⟩
 | t::r,cs,cs',off,h=>by
  have step:∀ {c:C},(∃ c0,cs[off]? = some c0)->iE (cs.set off c) (off+1) r=some cs'->t.toT.toD=c.toD->CM t.toT=true ->
    cs'.map C.toD=xU (cs.map C.toD) off (((t::r).map Tt.toT).map T.toD)/\((t::r).map Tt.toT).all CM=true/\((t::r)≠[]->off+(t::r).length<=cs.length)/\cs'.length=cs.length:=by
   rintro c ⟨c0,hc0⟩ h2 h3 h4
   obtain ⟨k1,k2,k3,k4⟩:=wQ h2;have hlt:=ai hc0
   refine ⟨?_,by simp only [List.map_cons,Wl,h4,k2,Bool.and_self],fun _=>?_,by rw [k4,WM]⟩
   ·rw [k1];simp only [List.map_cons,xU,h3,WS]
   ·simp only [Wp];by_cases hr:r=[]
    ·subst hr; simp only [W0]; omega
    ·have:=k3 hr; rw [WM] at this; omega
  cases t with
  | d c=>
   simp only [iE] at h;split at h
   ·cases h
   ·rename_i hc; exact step ⟨_,hc⟩ h rfl rfl
   ·cases h
  | nil=>
   simp only [iE] at h;split at h
   ·rename_i u' l0 hc; exact step ⟨_,hc⟩ h rfl rfl
   ·cases h
  | _=>simp [iE] at h
theorem DF:∀ {path:List Step} {sub:List Sh} {u:U} {l l':List (El u)} {ts:List Tt} {k:Prop} {K:List (List D)->Prop},ts≠[]->oS sub u l path k->ql sub u l ts path=some l'->K (l'.map (ao u))->fB sub (l.map (ao u)) (ts.map Tt.toT) path K
 | [],_,_,_,_,_,_,_,_,h,_,_=>h.elim
 | [st],sub,u,l,l',ts,k,K,hne,h,ht,hK=>by
  obtain ⟨h1,_⟩:=h;simp only [ql] at ht;split at ht
  ·rename_i cs hf ho;split at ht
   ·rename_i x hx;simp only [V6] at ht;subst ht;obtain ⟨k1,k2,k3,k4⟩:=wQ ho;have e:=AJ hx
    obtain ⟨idx,esz,off⟩:=st;refine vB (gU l h1) k2 (by rw [Wc]; exact hf) ?_ ?_
    ·rw [Wc,<- bz,Wc]; exact k3 hne
    ·rw [WS] at hK;have e2:ao u x=xU (ao u (l.getD idx (dflt u))) off ((ts.map Tt.toT).map T.toD):=by
      rw [<- bz,<- e,k1,bz]
     rw [e2] at hK;exact hK
   ·cases ht
  ·cases ht
 | st::st'::r,sub,u,l,l',ts,k,K,hne,h,ht,hK=>by
  simp only [ql] at ht;simp only [oS] at h;split at ht
  ·rename_i s u' l0 e1 e2;rw [e1,e2] at h;obtain ⟨h1,h4⟩:=h;split at ht
   ·rename_i l2 hl2;split at ht
    ·rename_i x hx;simp only [V6] at ht;subst ht;obtain ⟨_,e⟩:=nQ hx;have e3:(ao u (l.getD st.idx (dflt u)))[st.off]? = some (.li (l0.map (ao u'))):=by
      rw [<- bz,Wa,e2]; rfl
     refine tg (gU l h1) e1 e3 (DF hne h4 hl2 ?_);rw [WS,e] at hK;exact hK
    ·cases ht
   ·cases ht
  ·cases ht
theorem Ar:∀ {m:Mm} {n:Nm} {r r':Root},cy (cy m n r) n r'=cy m n r'
 | [],_,_,_=>rfl
 | (k,x)::m,n,r,r'=>by
  simp only [cy];by_cases h:k=n
  ·rw [if_pos h,if_pos h]; simp only [cy,if_pos h]
  ·rw [if_neg h,if_neg h]; simp only [cy,if_neg h,Ar]
theorem zo:∀ {m:Mm} {n:Nm} {r:Root},ae m n=some r->cy m n r=m
 | [],_,_,h=>by simp [ae] at h
 | (k,x)::m,n,r,h=>by
  simp only [ae] at h;simp only [cy];by_cases hk:k=n
  ·rw [if_pos hk] at h ⊢;rw [Option.some.inj h]
  ·rw [if_neg hk] at h ⊢;rw [zo h]
theorem tE {K:S->Prop}:∀ {ts:List T} {s:S} {p:Pl} {r:Root} {sub:List Sh} {l:List (List D)} {st:Step} {q:List Step},ae s.m p.root=some r->p.path=st::q->r.cells[p.off]? = some (.ow sub l)->ts.all CM=true->(∀ t∈ts,t≠.d .any) ->
  fB sub l ts (st::q) (fun l'=>K ⟨s.t,cy s.m p.root { r with cells:=r.cells.set p.off (.ow sub l') }⟩)->cN s p ts K
 | [],s,p,r,sub,l,st,q,hr,hp,hc,_,_,h=>by
  have e1:r.cells.set p.off (.ow sub l)=r.cells:=by
   apply Xl
   intro n;rw [W3];split
   ·rename_i e; subst e; rw [if_pos (ai hc)]; exact hc.symm
   ·rfl
  simp only [fB,e1] at h;have:cy s.m p.root r=s.m:=zo hr
  rw [show ({ blk:=r.blk,cells:=r.cells }:Root)=r from rfl,this] at h;exact h
 | t::ts,s,p,r,sub,l,st,q,hr,hp,hc,hd,hn,h=>by
  simp only [Wl,V7] at hd;have key:cN s p (t::ts) K=oO s.m p t fun m'=>cN ⟨s.t,m'⟩ (p.add 1) ts K:=by
   cases t with
   | d c=>cases c with
    | any=>exact ((hn _ (by simp)) rfl).elim
    | _=>rfl
   | nil=>rfl
   | _=>have:=hd.1; simp [CM] at this
  rw [key];unfold oO;rw [hr];dsimp only;rw [hp,hc];dsimp only;simp only [fB] at h;refine jy (fun l1 h1=>?_) h;have hlt:=ai hc
  have ep:(p.add 1).root=p.root/\(p.add 1).off=p.off/\(p.add 1).path=aI (st::q) 1:=by
   obtain ⟨pr,po,pp⟩:=p;dsimp only at hp;subst hp;exact ⟨rfl,rfl,rfl⟩
  obtain ⟨st2,q2,e⟩:∃ st2 r2,aI (st::q) 1=st2::r2:=by
   cases q with
   | nil=>exact ⟨_,_,rfl⟩
   | cons a b=>exact ⟨_,_,rfl⟩
  rw [e] at h1;refine tE (s:=⟨s.t,cy s.m p.root { r with cells:=r.cells.set p.off (.ow sub l1) }⟩) (p:=p.add 1) (r:={ r with cells:=r.cells.set p.off (.ow sub l1) }) (sub:=sub) (l:=l1) (st:=st2) (q:=q2) ?_ (ep.2.2.trans e) ?_ hd.2 (fun t ht=>hn t (by simp [ht])) ?_
  ·rw [ep.1];show ae (cy s.m p.root _) p.root=_
   rw [ip hr,if_pos rfl]
  ·rw [ep.2.1];exact Wz hlt
  ·refine mr (fun l2 h2=>?_) h1;rw [ep.1,ep.2.1];dsimp only;rw [Ar,Xv];exact h2
theorem sy:∀ {ts:List Tt} {cs cs':List C} {off:Nat},iE cs off ts=some cs'->∀ t∈ts.map Tt.toT,t≠.d .any
 | [],_,_,_,_,t,ht=>by simp at ht
 | t::r,cs,cs',off,h,x,hx=>by
  cases t with
  | d c=>
   have hne:c≠.any:=by rintro rfl; simp [iE] at h
   have h':∃ cs0 o,iE cs0 o r=some cs':=by
    simp only [iE] at h;split at h
    ·cases h
    ·exact ⟨_,_,h⟩
    ·cases h
   obtain ⟨cs0,o,h'⟩:=h';rcases Wk.1 hx with rfl | hx
   ·intro e;simp only [Tt.toT,T.d.injEq] at e;cases c <;> first | exact hne rfl | (simp [C.toD] at e)
   ·exact sy h' x hx
  | nil=>
   simp only [iE] at h;split at h
   ·rcases Wk.1 hx with rfl | hx
    ·intro e; cases e
    ·exact sy h x hx
   ·cases h
  | _=>simp [iE] at h
theorem Aw:∀ {path:List Step} {sub:List Sh} {u:U} {l l':List (El u)} {ts:List Tt},ql sub u l ts path=some l'->(∀ t∈ts.map Tt.toT,t≠.d .any)/\(ts.map Tt.toT).all CM=true
 | [],_,_,_,_,_,h=>by simp [ql] at h
 | [st],_,_,_,_,_,h=>by
  simp only [ql] at h;split at h
  ·rename_i ho; exact ⟨sy ho,(wQ ho).2.1⟩
  ·cases h
 | st::st'::r,_,_,_,_,_,h=>by
  simp only [ql] at h;split at h
  ·split at h
   ·rename_i hl; exact Aw hl
   ·cases h
  ·cases h
end Go.Am
end

section
namespace Go.Am
def pX (P:Program) (s:S) (t u:TypeId) (x y:Operand) (d:Tmp) (k:S->Prop):Prop:=
 match (ty P t).k with
 | .sl e=>(ty P e).ok=true/\(ty P u).k.isSS=true/\((zcells P e).map (·.length))=some (ty P e).size /\
  match gB s (ty P e).size (ev s y) with
  | some (s1,sub1,ys)=>match gB s1 (ty P e).size (ev s1 x) with
   | some (s2,sub,l)=>sub1=sub/\Bm sub1.length ys/\l.length+ys.length<=4611686018427387904/\(l.length+ys.length)*(ty P e).bytes<=140737488355328 /\
    k (((s2.fresh (.gh d)).root (.gh d) ⟨false,[.ow sub (l++ys)]⟩).put (some d) (.one (.c (.rf ⟨.gh d,0,[]⟩))))
   | none=>False
  | none=>False
 | _=>False
section
variable {P:Program} {g:G} {s:S} {a:Act} {w:World} {H:FH} {γ:Gam} {F:Nm->Fp}
theorem UI {k:Nat} {sh:Sh} {x:D} {f:Fp} {y:Value} (hs:x.sure=true) (h:OD w H k sh x f y):jM y=true:=by
 cases sh with
 | fr=>exact Lc hs (jp.1 h).2
 | ow sub=>
  cases k with
  | zero=>cases x <;> first | (simp [OD] at h; done) | (simp [D.sure] at hs)
  | succ k=>
   cases x with
   | li l=>
    obtain ⟨a,c,_,_,rfl,_⟩:=kp h;rfl
   | any=>simp [D.sure] at hs
   | _=>simp [OD] at h
theorem Pd {k:Nat}:∀ {ss:List Sh} {xs:List D} {f:Fp} {vs:List Value},vs.length=xs.length->(∀ x∈xs,x.sure=true)->Cs (OD w H k) ss xs f vs->∀ u∈vs,jM u=true
 | [],[],_,vs,hl,_,_=>by
  have:vs=[]:=by simpa using hl
  subst this; simp
 | s::ss,x::xs,f,vs,hl,hx,h=>by
  obtain ⟨v,r,f1,f2,rfl,_,h1,h2⟩:=h;intro u hu;rcases Wk.1 hu with rfl | hu
  ·exact UI (hx x (by simp)) h1
  ·exact Pd (by simpa using hl) (fun y hy=>hx y (by simp [hy])) h2 u hu
 | [],_::_,_,_,_,_,h=>h.elim
 | _::_,[],_,_,_,_,h=>h.elim
theorem RO {k:Nat} {sub:List Sh} {ys:List (List D)} {f:Fp} {v:Value} (h:OD w H k (.ow sub) (.li ys) f v) (hok:Bm sub.length ys) :
  ∃ (kx:Nat) (gx:Fp) (ws:List Value),Src P w sub.length v ys.length ws/\Cs (OD w H kx) (List.replicate ys.length sub).flatten ys.flatten gx ws/\(∀ u∈ws,jM u=true)/\∀ b,gx b<=f b:=by
 cases k with
 | zero=>simp [OD] at h
 | succ k=>
  obtain ⟨ad,c,gg,vs,rfl,hlc,hlb,hlen,hvs,hcs,hwhere⟩:=kp h;refine ⟨k,gg,vs,?_,hcs,?_,?_⟩
  ·rcases hwhere with ⟨rfl,rfl,rfl,_⟩ | ⟨b,cs,ty,fz,rfl,hb,hfz,hcsz,rfl,hf⟩
   ·have:vs=[]:=by simpa using hvs
    subst this;exact mv
   ·refine rD hvs (fun j u hj=>?_);have hjl:=ai hj
    rw [Xc] at hjl;rw [Ww (by omega)] at hj;simp only [World.cell?,hb,W5,V9,if_false,Xu];simpa using hj
  ·refine Pd (by rw [hvs,cr _ _ hlen]) (fun x hx=>?_) hcs;rw [List.mem_flatten] at hx;obtain ⟨y,hy,hxy⟩:=hx;exact (hok y hy).2 x hxy
  ·intro b;rcases hwhere with ⟨rfl,rfl,rfl,hf0⟩ | ⟨b',cs,ty,fz,rfl,hb,hfz,hcsz,rfl,hf⟩
   ·have hv0:vs=[]:=by simpa using hvs
    have:∀ b,gg b=0:=by simpa [Cs] using hcs
    rw [this b]; exact WP _
   ·rw [hf]; omega
theorem wr (h:RX g s a w H γ F) {size:Nat} {x:AV} {v:Value} {s1:S} {sub:List Sh} {l:List (List D)} (hx:AR w H γ s.m x v) (hb:gB s size x=some (s1,sub,l)) :
  ∃ k f F1,OD w H k (.ow sub) (.li l) f v/\RX g s1 a w H γ F1/\sub.length=size/\(∀ b,tot F1 s1.m b+f b=tot F s.m b)/\(∀ b,f b≠0->b<w.heap.size/\(∀ o,H b o=none)/\(g.own0 b≠0\/g.w0.heap.size<=b)):=by
 match x,hb with
 | .one (.c .nil),hb=>
  simp only [gB,V6,Prod.mk.injEq] at hb;obtain ⟨rfl,rfl,rfl⟩:=hb;obtain ⟨_,rfl⟩:=hx;refine ⟨1,fun _=>0,F,?_,h,by simp,fun b=>rfl,fun b hb=>absurd rfl hb⟩;rw [fI]; exact .inl ⟨rfl,rfl,fun _=>rfl⟩
 | .one (.c (.rf q)),hb=>
  simp only [gB] at hb;cases hg:aU s.m q with
  | none=>rw [hg] at hb; simp at hb
  | some t=>
   rw [hg] at hb;cases t with
   | ow sub' l'=>
    dsimp only at hb;split at hb
    ·rename_i hsz;simp only [V6,Prod.mk.injEq] at hb;obtain ⟨rfl,rfl,rfl⟩:=hb;obtain ⟨_,hok,hv⟩:=hx;obtain ⟨v',f,F',e1,⟨k,e2⟩,e3,e4⟩:=Ft h (f5 hok) hg;rw [hv] at e1;obtain rfl:v=v':=by simpa using e1
     exact ⟨k,f,F',e2,e3,hsz,e4,fun b hb=>by
      have hne:tot F s.m b≠0:=by have:=e4 b; omega
      exact ⟨h.mem.lt b hne,h.mem.nofz b hne,h.fr.tt b hne⟩⟩
    ·simp at hb
   | _=>simp at hb
theorem Ec (h:RX g s a w H γ F) {t u tt:TypeId} {x y:Operand} {d:Tmp} {k:S->Prop} (hd:okD g.nt (some d)=true) (hx:aX x=true) (hy:aX y=true) (hK:pX P s t u x y d k) :
  ∃ s' z w' H' γ' F',(Builtin.append_ #[t,u] tt #[a.eval x,a.eval y]).run P w=.ok z w'/\k s'/\RX g s' (a.put (some d) z) w' H' γ' F':=by
 unfold pX at hK;cases hk:(ty P t).k with
 | sl e=>
  rw [hk] at hK;obtain ⟨hok,hss,hzl,hK⟩:=hK;obtain ⟨_,td,hit,hud,htk,_⟩:=bW hk (by simp);have:=mS htk
  subst this;obtain ⟨ie,de,hie,_,_,hsize,hbytes,_⟩:=eF hok;rw [hsize,hbytes] at hK;rw [hsize] at hzl;obtain ⟨zs,hzs,hzl⟩:=WN.1 hzl;obtain ⟨it',z,hi',hz,hzc,_⟩:=kA hzs;rw [hie] at hi';obtain rfl:ie=it':=by simpa using hi'
  have hzsz:z.cells.size=ie.size:=by rw [<- hzl,<- hzc]; simp
  obtain ⟨ud,huu,hudd⟩:∃ ud,P.underlying u=some ud/\isSS ud=true:=by
   have hne:(ty P u).k≠.ot:=fun e=>by rw [e] at hss; simp [TK.isSS] at hss
   obtain ⟨_,ud,_,h2,h3,_⟩:=bW rfl hne;refine ⟨ud,h2,?_⟩;rw [<- h3] at hss;cases ud <;> first | rfl | (simp [mO,TK.isSS] at hss)
  cases hsr:gB s ie.size (ev s y) with
  | none=>rw [hsr] at hK; exact hK.elim
  | some q1=>
   obtain ⟨s1,sub1,ys⟩:=q1;rw [hsr] at hK;dsimp only at hK;obtain ⟨k1,f1,F1,d1,h1,d3,d4,d5⟩:=wr h (bg h hy) hsr;cases hbs:gB s1 ie.size (ev s1 x) with
   | none=>rw [hbs] at hK; exact hK.elim
   | some q=>
    obtain ⟨s2,sub,l⟩:=q;rw [hbs] at hK;obtain ⟨hsub,hrows,hb62,hby,hK⟩:=hK;subst hsub;obtain ⟨kb,f,F2,b1,b2,b3,b4',b5⟩:=wr h1 (bg h1 hx) hbs;have b4:∀ b,tot F2 s2.m b+f b+f1 b<=1:=fun b=>by have:=b4' b; have:=d4 b; have:=h.mem.le1 b; omega
    obtain ⟨kx,gx,ws,r1,r2,r3,r4⟩:=RO (P:=P) d1 hrows;rw [d3] at r1;obtain ⟨z',w',f',c1,⟨k',c2⟩,c3,c4,c5,c6,c7,c8,c9⟩:=xu (tt:=tt) hud huu hudd hie hz hzsz (gx:=gx) (kx:=kx) b3 b1 r1 (fun y hy=>(hrows y hy).1)
     r2 r3 (fun b=>by have:=b4 b; have:=r4 b; omega) (fun b hb=>by rcases hb with hb | hb; exact (b5 b hb).1; exact (d5 b (by have:=r4 b; omega)).1) hb62 hby
    have hX:=E9 b2 c3 c4 c5 c6 (fun b hb=>by
     rcases c7 b hb with h3 | h3
     ·exact .inl h3
     ·exact .inr ⟨by have:=b4 b; omega,(b5 b h3.1).2.1,(b5 b h3.1).2.2,h3.2⟩)
    have hX2:=gl hX (.gh d)
    have hn:=gb hX (.gh d)
    have hHnew:∀ b,w.heap.size<=b->∀ o,H b o=none:=by
     intro b hb o;cases hc:H b o with
     | none=>rfl
     | some y=>have:=World.block_lt_of_cell? _ _ (h1.mem.agree _ _ _ hc); simp at this; omega
    have hts:∀ b,tot F2 (s2.fresh (.gh d)).m b<=tot F2 s2.m b:=by
     intro b;unfold S.fresh;split
     ·exact Wb _
     ·show tot F2 (aH _ _) b<=_
      rw [br]; exact iC
    have htz:tot F2 s2.m w.heap.size=0:=by
     rcases WQ (tot F2 s2.m w.heap.size) with h' | h'
     ·exact h'
     ·have:=b2.mem.lt w.heap.size (by omega); omega
    have own:∀ b,f' b≠0->b≠w.heap.size->b<w.heap.size/\(∀ o,H b o=none)/\(g.own0 b≠0\/g.w0.heap.size<=b):=by
     intro b hb hb2;have h5:=c8 b
     have h6:=r4 b
     rw [if_neg hb2] at h5;by_cases hf:f b=0
     ·exact d5 b (by omega)
     ·exact b5 b hf
    obtain ⟨γ',F',hX3,hγ⟩:=kE hX2 (n:=.gh d) rfl hn (v:=z') (t:=.ow sub1 (l++ys)) (f:=f') ⟨k',c2⟩ (fun b=>by
      have h3:=hts b; have h4:=b4 b; have h5:=c8 b; have h6:=r4 b
      by_cases hb:b=w.heap.size
      ·subst hb;have e1:f w.heap.size=0:=by
        rcases WQ (f w.heap.size) with h' | h'
        ·exact h'
        ·have:=(b5 w.heap.size (by omega)).1; omega
       have e2:f1 w.heap.size=0:=by
        rcases WQ (f1 w.heap.size) with h' | h'
        ·exact h'
        ·have:=(d5 w.heap.size (by omega)).1; omega
       rw [if_pos rfl] at h5; omega
      ·rw [if_neg hb] at h5; omega)
     (fun b hb=>⟨c9 b hb,by
      by_cases hb2:b=w.heap.size
      ·subst hb2; exact hHnew _ (Wb _)
      ·exact (own b hb hb2).2.1⟩)
     (fun b hb=>by
      by_cases hb2:b=w.heap.size
      ·right; have:=b2.fr.size; omega
      ·exact (own b hb hb2).2.2)
    refine ⟨_,z',w',H,γ',F',c1,hK,RX.put hX3 hd (pQ (sub:=sub1) (l:=l++ys) ?_ hγ)⟩;simp [ae]
 | _=>rw [hk] at hK; exact hK.elim
end
end Go.Am
end

section
namespace Go.Am
def fzS:List Sh->List T->Option (List D)
 | [],[]=>some []
 | .fr::ss,t::ts=>match fzS ss ts with
  | some r=>some (t.fz::r)
  | none=>none
 | .ow _::ss,.nil::ts=>match fzS ss ts with
  | some r=>some (.li []::r)
  | none=>none
 | _,_=>none
section
variable {P:Program} {g:G} {s:S} {a:Act} {w:World} {H:FH} {γ:Gam} {F:Nm->Fp}
theorem Jd {k:Nat} {m:Mm}:∀ {ss:List Sh} {ts:List T} {xs:List D} {f:Fp} {vs:List Value},(∀ b,f b=0)->fzS ss ts=some xs->Ts (TR w H γ m) ts f vs ->
  Cs (OD w H (k+1)) ss xs f vs
 | [],[],xs,_,_,hf,hz,_=>by
  simp only [fzS,V6] at hz; subst hz; exact hf
 | .fr::ss,t::ts,xs,f,vs,hf,hz,h=>by
  simp only [fzS] at hz;cases h5:fzS ss ts with
  | none=>rw [h5] at hz; cases hz
  | some r0=>
   rw [h5] at hz;simp only [V6] at hz;subst hz;obtain ⟨v,r,f1,f2,h1,h2,h3,h4⟩:=h;refine ⟨v,r,f1,f2,h1,h2,?_,Jd (fun b=>by have:=hf b; have:=h2 b; omega) h5 h4⟩;rw [jp];refine ⟨fun b=>by have:=hf b; have:=h2 b; omega,?_⟩;cases t with
   | d x=>exact h3.2
   | nil=>obtain ⟨_,rfl⟩:=h3; exact qy
   | _=>exact ⟨0,trivial⟩
 | .ow sub::ss,.nil::ts,xs,f,vs,hf,hz,h=>by
  simp only [fzS] at hz;cases h5:fzS ss ts with
  | none=>rw [h5] at hz; cases hz
  | some r0=>
   rw [h5] at hz;simp only [V6] at hz;subst hz;obtain ⟨v,r,f1,f2,h1,h2,h3,h4⟩:=h;refine ⟨v,r,f1,f2,h1,h2,?_,Jd (fun b=>by have:=hf b; have:=h2 b; omega) h5 h4⟩;obtain ⟨_,rfl⟩:=h3;rw [fI];exact .inl ⟨rfl,rfl,fun b=>by have:=hf b; have:=h2 b; omega⟩
 | [],_::_,_,_,_,_,hz,_=>by simp [fzS] at hz
 | .fr::_,[],_,_,_,_,hz,_=>by simp [fzS] at hz
 | .ow _::_,[],_,_,_,_,hz,_=>by simp [fzS] at hz
 | .ow _::_,.d _::_,_,_,_,_,hz,_=>by simp [fzS] at hz
 | .ow _::_,.ow _ _::_,_,_,_,_,hz,_=>by simp [fzS] at hz
 | .ow _::_,.el _ _::_,_,_,_,_,hz,_=>by simp [fzS] at hz
 | .ow _::_,.pl _::_,_,_,_,_,hz,_=>by simp [fzS] at hz
 | .ow _::_,.rf _::_,_,_,_,_,hz,_=>by simp [fzS] at hz
 | .ow _::_,.any::_,_,_,_,_,hz,_=>by simp [fzS] at hz
theorem GE (h:RX g s a w H γ F) {n:Nm} (hno:n.isOut=false) (hn:ae s.m n=none) {cs:Array Value} {ty':TypeId} {len cap:Nat} {sub:List Sh} {l:List (List D)} (hl:l.length=len) (hle:len<=cap) (hbig:len<=BIG)
  (hx:∀ x∈l,x.length=sub.length) (hsz:cs.size=cap*sub.length) (hcs:∀ k,Cs (OD w H (k+1)) (List.replicate len sub).flatten l.flatten (fun _=>0) cs.toList) :
  ∃ γ' F',RX g (s.root n ⟨false,[.ow sub l]⟩) a (w.alloc (.cells cs ty')) H γ' F'/\γ' n=.gh (.slice (some ⟨w.heap.size,0,none⟩) len cap):=by
 obtain ⟨hm,hf,hK,hH⟩:=rH h.mem cs ty' false;simp only [V9,false_and,if_false] at hm hf hK hH;have hX:RX g s a (w.alloc (.cells cs ty')) H γ F:=gj h hm hf (fun i=>cE hK (fun _ _ _ h=>h) (h.t i)) (fun _=>rfl)
 have hz:tot F s.m w.heap.size=0:=by
  rcases WQ (tot F s.m w.heap.size) with h' | h'
  ·exact h'
  ·have:=h.mem.lt w.heap.size (by omega); omega
 have hHz:∀ o,H w.heap.size o=none:=by
  intro o;cases hc:H w.heap.size o with
  | none=>rfl
  | some y=>have:=World.block_lt_of_cell? _ _ (h.mem.agree _ _ _ hc); simp at this
 have hcs':∀ k,Cs (OD (w.alloc (.cells cs ty')) H (k+1)) (List.replicate len sub).flatten l.flatten (fun _=>0) cs.toList:=by
  intro k;refine lr _ _ _ _ (fun s x g v hg hod=>?_) (hcs k);exact dG (fun _ _ _ h=>h) (k+1) (k+1) _ _ _ _ (Wb _) (fun b hb=>absurd (Nat.le_zero.1 (hg b)) hb) hod
 subst hl;have hod:TR (w.alloc (.cells cs ty')) H γ s.m (.ow sub l) (fun b=>0+if b=w.heap.size then 1 else 0) (.slice (some ⟨w.heap.size,0,none⟩) l.length cap):=
  ⟨2,Bw (cx) rfl hsz hle hbig hx (hcs' 0)⟩
 exact kE hX hno hn hod (fun b=>by
   by_cases hb:b=w.heap.size
   ·subst hb; rw [hz]; simp
   ·rw [if_neg hb]; have:=h.mem.le1 b; omega)
  (fun b hb=>by
   have hb':b=w.heap.size:=by
    by_cases hb':b=w.heap.size
    ·exact hb'
    ·rw [if_neg hb'] at hb; simp at hb
   subst hb';exact ⟨by simp,hHz⟩)
  (fun b hb=>by
   have hb':b=w.heap.size:=by
    by_cases hb':b=w.heap.size
    ·exact hb'
    ·rw [if_neg hb'] at hb; simp at hb
   right; have:=h.fr.size; omega)
def g7 (P:Program) (s0:S) (t:TypeId) (len:Nat) (sub:List Sh) (ps:Array (Nat×Operand)) (d:Tmp) (k:S->Prop):Prop:=
 match (ty P t).k with
 | .sl e=>(ty P e).ok=true/\(zcells P e).isSome=true/\len*(ty P e).size<=16777216/\len<=16777216/\sub.length=(ty P e).size /\
  let s:=(gO s0 (ps.toList.map fun x=>ev s0 x.2)).fresh (.gh d)
  match gR (fun i=>some (i*(ty P e).size,(ty P e).size)) (List.replicate (len*(ty P e).size) .any) (iR s ps) with
  | some ts=>match fzS (List.replicate len sub).flatten ts with
   | some xs=>k ((s.root (.gh d) ⟨false,[.ow sub (chunk (ty P e).size len xs)]⟩).put (some d) (.one (.c (.rf ⟨.gh d,0,[]⟩))))
   | none=>False
  | none=>False
 | _=>False
theorem uk (h:RX g s a w H γ F) {t:TypeId} {len:Nat} {ps:Array (Nat×Operand)} {d:Tmp} {sub:List Sh} {k:S->Prop} (hd:okD g.nt (some d)=true) (hp:(ps.toList.all fun x=>aX x.2)=true) (hK:g7 P s t len sub ps d k) :
  ∃ s' y w' H' γ' F',(Instr.buildSlice t len (ps.map fun (i,x)=>(i,a.eval x))).run P w=.ok y w'/\k s'/\RX g s' (a.put (some d) y) w' H' γ' F':=by
 unfold g7 at hK;cases hk:(ty P t).k with
 | sl e=>
  rw [hk] at hK;obtain ⟨hok,hzc,hsmall,hlb,hsl,hK⟩:=hK;obtain ⟨_,td,hit,hud,htk,_⟩:=bW hk (by simp);have:=mS htk
  subst this;obtain ⟨ie,de,hie,_⟩:=eF hok;have hsize:(ty P e).size=ie.size:=by
   obtain ⟨ie',_,hie',_,_,hs,_⟩:=eF hok;rw [hie] at hie';obtain rfl:ie=ie':=by simpa using hie'
   exact hs
  obtain ⟨zs,hzs⟩:=Option.isSome_iff_exists.1 hzc;obtain ⟨it',z,hi',hz,_⟩:=kA hzs;rw [hie] at hi';obtain rfl:ie=it':=by simpa using hi'
  obtain ⟨H1,F1,h1⟩:=iB (ps.toList.map fun x=>ev s x.2) s H F h;have h2:=gl h1 (.gh d)
  have hn:=gb h1 (.gh d)
  dsimp only at hK;generalize (gO s (ps.toList.map fun x=>ev s x.2)).fresh (.gh d)=s2 at hK h2 hn;cases hf:gR (fun i=>some (i*(ty P e).size,(ty P e).size)) (List.replicate (len*(ty P e).size) .any) (iR s2 ps) with
  | none=>rw [hf] at hK; exact hK.elim
  | some ts=>
   rw [hf] at hK;dsimp only at hK;rw [hsize] at hf hK hsmall hsl;have hpr:PR w H1 γ s2.m (iR s2 ps) (ps.map fun (i,x)=>(i,a.eval x)).toList:=by
    rw [Array.toList_map];exact pW (m:=s2.m) h2 hp
   have hfill:∀ us:Array Value,us.size=len*ie.size->∃ cs,Instr.fill (fun i=>some (i*ie.size,ie.size)) us (ps.map fun (i,x)=>(i,a.eval x)).toList=some cs/\cs.size=ts.length/\Ts (TR w H1 γ s2.m) ts (fun _=>0) cs.toList:=by
    intro us hus;refine uL h2.mem _ _ _ us ts hpr (by simpa using hus) ?_ hf;have:=Gh (w:=w) (H:=H1) (γ:=γ) (m:=s2.m) (vs:=us.toList)
    rw [show us.toList.length=len*ie.size from by simpa using hus] at this;exact this
   have hlen:ts.length=len*ie.size:=by rw [lb hf]; simp
   obtain ⟨us,cs,u1,u2,u3⟩:=lS (P:=P) (w:=w) (t:=t) (e:=e) (len:=len) (vs:=ps.map fun (i,x)=>(i,a.eval x)) (cells:=#[]) hud hie hz (by omega) (fun us hus=>by
    obtain ⟨cs,c1,c2,_⟩:=hfill us hus;exact ⟨cs,c1,by rw [c2,hlen],.inr trivial⟩)
   obtain ⟨cs',c1,c2,c3⟩:=hfill us u1;rw [u2] at c1;obtain rfl:cs=cs':=by simpa using c1
   cases hz2:fzS (List.replicate len sub).flatten ts with
   | none=>rw [hz2] at hK; exact hK.elim
   | some xs=>
    rw [hz2] at hK;dsimp only at hK;have hcs:∀ k,Cs (OD w H1 (k+1)) (List.replicate len sub).flatten xs (fun _=>0) cs.toList:=fun k=>Jd (fun _=>rfl) hz2 c3
    have hmap:xs.length=len*ie.size:=by
     have h5:=(zh _ _ _ _ (hcs 0)).1
     rw [<- h5,cr sub.length _ (fun x hx=>by rw [(List.mem_replicate.1 hx).2]),List.length_replicate,hsl]
    obtain ⟨γ',F',hX,hγ⟩:=GE h2 (n:=.gh d) rfl hn (cs:=cs) (ty':=e) (len:=len) (cap:=len) (sub:=sub) (l:=chunk ie.size len xs) lA (Wb _) (by
      show len<=2 ^ 62
      omega) (by rw [hsl]; exact sE hmap) (by rw [c2,hlen,hsl]) (fun k=>by
       rw [oM hmap];exact hcs k)
    refine ⟨_,_,_,H1,γ',F',u3,hK,RX.put hX hd (pQ (sub:=sub) (l:=chunk ie.size len xs) ?_ hγ)⟩;simp [S.root,ae]
 | _=>rw [hk] at hK; exact hK.elim
end
end Go.Am
end

section
namespace Go.Am
abbrev upS (k:St->Prop):S->Prop:=fun s'=>∃ t:St,SEq s' t.toS/\k t
theorem GW {P:Program} {t:TypeId} {zs:List Value} (h:zcells P t=some zs):zs.all okT=true:=by
 unfold zcells at h;split at h
 ·split at h
  ·split at h
   ·rename_i hz;simp only [V6] at h;subst h;simpa using hz
   ·cases h
  ·cases h
 ·cases h
section
variable {P:Program} {s:St} {k:St->Prop}
theorem Ni {t:TypeId} {d:Tmp} (hn:ND s.m) (h:sv P s t d k):rv P s.toS t d (upS k):=by
 unfold sv at h;split at h
 ·rename_i z zs hz;split at h
  ·rename_i hd;unfold rv;rw [hz];refine ⟨by simp,Wh hd,_,?_,h⟩;have e:((s.fresh (lL t d)).root (lL t d) ⟨true,(z::zs).map qX,none⟩).toS=(s.toS.fresh (lL t d)).root (lL t d) ⟨true,(z::zs).map nY⟩:=by
    rw [<- eA hn,<- JA (GW hz)]; rfl
   rw [<- e];exact bY ((s.fresh (lL t d)).root (lL t d) ⟨true,(z::zs).map qX,none⟩) (some d) (.one (.c (.pl ⟨lL t d,0,[]⟩)))
  ·exact h.elim
 ·exact h.elim
theorem Sz {x:Operand} {d:Tmp} (hn:ND s.m) (hx:aX x=true) (h:LI s x d k):Mv s.toS x d (upS k):=by
 unfold LI at h;split at h
 ·rename_i t ts hc;split at h
  ·rename_i hd;simp only [V7] at hd;unfold Mv;rw [<- eA hn,ax hx,pG,hc];dsimp only [Option.map_some];refine ⟨by simp,?_,Wh hd.2,_,?_,h⟩
   ·rw [XK,<- hd.1]; congr 1; funext t; exact Dv t
   ·exact bY ((s.fresh (.loc d)).root (.loc d) ⟨true,t::ts,none⟩) (some d) (.one (.c (.pl ⟨.loc d,0,[]⟩)))
  ·exact h.elim
 ·exact h.elim
theorem Lo {u:U} {t:Tt} {x:El u} (h:EQ u t=some x):t.toT.fz=(gL u x).toD:=by
 unfold EQ at h;split at h
 ·rename_i c; rw [kD h];rfl
 ·split at h
  ·simp only [V6] at h; subst h; rfl
  ·cases h
 ·cases h
theorem Dt:∀ {us:List U} {ts:List Tt} {x:Fl us},jv us ts=some x->ts.map (fun t=>t.toT.fz)=(dK us x).map C.toD
 | [],[],_,_=>rfl
 | u::r,c::cs,x,h=>by
  simp only [jv] at h;cases h1:EQ u c with
  | none=>rw [h1] at h; cases h
  | some y=>
   cases h2:jv r cs with
   | none=>rw [h1,h2] at h; cases h
   | some z=>
    rw [h1,h2] at h;simp only [V6] at h;subst h;rw [dK,jB,jh,List.map_cons,List.map_cons,Lo h1,Dt h2]
 | [],_::_,_,h=>by simp [jv] at h
 | _::_,[],_,h=>by simp [jv] at h
theorem Ss {u:U} {ts:List Tt} {x:El u} (h:je u ts=some x):ts.map (fun t=>t.toT.fz)=ao u x:=by
 rw [<- bz];cases u with
 | st n=>
  simp only [je] at h;cases h1:jv (sd n).fs ts with
  | none=>rw [h1] at h; cases h
  | some y=>
   rw [h1] at h;have:=Option.some.inj h
   subst this;show _=(dK (sd n).fs ((sd n).un ((sd n).mkF y))).map C.toD
   rw [(sd n).l2,Dt h1]
 | _=>
  cases ts with
  | nil=>cases h
  | cons t r=>cases r with
   | nil=>rw [kg rfl]; simp only [List.map_cons,List.map_nil]; rw [Lo h]
   | cons _ _=>cases h
theorem oG {u:U}:∀ {rows:List (List Tt)} {l:List (El u)},lf u rows=some l->rows.map (fun r=>r.map fun t=>t.toT.fz)=l.map (ao u)
 | [],l,h=>by simp only [lf,V6] at h; subst h; rfl
 | r::rs,l,h=>by
  simp only [lf] at h;cases h1:je u r with
  | none=>rw [h1] at h; cases h
  | some x=>
   cases h2:lf u rs with
   | none=>rw [h1,h2] at h; cases h
   | some xs=>
    rw [h1,h2] at h;simp only [V6] at h;subst h;rw [List.map_cons,List.map_cons,Ss h1,oG h2]
theorem s5 {α β:Type} (f:α->β) (size:Nat):∀ (n:Nat) (l:List α),chunk size n (l.map f)=(chunk size n l).map (·.map f)
 | 0,_=>rfl
 | n+1,l=>by simp only [chunk,List.map_cons,XG]; rw [<- XH,s5 f size n]
theorem DD {ps:Array (Nat×Operand)} (h:(lg s ps).all (fun x=>x.2.noRf)=true):(ps.toList.map fun x=>evA s x.2).all At.noRf=true:=by
 unfold lg at h;rw [XK] at h ⊢;exact h
theorem JE {xs:List (Nat×Operand)} (h:(xs.all fun x=>aX x.2)=true):(xs.map fun x=>ev s.toS x.2)=(xs.map fun x=>evA s x.2).map At.toV:=by
 rw [Wo];exact Ws fun x hx=>ax (Wj.1 h x hx)
theorem wt {E:Ut} {t:TypeId} {len:Nat} {ps:Array (Nat×Operand)} {d:Tmp} (hps:(ps.toList.all fun x=>aX x.2)=true)
  (hn:ND (b9 s (ps.toList.map fun x=>evA s x.2)).m) (h:eZ P E s t len ps d k):eT P (b9 s (ps.toList.map fun x=>evA s x.2)).toS t len ps d (upS k):=by
 unfold eZ at h;split at h
 ·rename_i e ht;split at h
  ·rename_i u z he hz;split at h
   ·rename_i hc;simp only [V7] at hc;obtain ⟨⟨⟨c1,c2⟩,c3⟩,c4⟩:=hc;have hsz:=Wg c2
    dsimp only at h;generalize hs1:b9 s (ps.toList.map fun x=>evA s x.2)=s1 at h hn;split at h
    ·rename_i ts hf hno;split at h
     ·rename_i l hl;unfold eT;rw [ht];dsimp only;refine ⟨c1,by rw [hz]; rfl,by rw [<- hsz]; exact Wh c3,Wh c4,?_⟩;rw [JE hps,fJ (DD hno),<- eA hn,rF hps,<- hsz];have hf':=nI hf
      rw [List.map_replicate] at hf';have e0:Tt.any.toT=T.any:=rfl
      rw [e0] at hf';rw [hf'];dsimp only;refine ⟨_,?_,h⟩;have er:(⟨false,[.ow (List.replicate (nc u) .fr) u l],none⟩:Rt).toR=⟨false,[.ow (List.replicate (nc u) .fr) (chunk (nc u) len ((ts.map Tt.toT).map T.fz))]⟩:=by
       have e2:chunk (nc u) len ((ts.map Tt.toT).map T.fz)=l.map (ao u):=by rw [Wo,s5]; exact oG hl
       rw [e2]; rfl
      rw [<- er];exact bY ((s1.fresh (.gh d)).root (.gh d) ⟨false,[.ow (List.replicate (nc u) .fr) u l],none⟩) (some d) (.one (.c (.rf ⟨.gh d,0,[]⟩)))
     ·exact h.elim
    ·exact h.elim
   ·exact h.elim
  ·exact h.elim
 ·exact h.elim
theorem xr:∀ {ss:List Sh} {ts:List Tt},ox ss ts=true->fzS ss (ts.map Tt.toT)=some (ts.map fun t=>t.toT.fz)
 | [],[],_=>rfl
 | .fr::r,t::ts,h=>by
  simp only [List.map_cons,fzS];rw [xr (show ox r ts=true from h)]
 | .ow sub::r,t::ts,h=>by
  cases t with
  | nil=>
   simp only [List.map_cons,Tt.toT,fzS];rw [xr (show ox r ts=true from h)]; rfl
  | _=>simp [ox] at h
 | [],_::_,h=>by simp [ox] at h
 | .fr::_,[],h=>by simp [ox] at h
 | .ow _::_,[],h=>by simp [ox] at h
theorem t7 {E:Ut} {sub:List Sh} {t:TypeId} {len:Nat} {ps:Array (Nat×Operand)} {d:Tmp} (hps:(ps.toList.all fun x=>aX x.2)=true)
  (hn:ND (b9 s (ps.toList.map fun x=>evA s x.2)).m) (h:eh P E sub s t len ps d k):g7 P (b9 s (ps.toList.map fun x=>evA s x.2)).toS t len sub ps d (upS k):=by
 unfold eh at h;split at h
 ·rename_i e ht;split at h
  ·rename_i u z he hz;split at h
   ·rename_i hc;simp only [V7] at hc;obtain ⟨⟨⟨⟨c1,c2⟩,c3⟩,c4⟩,c5⟩:=hc;have hsz:=Wg c2
    dsimp only at h;generalize hs1:b9 s (ps.toList.map fun x=>evA s x.2)=s1 at h hn;split at h
    ·rename_i ts hf hno;split at h
     ·rename_i l hl hsub;unfold g7;rw [ht];dsimp only;refine ⟨c1,by rw [hz]; rfl,by rw [<- hsz]; exact Wh c3,Wh c4,by rw [<- hsz]; exact Wg c5,?_⟩;rw [JE hps,fJ (DD hno),<- eA hn,rF hps,<- hsz];have hf':=nI hf
      rw [List.map_replicate] at hf';have e0:Tt.any.toT=T.any:=rfl
      rw [e0] at hf';rw [hf'];dsimp only;rw [xr hsub];dsimp only;refine ⟨_,?_,h⟩;have er:(⟨false,[.ow sub u l],none⟩:Rt).toR=⟨false,[.ow sub (chunk (nc u) len (ts.map fun t=>t.toT.fz))]⟩:=by
       have e2:chunk (nc u) len (ts.map fun t=>t.toT.fz)=l.map (ao u):=by rw [s5]; exact oG hl
       rw [e2]; rfl
      rw [<- er];exact bY ((s1.fresh (.gh d)).root (.gh d) ⟨false,[.ow sub u l],none⟩) (some d) (.one (.c (.rf ⟨.gh d,0,[]⟩)))
     ·exact h.elim
    ·exact h.elim
   ·exact h.elim
  ·exact h.elim
 ·exact h.elim
theorem wP {m:List (Nm×Nat×Rt)} {n:Nm} {i:Nat} {r:Rt} (h:ND m):ND (fK m n i r):=by
 unfold ND; rw [Aa]; exact h
theorem LV (t:Tt):t.toT.owned=t.owned:=by cases t <;> rfl
theorem JL {p:Pl} {t:Tt} (h:ET s p t k) (hn:ND s.m):∃ m',(∀ K:Mm->Prop,K m'->oO s.toS.m p t.toT K)/\∃ s':St,s'.toS=⟨s.toS.t,m'⟩/\ND s'.m/\k s':=by
 unfold ET at h;split at h
 ·exact h.elim
 ·rename_i r hr;split at h
  ·rename_i t0 hpath hh hc;split at h
   ·rename_i ho;have ec:r.toR.cells=r.cells.map Tt.toT:=by show holed _ r.hole=_; rw [hh]; rfl
    refine ⟨cy s.toS.m p.root ⟨r.blk,(r.cells.map Tt.toT).set p.off t.toT⟩,fun K hK=>?_,_,?_,wP hn,h⟩
    ·unfold oO;rw [show ae s.toS.m p.root=some r.toR from bq hr];dsimp only;rw [hpath,ec,Wa,hc];exact ⟨by rw [LV]; exact ho,hK⟩
    refine bx.S_ext rfl ?_;show toM (fK s.m p.root s.nx _)=_
    rw [fo]
    congr 1
    simp only [Rt.toR,hh,holed,WS]
   ·exact h.elim
  ·rename_i st q sub u l hpath hh hc;split at h
   ·rename_i l' hl;have ec:r.toR.cells=r.cells.map Tt.toT:=by show holed _ r.hole=_; rw [hh]; rfl
    refine ⟨cy s.toS.m p.root ⟨r.blk,(r.cells.map Tt.toT).set p.off (.ow sub (l'.map (ao u)))⟩,fun K hK=>?_,_,?_,wP hn,AU h⟩
    ·unfold oO;rw [show ae s.toS.m p.root=some r.toR from bq hr];dsimp only;rw [hpath,ec,Wa,hc];exact DQ h hl hK
    refine bx.S_ext rfl ?_;show toM (fK s.m p.root s.nx _)=_
    rw [fo]
    congr 1
    simp only [Rt.toR,hh,holed,WS,Tt.toT]
   ·exact h.elim
  ·rename_i st q off st' q' sub u l hpath hh hc;split at h
   ·rename_i sh v lv hb;split at h
    ·rename_i l' hl;have hoff:off=p.off:=Wg hb
     subst hoff;obtain ⟨epath,hk⟩:=Ap (AU h);have hlt:p.off < (r.cells.map Tt.toT).length:=by rw [Wc]; exact ai hc
     simp only [List.cons.injEq] at epath;obtain ⟨rfl,rfl⟩:=epath;have ec:r.toR.cells=(r.cells.map Tt.toT).set p.off (.ow sub (bE sub (l.map (ao u)) .any (st'::q'))):=by
      show holed _ r.hole=_
      rw [hh]; exact Db _ _ hc
     refine ⟨cy s.toS.m p.root ⟨r.blk,(r.cells.map Tt.toT).set p.off (.ow sub (l'.map (ao u)))⟩,fun K hK=>?_,_,?_,wP hn,hk⟩
     ·unfold oO;rw [show ae s.toS.m p.root=some r.toR from bq hr];dsimp only;rw [hpath,ec,Wz hlt];refine Cw h hl ?_;rw [Xv];exact hK
     refine bx.S_ext rfl ?_;show toM (fK s.m p.root s.nx _)=_
     rw [fo]
     congr 1
     simp only [Rt.toR,holed,WS,Tt.toT]
    ·exact h.elim
   ·exact h.elim
  ·exact h.elim
theorem Qf (n:Nm) (t:Tt):t.toT.ment n=t.ment n:=by cases t <;> rfl
theorem py {K:S->Prop} (hK:∀ t:St,k t->K t.toS):∀ {ts:List Tt} {s:St} {p:Pl},ND s.m->ic s p ts k->cN s.toS p (ts.map Tt.toT) K
 | [],s,p,hn,h=>hK s h
 | t::ts,s,p,hn,h=>by
  have gen:∀ t:Tt,(∀ q,t≠.rf q)->t≠.any->t≠.d .any->ET s p t (fun s'=>ic s' (p.add 1) ts k)->cN s.toS p (t.toT::ts.map Tt.toT) K:=by
   intro t h1 h2 h3 h;obtain ⟨m',hp,s',e,hn',hk⟩:=JL h hn;have key:cN s.toS p (t.toT::ts.map Tt.toT) K=oO s.toS.m p t.toT fun m'=>cN ⟨s.toS.t,m'⟩ (p.add 1) (ts.map Tt.toT) K:=by
    cases t with
    | rf q=>exact (h1 q rfl).elim
    | any=>exact (h2 rfl).elim
    | d c=>cases c with
     | any=>exact (h3 rfl).elim
     | _=>rfl
    | _=>rfl
   rw [key];refine hp _ ?_;rw [<- e];exact py hK hn' hk
  cases t with
  | rf q=>
   simp only [ic] at h;split at h
   ·rename_i sub u l hr;split at h
    ·rename_i hpath hroot hall;simp only [List.map_cons,Tt.toT,cN];rw [show ae s.toS.m q.root=some (⟨false,[.ow sub u l],none⟩:Rt).toR from bq hr];refine ⟨hpath,by simpa using hroot,?_,?_⟩
     ·rw [XK,<- hall]; congr 1; funext t; simp only [Function.comp,Qf]
     ·rw [<- bx hn];obtain ⟨m',hp,s',e,hn',hk⟩:=JL h (JM hn);refine hp _ ?_;rw [<- e];exact py hK hn' hk
    ·exact h.elim
   ·exact h.elim
  | any=>exact h.elim
  | d c=>cases c with
   | any=>exact h.elim
   | _=>exact gen _ (fun _ h=>by cases h) (fun h=>by cases h) (fun h=>by cases h) h
  | _=>exact gen _ (fun _ h=>by cases h) (fun h=>by cases h) (fun h=>by cases h) h
theorem Jb {K:S->Prop} (hK:∀ t:St,k t->K t.toS) {p:Pl} {ts:List Tt} (hne:ts≠[]) (h:nR s p ts k):cN s.toS p (ts.map Tt.toT) K:=by
 unfold nR at h;split at h
 ·exact h.elim
 ·rename_i r hr;split at h
  ·rename_i st q sub u l hpath hh hc;split at h
   ·rename_i l' hl;have ec:r.toR.cells=r.cells.map Tt.toT:=by show holed _ r.hole=_; rw [hh]; rfl
    obtain ⟨a1,a2⟩:=Aw hl;refine tE (bq hr) hpath (sub:=sub) (l:=l.map (ao u)) (by rw [ec,Wa,hc]; rfl) a2 a1 (DF hne h hl ?_);have hk:=hK _ (AU h)
    have e:(⟨s.nx+1,s.t,fK s.m p.root s.nx { r with cells:=r.cells.set p.off (.ow sub u l') }⟩:St).toS=⟨s.toS.t,cy s.toS.m p.root { r.toR with cells:=r.toR.cells.set p.off (.ow sub (l'.map (ao u))) }⟩:=by
     refine bx.S_ext rfl ?_;show toM (fK s.m p.root s.nx _)=_
     rw [fo]
     congr 1
     simp only [Rt.toR,hh,holed,WS,Tt.toT]
    rw [e] at hk;exact hk
   ·exact h.elim
  ·exact h.elim
theorem LC {K:S->Prop} (hK:∀ t:St,k t->K t.toS) {t:TypeId} {x v:At} (hn:ND s.m) (h:sX P s t x v k):sb P s.toS t x.toV v.toV K:=by
 unfold sX at h;split at h
 ·rename_i p ts hv;split at h
  ·rename_i hc;simp only [V7] at hc;unfold sb;rw [pG,hv];refine ⟨hc.1.1,by rw [Wc]; exact Wg hc.1.2,by rw [Wc]; exact mf hc.2,?_⟩;split at h
   ·rename_i hrow;refine Jb hK (fun e=>?_) h;subst e;simp [Tk,Nat.blt] at hrow
   ·exact py hK hn h
  ·exact h.elim
 ·exact h.elim
theorem Ry {u:U} {v:At} {l:List (El u)} {size:Nat} (hs:nc u=size) (h:T7 u v=some l):gZ size v.toV=some (l.map (ao u))/\v.noRf=true:=by
 unfold T7 at h;split at h
 ·simp only [V6] at h; subst h; exact ⟨rfl,rfl⟩
 ·rename_i u' l';obtain ⟨e,rfl⟩:=jW h;subst e;exact ⟨rfl,rfl⟩
 ·rename_i b;split at h
  ·simp only [V6] at h;subst h;have:size=1:=hs.symm
   simp only [At.toV,A1.toV,Tt.toT,C.toD,gZ];rw [if_pos this];exact ⟨rfl,rfl⟩
  ·cases h
 ·cases h
theorem Fa {m:List (Nm×Nat×Rt)} {q:Pl} {r:Rt} {t:Tt} (hr:bK m q.root=some r) (hp:q.path=[]) (h:atT m q 1=some [t]):r.cells[q.off]? = some t:=by
 unfold atT at h;rw [hr] at h;dsimp only at h;rw [hp] at h;dsimp only at h;split at h
 ·rename_i hb;simp only [V6] at h;have:=congrArg (·[0]?) h
  simpa [List.getElem?_take,Wt] using this
 ·cases h
theorem u7 {u:U} {v:At} {s':St} {sub:List Sh} {l:List (El u)} {size:Nat} (hs:nc u=size) (hn:ND s.m) (hop:∀ q,v=.one (.c (.rf q))->okP (toM s.m) q) (h:tK s u v=some (s',sub,l)) :
  gB s.toS size v.toV=some (s'.toS,sub,l.map (ao u))/\ND s'.m/\Ext s s':=by
 unfold tK at h;split at h
 ·simp only [V6,Prod.mk.injEq] at h;obtain ⟨rfl,rfl,rfl⟩:=h;exact ⟨by rw [<- hs]; rfl,hn,Ext.refl _⟩
 ·rename_i q;split at h
  ·rename_i sub' u' l' hsl;split at h
   ·rename_i l2 s2 hcast hlen htake;simp only [V6,Prod.mk.injEq] at h;obtain ⟨rfl,rfl,rfl⟩:=h;obtain ⟨e,rfl⟩:=jW hcast;subst e;unfold Pw at htake;split at htake
    ·cases htake
    ·rename_i r hr;split at htake
     ·rename_i hpath hh;simp only [V6] at htake;have ht:atT s.m q 1=some [.ow sub' u' l']:=by
       unfold sliceAt at hsl;split at hsl
       ·rename_i a b c hat; cases hsl; exact hat
       ·cases hsl
      have hc:=Fa hr hpath ht
      have egr:ae s.toS.m q.root=some r.toR:=bq hr
      have ecs:r.toR.cells=r.cells.map Tt.toT:=by show holed _ r.hole=_; rw [hh]; rfl
      have egp:aU s.toS.m q=some (.ow sub' (l'.map (ao u'))):=by
       unfold aU;rw [egr,hpath];dsimp only;rw [ecs,Wa,hc]; rfl
      refine ⟨?_,?_,?_⟩
      ·simp only [At.toV,A1.toV,Tt.toT,gB];rw [egp];dsimp only;rw [if_pos (by rw [<- hs]; exact Wg hlen)]
       congr 2
       rw [<- htake];refine bx.S_ext (iu _ _ _).symm ?_;show _=toM (bw (thr q) s.nx (fK s.m q.root s.nx _))
       rw [dV,fo]
       congr 1
       unfold aY;rw [egr,hpath];dsimp only;show cy (toM s.m) q.root _=_
       congr 1
       simp only [Rt.toR,hh,holed,WS,Tt.toT]
      ·rw [<- htake]; exact BD.2 (wP hn)
      ·rw [<- htake];exact ⟨WZ _,fb (Wb _),(dH _ _ (Wb _) s.m).trans (ej (Wb _))⟩
     ·rename_i st pa hpath hh;simp only [V6] at htake;have ht:atT s.m q 1=some [.ow sub' u' l']:=by
       unfold sliceAt at hsl;split at hsl
       ·rename_i a b c hat; cases hsl; exact hat
       ·cases hsl
      have egr:ae s.toS.m q.root=some r.toR:=bq hr
      have ecs:r.toR.cells=r.cells.map Tt.toT:=by show holed _ r.hole=_; rw [hh]; rfl
      have hq:=hop q rfl
      unfold okP at hq;rw [hpath] at hq;obtain ⟨r2,sub2,l2,g1,g2,g3⟩:=hq;have er2:r2=r.toR:=Option.some.inj (g1.symm.trans egr)
      subst er2;unfold atT at ht;rw [hr] at ht;dsimp only at ht;rw [hpath] at ht;dsimp only at ht;split at ht
      ·rename_i sub0 u0 l0 _ hc;rw [ecs,Wa,hc] at g2;simp only [Option.map_some,V6,Tt.toT,T.ow.injEq] at g2;obtain ⟨rfl,rfl⟩:=g2;have hlk:=Ee g3 ht
       have egp:aU s.toS.m q=some (.ow sub' (l'.map (ao u'))):=by
        unfold aU;rw [egr];dsimp only;rw [hpath];dsimp only;rw [ecs,Wa,hc];simp only [Option.map_some,Tt.toT];rw [hlk]
       refine ⟨?_,?_,?_⟩
       ·simp only [At.toV,A1.toV,Tt.toT,gB];rw [egp];dsimp only;rw [if_pos (by rw [<- hs]; exact Wg hlen)]
        congr 2
        rw [<- htake];refine bx.S_ext (iu _ _ _).symm ?_;show _=toM (bw (thr q) s.nx (fK s.m q.root s.nx _))
        rw [dV,fo]
        congr 1
        unfold aY;rw [egr];dsimp only;rw [hpath];dsimp only;rw [ecs,Wa,hc];show cy (toM s.m) q.root _=_
        congr 1
        simp only [Rt.toR,Option.map_some,Tt.toT,T.toD];rw [Db _ _ hc]
       ·rw [<- htake]; exact BD.2 (wP hn)
       ·rw [<- htake];exact ⟨WZ _,fb (Wb _),(dH _ _ (Wb _) s.m).trans (ej (Wb _))⟩
      ·cases ht
     ·cases htake
   ·cases h
  ·cases h
 ·cases h
theorem SA:∀ n:Sn,(sd n).fs.all leaf=true:=by intro n; cases n <;> rfl
theorem yW {u:U} (h:leaf u=true) (x:El u):(gL u x).toD.sure=true:=by
 cases u with
 | st n=>cases h
 | _=>rfl
theorem xj:∀ {us:List U} (_:us.all leaf=true) (x:Fl us),∀ d∈(dK us x).map C.toD,d.sure=true
 | [],_,_,d,hd=>by simp [dK] at hd
 | u::r,h,x,d,hd=>by
  simp only [Wl,V7] at h;simp only [dK,List.map_cons,Wk] at hd;rcases hd with rfl | hd
  ·exact yW h.1 _
  ·exact xj h.2 _ d hd
theorem CF {u:U} (x:El u):∀ d∈ao u x,d.sure=true:=by
 rw [<- bz];cases u with
 | st n=>exact xj (SA n) _
 | _=>intro d hd; rw [kg rfl] at hd; simp only [List.map_cons,List.map_nil,WJ] at hd; subst hd; exact yW rfl _
theorem ID {E:Ut} {t u0:TypeId} {x y:Operand} {d:Tmp} (hx:aX x=true) (hy:aX y=true) (hn:ND (jz s (evA s y)).m) (hop:∀ q,evA (jz s (evA s y)) x=.one (.c (.rf q))->okP (toM (jz s (evA s y)).m) q) (h:nb P E s t u0 x y d k):nD P (jz s (evA s y)).toS t u0 x y d (upS k):=by
 unfold nb at h;dsimp only at h;generalize hs1:jz s (evA s y)=s1 at h hn hop;split at h
 ·rename_i e ht;split at h
  ·rename_i u z he hz;split at h
   ·rename_i hc;simp only [V7] at hc;obtain ⟨⟨⟨c1,c2⟩,c3⟩,c4⟩:=hc;have hsz:=Wg c4
    split at h
    ·rename_i ys s2 sub l hsrc hbase;split at h
     ·rename_i hsub;obtain ⟨⟨h1,h2⟩,h3⟩:=h;obtain ⟨k1,k2⟩:=Ry hsz hsrc;obtain ⟨b1,b2,_⟩:=u7 hsz hn hop hbase;unfold nD;dsimp only;rw [ax hy,sN k2,ht];dsimp only;refine ⟨c1,c2,by rw [hz]; simp only [Option.map_some]; rw [Wg c3],?_⟩;rw [ax hy,ax hx,k1,b1];dsimp only;refine ⟨hsub,?_,by rw [Wc,Wc]; exact h1,by rw [Wc,Wc]; exact h2,_,?_,h3⟩
      ·intro r hr;obtain ⟨z',_,rfl⟩:=WW.1 hr;exact ⟨by rw [jl]; exact hsz,CF z'⟩
      ·rw [<- eA b2];have er:(⟨false,[.ow sub u (l++ys)],none⟩:Rt).toR=⟨false,[.ow sub (l.map (ao u)++ys.map (ao u))]⟩:=by
        rw [<- Xb]; rfl
       rw [<- er];exact bY ((s2.fresh (.gh d)).root (.gh d) ⟨false,[.ow sub u (l++ys)],none⟩) (some d) (.one (.c (.rf ⟨.gh d,0,[]⟩)))
     ·exact h.elim
    ·exact h.elim
   ·exact h.elim
  ·exact h.elim
 ·exact h.elim
theorem Dd {E:Ut} {t u0:TypeId} {x y:Operand} {d:Tmp} (hx:aX x=true) (hy:aX y=true) (hn:ND s.m) (hopy:∀ q,evA s y=.one (.c (.rf q))->okP (toM s.m) q)
  (hopx:∀ (size:Nat) (s1:St) (sub:List Sh) (l:List (List D)) q,ND s1.m->gB s.toS size (evA s y).toV=some (s1.toS,sub,l)->evA s1 x=.one (.c (.rf q))->okP (toM s1.m) q) (h:kc P E s t u0 x y d k):pX P s.toS t u0 x y d (upS k):=by
 unfold kc at h;split at h
 ·rename_i e ht;split at h
  ·rename_i u z he hz;split at h
   ·rename_i hc;simp only [V7] at hc;obtain ⟨⟨⟨c1,c2⟩,c3⟩,c4⟩:=hc;have hsz:=Wg c4
    split at h
    ·rename_i s1 sub1 ys hby;split at h
     ·rename_i s2 sub l hbx;split at h
      ·rename_i hsub;obtain ⟨⟨h1,h2⟩,h3⟩:=h;obtain ⟨a1,a2,_⟩:=u7 hsz hn hopy hby;obtain ⟨b1,b2,_⟩:=u7 hsz a2 (fun q hq=>hopx _ s1 _ _ q a2 a1 hq) hbx;unfold pX;rw [ht];dsimp only;refine ⟨c1,c2,by rw [hz]; simp only [Option.map_some]; rw [Wg c3],?_⟩;rw [ax hy,a1];dsimp only;rw [ax hx,b1];dsimp only;have hlen:sub1.length=nc u:=by
        unfold tK at hby;split at hby
        ·simp only [V6,Prod.mk.injEq] at hby;obtain ⟨_,rfl,_⟩:=hby; simp
        ·split at hby
         ·split at hby
          ·rename_i hb _;simp only [V6,Prod.mk.injEq] at hby;obtain ⟨_,rfl,_⟩:=hby;exact Wg hb
          ·cases hby
         ·cases hby
        ·cases hby
       refine ⟨nA hsub,?_,by rw [Wc,Wc]; exact h1,by rw [Wc,Wc]; exact h2,_,?_,h3⟩
       ·intro r hr;obtain ⟨z',_,rfl⟩:=WW.1 hr;exact ⟨by rw [jl,hlen],CF z'⟩
       ·rw [<- eA b2];have er:(⟨false,[.ow sub u (l++ys)],none⟩:Rt).toR=⟨false,[.ow sub (l.map (ao u)++ys.map (ao u))]⟩:=by
         rw [<- Xb]; rfl
        rw [<- er];exact bY ((s2.fresh (.gh d)).root (.gh d) ⟨false,[.ow sub u (l++ys)],none⟩) (some d) (.one (.c (.rf ⟨.gh d,0,[]⟩)))
      ·exact h.elim
     ·exact h.elim
    ·exact h.elim
   ·exact h.elim
  ·exact h.elim
 ·exact h.elim
end
end Go.Am
end

section
namespace Go.Am
abbrev chn (v:Value):List PanicEntry:=[{ v,recovered:=false }]
def iV (g:G) (a:Act) (pk:PKt) (k:St->At->Prop) (e:Ending) (w':World):Prop:=
 (∃ r s' av H' γ' F',e=.returned r/\k s' av/\AR w' H' γ' (toM s'.m) av.toV r/\RX g s'.toS a w' H' γ' F') \/
 ∃ v s',e=.panicked (chn v)/\pk v s'/\R g s'.toS a w'
structure Cont (P:Program) (f:Nat) (C:CKt):Prop where
 run:∀ args w,(callFunc f args).run P w=.ok (.enter f args) w
 ext:∀ (pk:PKt) (s:St) (ops:List Operand) (k k':St->At->Prop),(∀ s' v,Ext s s'->k s' v->k' s' v)->C pk s ops k->C pk s ops k'
 call:∀ (g:G) (pk:PKt) (s:St) (a:Act) (w:World) (H:FH) (γ:Gam) (F:Nm->Fp) (ops:List Operand) (k:St->At->Prop),RX g s.toS a w H γ F->ops.all aX=true->C pk s ops k ->
  Calls P f (ops.map a.eval).toArray w (iV g a pk k)
def En.ok (e:En):Prop:=∀ x∈e.cs,Cont e.P x.1 x.2
theorem En.ok_get {e:En} (h:e.ok) {f:Nat} {C:CKt} (hg:e.cs.get f=some C):Cont e.P f C:=by
 have:∀ cs:CTt,(∀ x∈cs,Cont e.P x.1 x.2)->cs.get f=some C->Cont e.P f C:=by
  intro cs;induction cs with
  | nil=>intro _ h; cases h
  | cons x cs ih=>
   obtain ⟨f',C'⟩:=x;intro h hg2;simp only [CTt.get] at hg2;split at hg2
   ·rename_i hb;have:=Wg hb
    subst this;have hg':C'=C:=by simpa using hg2
    subst hg';exact h (f',C') (by simp)
   ·exact ih (fun y hy=>h y (Wr _ hy)) hg2
 exact this e.cs h hg
section
variable {k k':At->Prop}
theorem Jf {c x y:At} (hk:∀ v,k v->k' v) (h:zk c x y k):zk c x y k':=by
 unfold zk at h ⊢
 (repeat' split at h) <;> first | exact h.elim | exact hk _ h | exact ⟨h.1,hk _ h.2⟩ | (simp_all; done)
theorem LD {op:BinOp} {κ:IntKind} {a b:Int} {K K':C->Prop} (hk:∀ v,K v->K' v) (h:OP op κ a b K):OP op κ a b K':=by
 unfold OP at h ⊢;cases op <;> first | exact hk _ h | exact ⟨h.1,hk _ h.2⟩
theorem Mo {op:BinOp} {x y:C} {K K':C->Prop} (hk:∀ v,K v->K' v) (h:L5 op x y K):L5 op x y K':=by
 unfold L5 at h ⊢;split at h
 ·split at h <;> first | exact h.elim | exact hk _ h | exact ⟨h.1,hk _ h.2⟩
 ·split at h
  ·split at h
   ·rename_i hc; rw [if_pos hc]; exact LD hk h
   ·exact h.elim
  ·exact h.elim
theorem LE {P:Program} {op:BinOp} {t:TypeId} {x y:At} (hk:∀ v,k v->k' v) (h:Mp P op t x y k):Mp P op t x y k':=by
 unfold Mp at h ⊢
 (repeat' split at h) <;> first | exact h.elim | exact hk _ h | exact ⟨h.1,hk _ h.2⟩ | exact Mo (fun v hv=>hk _ hv) h | (simp_all; done)
theorem QI {op:UnOp} {x:At} (hk:∀ v,k v->k' v) (h:unT op x k):unT op x k':=by
 unfold unT at h ⊢
 (repeat' split at h) <;> first | exact h.elim | exact hk _ h | exact ⟨h.1,hk _ h.2⟩ | (simp_all; done)
theorem yF {x:At} {i:Nat} (hk:∀ v,k v->k' v) (h:j1 x i k):j1 x i k':=by
 unfold j1 at h ⊢
 (repeat' split at h) <;> first | exact h.elim | exact hk _ h | exact ⟨h.1,hk _ h.2⟩ | (simp_all; done)
theorem CV {x i:At} (hk:∀ v,k v->k' v) (h:rZ x i k):rZ x i k':=by
 unfold rZ at h ⊢
 (repeat' split at h) <;> first | exact h.elim | exact hk _ h | exact ⟨h.1,hk _ h.2⟩ | (simp_all; done)
theorem eY {y:Option At} {d:Nat} {k1 k2:Nat->Prop} (hk:∀ n,k1 n->k2 n) (hb:fG y d k1):fG y d k2:=by
 unfold fG at hb ⊢;split at hb
 ·exact hk _ hb
 ·exact ⟨hb.1,hk _ hb.2⟩
 ·exact hb.elim
theorem DC {P:Program} {t:TypeId} {x:At} {lo hi:Option At} (hk:∀ v,k v->k' v) (h:r9 P t x lo hi k):r9 P t x lo hi k':=by
 unfold r9 at h ⊢;split at h
 ·split at h
  ·exact eY (fun a ha=>eY (fun b hb=>⟨hb.1,hk _ hb.2⟩) ha) h
  ·exact h.elim
 ·split at h
  ·skip
   split at h
   ·exact eY (fun a ha=>eY (fun b hb=>⟨hb.1,hk _ hb.2⟩) ha) h
   ·exact h.elim
  ·exact h.elim
 ·split at h
  ·skip
   split at h
   ·exact eY (fun a ha=>eY (fun b hb=>⟨hb.1,hb.2.1,hk _ hb.2.2⟩) ha) h
   ·exact h.elim
  ·exact h.elim
 ·exact h.elim
theorem tU {P:Program} {m:List (Nm×Nat×Rt)} {t:TypeId} {x:At} {i:Nat} (hk:∀ v,k v->k' v) (h:fW P m t x i k):fW P m t x i k':=by
 unfold fW at h ⊢;split at h
 ·skip
  split at h
  ·skip
   split at h
   ·split at h
    ·exact hk _ h
    ·exact h.elim
   ·exact hk _ h
   ·exact h.elim
  ·exact h.elim
 ·exact h.elim
theorem uu {P:Program} {m:List (Nm×Nat×Rt)} {t:TypeId} {x i:At} (hk:∀ v,k v->k' v) (h:gc P m t x i k):gc P m t x i k':=by
 unfold gc at h ⊢;split at h
 ·split at h
  ·skip
   split at h
   ·split at h
    ·exact ⟨h.1,hk _ h.2⟩
    ·exact h.elim
   ·split at h
    ·skip
     split at h
     ·skip
      split at h
      ·exact ⟨h.1,hk _ h.2⟩
      ·exact h.elim
     ·exact h.elim
    ·exact h.elim
   ·exact h.elim
  ·skip
   split at h
   ·split at h
    ·exact ⟨h.1,hk _ h.2⟩
    ·exact h.elim
   ·split at h
    ·exact ⟨h.1,hk _ h.2⟩
    ·exact h.elim
   ·exact h.elim
  ·exact h.elim
 ·exact h.elim
theorem G4 {P:Program} {m:List (Nm×Nat×Rt)} {t:TypeId} {x:At} (hk:∀ v,k v->k' v) (h:ou P m t x k):ou P m t x k':=by
 unfold ou at h ⊢;split at h
 ·skip
  split at h
  ·split at h
   ·skip
    split at h
    ·exact hk _ h
    ·exact h.elim
   ·skip
    split at h
    ·exact hk _ h
    ·exact h.elim
  ·split at h
   ·exact ⟨h.1,hk _ h.2⟩
   ·exact h.elim
  ·split at h
   ·skip
    split at h
    ·exact hk _ h
    ·exact h.elim
   ·skip
    split at h
    ·exact hk _ h
    ·exact h.elim
  ·exact h.elim
 ·exact h.elim
theorem EZ {P:Program} {t:TypeId} {x:At} {i:Nat} (hk:∀ v,k v->k' v) (h:sK P t x i k):sK P t x i k':=by
 unfold sK at h ⊢;split at h
 ·skip
  split at h
  ·skip
   split at h
   ·exact hk _ h
   ·exact h.elim
  ·skip
   split at h
   ·exact hk _ h
   ·exact h.elim
  ·exact h.elim
 ·exact h.elim
theorem wE {x:At} (hk:∀ v,k v->k' v) (h:io x k):io x k':=by
 unfold io at h ⊢;split at h
 ·exact hk _ h
 ·exact hk _ h
 ·exact hk _ h
 ·exact h.elim
theorem FI {P:Program} {t:TypeId} {ps:List (Nat×At)} (hk:∀ v,k v->k' v) (h:r7 P t ps k):r7 P t ps k':=by
 unfold r7 at h ⊢;split at h
 ·skip
  split at h
  ·exact hk _ h
  ·exact h.elim
 ·exact h.elim
theorem GJ {P:Program} {su du:TypeId} {x:At} (hk:∀ v,k v->k' v) (h:yR P su du x k):yR P su du x k':=by
 unfold yR at h ⊢;split at h
 ·skip
  split at h
  ·split at h
   ·exact hk _ h
   ·exact h.elim
  ·exact h.elim
 ·skip
  split at h
  ·skip
   split at h
   ·exact hk _ h
   ·exact hk _ h
   ·exact h.elim
  ·exact h.elim
 ·exact h.elim
theorem BB {e:En} {o:Oper} {s:St} (hk:∀ v,k v->k' v) (h:qT e o s k):qT e o s k':=by
 unfold qT at h ⊢;cases ho:o.op with
 | move x=>rw [ho] at h; exact hk _ h
 | assign x=>rw [ho] at h; exact hk _ h
 | pick c x y=>rw [ho] at h; exact Jf hk h
 | binOp op t x y z=>rw [ho] at h; exact LE hk h
 | unOp op t x=>rw [ho] at h; exact QI hk h
 | load t x=>rw [ho] at h; exact G4 hk h
 | field t x i=>rw [ho] at h; exact EZ hk h
 | fieldAddr t x i=>rw [ho] at h; exact tU hk h
 | indexAddr t x i=>rw [ho] at h; exact uu hk h
 | index t x i=>
  rw [ho] at h;dsimp only at h ⊢;split at h
  ·exact CV hk h
  ·exact h.elim
 | extract x i=>rw [ho] at h; exact yF hk h
 | convert su du x=>rw [ho] at h; exact GJ hk h
 | slice t x lo hi mx=>
  rw [ho] at h;cases mx with
  | some _=>exact h.elim
  | none=>exact DC hk h
 | nilCheck x=>rw [ho] at h; exact wE hk h
 | build t ps=>rw [ho] at h; exact FI hk h
 | call c=>
  rw [ho] at h;dsimp only at h ⊢;split at h
  ·skip
   split at h
   ·exact AA (fun n hn=>hk _ hn) h
   ·exact h.elim
  ·exact h.elim
 | _=>rw [ho] at h; exact h.elim
end
section
variable {k k':St->Prop} {s:St}
theorem I4 {P:Program} {t:TypeId} {d:Tmp} (hk:∀ s',Ext s s'->k s'->k' s') (h:sv P s t d k):sv P s t d k':=by
 unfold sv at h ⊢;split at h
 ·skip
  split at h
  ·exact hk _ (((eX _ _).trans (ko _ _ _)).trans (bm _ _ _)) h
  ·exact h.elim
 ·exact h.elim
theorem Pz {x:Operand} {d:Tmp} (hk:∀ s',Ext s s'->k s'->k' s') (h:LI s x d k):LI s x d k':=by
 unfold LI at h ⊢;split at h
 ·skip
  split at h
  ·exact hk _ (((eX _ _).trans (ko _ _ _)).trans (bm _ _ _)) h
  ·exact h.elim
 ·exact h.elim
theorem t8 {P:Program} {E:Ut} {t:TypeId} {n:Nat} {ps:Array (Nat×Operand)} {d:Tmp} (hk:∀ s',Ext s s'->k s'->k' s') (h:eZ P E s t n ps d k):eZ P E s t n ps d k':=by
 unfold eZ at h ⊢;split at h
 ·skip
  split at h
  ·skip
   split at h
   ·skip
    dsimp only at h ⊢;split at h
    ·skip
     split at h
     ·skip
      exact hk _ ((((cv _ _).trans (eX _ _)).trans (ko _ _ _)).trans (bm _ _ _)) h
     ·exact h.elim
    ·exact h.elim
   ·exact h.elim
  ·exact h.elim
 ·exact h.elim
theorem xp {p:Pl} {t:Tt} (hk:∀ s',Ext s s'->k s'->k' s') (h:ET s p t k):ET s p t k':=by
 unfold ET at h ⊢;split at h
 ·exact h.elim
 ·skip
  split at h
  ·skip
   split at h
   ·exact hk _ ⟨WZ _,fun _ _ _ h _=>h,dH _ _ (Wb _) _⟩ h
   ·exact h.elim
  ·skip
   split at h
   ·exact nj (hk _ ⟨WZ _,fun _ _ _ h _=>h,dH _ _ (Wb _) _⟩) h
   ·exact h.elim
  ·skip
   split at h
   ·skip
    split at h
    ·exact nj (tj (hk _ ⟨WZ _,fun _ _ _ h _=>h,dH _ _ (Wb _) _⟩)) h
    ·exact h.elim
   ·exact h.elim
  ·exact h.elim
theorem jA:∀ {ts:List Tt} {s:St} {p:Pl},(∀ s',Ext s s'->k s'->k' s')->ic s p ts k->ic s p ts k'
 | [],s,p,hk,h=>hk _ (Ext.refl s) h
 | t::ts,s,p,hk,h=>by
  cases t with
  | rf q=>
   simp only [ic] at h ⊢;split at h
   ·skip
    split at h
    ·skip
     exact xp (fun s' he hs'=>jA (fun s'' he'=>hk s'' (((vk _ _).trans he).trans he')) hs') h
    ·exact h.elim
   ·exact h.elim
  | any=>exact h.elim
  | d c=>cases c with
   | any=>exact h.elim
   | _=>exact xp (fun s' he hs'=>jA (fun s'' he'=>hk s'' (he.trans he')) hs') h
  | _=>exact xp (fun s' he hs'=>jA (fun s'' he'=>hk s'' (he.trans he')) hs') h
theorem EP {p:Pl} {ts:List Tt} (hk:∀ s',Ext s s'->k s'->k' s') (h:nR s p ts k):nR s p ts k':=by
 unfold nR at h ⊢;split at h
 ·exact h.elim
 ·skip
  split at h
  ·skip
   split at h
   ·exact nj (hk _ ⟨WZ _,fun _ _ _ h _=>h,dH _ _ (Wb _) _⟩) h
   ·exact h.elim
  ·exact h.elim
theorem IT {P:Program} {t:TypeId} {x v:At} (hk:∀ s',Ext s s'->k s'->k' s') (h:sX P s t x v k):sX P s t x v k':=by
 unfold sX at h ⊢;split at h
 ·skip
  split at h
  ·skip
   split at h
   ·exact EP hk h
   ·exact jA hk h
  ·exact h.elim
 ·exact h.elim
theorem rO {u:U} {v:At} {s':St} {sub:List Sh} {l:List (El u)} (h:tK s u v=some (s',sub,l)):Ext s s':=by
 unfold tK at h;split at h
 ·simp only [V6,Prod.mk.injEq] at h;obtain ⟨rfl,_⟩:=h; exact Ext.refl _
 ·split at h
  ·split at h
   ·rename_i htake;simp only [V6,Prod.mk.injEq] at h;obtain ⟨rfl,_⟩:=h;unfold Pw at htake;split at htake
    ·cases htake
    ·split at htake
     ·simp only [V6] at htake;rw [<- htake];exact ⟨WZ _,fb (Wb _),(dH _ _ (Wb _) s.m).trans (ej (Wb _))⟩
     ·simp only [V6] at htake;rw [<- htake];exact ⟨WZ _,fb (Wb _),(dH _ _ (Wb _) s.m).trans (ej (Wb _))⟩
     ·cases htake
   ·cases h
  ·cases h
 ·cases h
theorem ES {P:Program} {E:Ut} {t u:TypeId} {x y:Operand} {d:Tmp} (hk:∀ s',Ext s s'->k s'->k' s') (h:nb P E s t u x y d k):nb P E s t u x y d k':=by
 unfold nb at h ⊢;dsimp only at h ⊢;split at h
 ·skip
  split at h
  ·skip
   split at h
   ·skip
    split at h
    ·rename_i h3 h4;split at h
     ·skip
      exact ⟨h.1,hk _ (((((ku _ _).trans (rO h4)).trans (eX _ _)).trans (ko _ _ _)).trans (bm _ _ _)) h.2⟩
     ·exact h.elim
    ·exact h.elim
   ·exact h.elim
  ·exact h.elim
 ·exact h.elim
theorem sC {P:Program} {E:Ut} {sub:List Sh} {t:TypeId} {n:Nat} {ps:Array (Nat×Operand)} {d:Tmp} (hk:∀ s',Ext s s'->k s'->k' s') (h:eh P E sub s t n ps d k):eh P E sub s t n ps d k':=by
 unfold eh at h ⊢;split at h
 ·skip
  split at h
  ·skip
   split at h
   ·skip
    dsimp only at h ⊢;split at h
    ·skip
     split at h
     ·skip
      exact hk _ ((((cv _ _).trans (eX _ _)).trans (ko _ _ _)).trans (bm _ _ _)) h
     ·exact h.elim
    ·exact h.elim
   ·exact h.elim
  ·exact h.elim
 ·exact h.elim
theorem B1 {P:Program} {E:Ut} {t u:TypeId} {x y:Operand} {d:Tmp} (hk:∀ s',Ext s s'->k s'->k' s') (h:kc P E s t u x y d k):kc P E s t u x y d k':=by
 unfold kc at h ⊢;split at h
 ·skip
  split at h
  ·skip
   split at h
   ·skip
    split at h
    ·rename_i h3;split at h
     ·rename_i h4;split at h
      ·skip
       exact ⟨h.1,hk _ (((((rO h3).trans (rO h4)).trans (eX _ _)).trans (ko _ _ _)).trans (bm _ _ _)) h.2⟩
      ·exact h.elim
     ·exact h.elim
    ·exact h.elim
   ·exact h.elim
  ·exact h.elim
 ·exact h.elim
theorem TG {e:En} (he:e.ok) {o:Oper} (hk:∀ s',Ext s s'->k s'->k' s') (h:lT e o s k):lT e o s k':=by
 unfold lT at h ⊢;cases ho:o.op with
 | store t x v=>rw [ho] at h; exact IT (fun s' he hs'=>hk _ (((LH _ _ _).trans he).trans (bm _ _ _)) hs') h
 | alloc t=>
  rw [ho] at h;cases hd:o.dst with
  | none=>rw [hd] at h; exact h.elim
  | some d=>rw [hd] at h; exact I4 hk h
 | box t x=>
  rw [ho] at h;cases hd:o.dst with
  | none=>rw [hd] at h; exact h.elim
  | some d=>rw [hd] at h; exact Pz hk h
 | buildSlice t n ps=>
  rw [ho] at h;cases hd:o.dst with
  | none=>rw [hd] at h; exact h.elim
  | some d=>
   rw [hd] at h;dsimp only at h ⊢;split at h
   ·exact t8 hk h
   ·exact sC hk h
 | call c=>
  rw [ho] at h;dsimp only at h ⊢;split at h
  ·skip
   cases hd:o.dst with
   | none=>rw [hd] at h; exact h.elim
   | some d=>
    rw [hd] at h;dsimp only at h ⊢;split at h
    ·exact ES hk h
    ·exact B1 hk h
  ·skip
   split at h
   ·rename_i C hg;exact (En.ok_get he hg).ext _ _ _ _ _ (fun s' v hE hs'=>hk _ (hE.trans (bm _ _ _)) hs') h
   ·exact h.elim
  ·skip
   split at h
   ·skip
    split at h
    ·rename_i C hg;exact (En.ok_get he hg).ext _ _ _ _ _ (fun s' v hE hs'=>hk _ (hE.trans (bm _ _ _)) hs') h
    ·exact h.elim
   ·exact h.elim
  ·exact h.elim
 | _=>rw [ho] at h; exact h.elim
theorem Kk {e:En} (he:e.ok) {o:Oper} (hk:∀ s',Ext s s'->k s'->k' s') (h:opT e o s k):opT e o s k':=by
 unfold opT at h ⊢;split at h
 ·rename_i hq;exact BB (fun v hv=>hk _ ((ED _ _).trans (bm _ _ _)) hv) h
 ·exact TG he hk h
end
section
variable {P:Program} {g:G} {Q:Exit->S->Prop} {s:St}
def AOt (P:Program) (g:G) (o:Oper) (k:St->Prop) (Q:Exit->S->Prop) (s:St):Prop:=
 ∀ a w,R g s.toS a w->o.wp P a w (fun a' w'=>∃ s':St,k s'/\R g s'.toS a' w') (lift g Q)
def PQ (pk:PKt):Exit->S->Prop:=fun x s=>∃ v,∃ t:St,x=.panic (chn v)/\s=t.toS/\pk v t
theorem TM {e:En} (he:e.ok) (hpk:∀ x s,PQ e.pk x s->Q x s) {o:Oper} {k:St->Prop} (hc:opC g.nt o=true) (hq:isQ o=false) (h:lT e o s k):AOt e.P g o k Q s:=by
 intro a w hR;obtain ⟨H,γ,F,hX⟩:=hR;have hn:=rk hX
 have base:∀ {s1:St},(∃ H' F',RX g s1.toS a w H' γ F')->opK e.P [] o s1.toS (upS k)->o.wp e.P a w (fun a' w'=>∃ s':St,k s'/\R g s'.toS a' w') (lift g Q):=by
  intro s1 ⟨H',F',hX1⟩ hop;exact bT (fun a' w' ⟨s',⟨t,e,hk⟩,hR'⟩=>⟨t,hk,CH e hR'⟩) (fun _ _ _ h=>h) (B6 (Q:=Q) CT.ok0 hc hop a w ⟨H',γ,F',hX1⟩)
 have hcc:=hc
 unfold opC at hcc;rw [V7] at hcc;obtain ⟨hd,hcc⟩:=hcc;unfold lT at h;cases ho:o.op with
 | store t x v=>
  rw [ho] at h hcc;simp only [V7] at hcc;have hX1:=ME hX (evA s x) (evA s v)
  refine base hX1 ?_;obtain ⟨H1,F1,h1⟩:=hX1;unfold opK;rw [ho];dsimp only;rw [ax hcc.1,ax hcc.2];exact LC (fun t' hk=>⟨_,bY t' o.dst .any,hk⟩) (rk h1) h
 | alloc t=>
  rw [ho] at h;cases hdd:o.dst with
  | none=>rw [hdd] at h; exact h.elim
  | some d=>
   rw [hdd] at h;refine base (s1:=s) ⟨H,F,hX⟩ ?_;unfold opK;rw [ho,hdd];exact Ni hn h
 | box t x=>
  rw [ho] at h hcc;cases hdd:o.dst with
  | none=>rw [hdd] at h; exact h.elim
  | some d=>
   rw [hdd] at h;refine base (s1:=s) ⟨H,F,hX⟩ ?_;unfold opK;rw [ho,hdd];exact Sz hn hcc h
 | buildSlice t n ps=>
  rw [ho] at h hcc;cases hdd:o.dst with
  | none=>rw [hdd] at h; exact h.elim
  | some d=>
   rw [hdd] at h hd;have hX1:=db (ps.toList.map fun x=>evA s x.2) s H F hX
   dsimp only at h;split at h
   ·refine base hX1 ?_;unfold opK;rw [ho,hdd];obtain ⟨H1,F1,h1⟩:=hX1;exact wt hcc (rk h1) h
   ·obtain ⟨H1,F1,h1⟩:=hX1;obtain ⟨s',y,w',H',γ',F',e1,⟨t',et,hk⟩,e3⟩:=uk (P:=e.P) h1 hd hcc (t7 hcc (rk h1) h);unfold Oper.wp;have:(execOp a.eval o).run e.P w=.ok (.value y) w':=by simp only [execOp,ho]; rw [Sem.run_bind,e1]; rfl
    rw [this];exact ⟨t',hk,H',γ',F',dO et (by rw [hdd]; exact e3)⟩
 | call c=>
  rw [ho] at h hcc;obtain ⟨callee,args,argTypes⟩:=c;obtain ⟨args⟩:=args;obtain ⟨argTypes⟩:=argTypes;dsimp only at h hcc;cases callee with
  | builtin b=>
   cases b with
   | append=>
    match args,argTypes,h with
    | [x,y],[t,u],h=>
     have h1:aX x=true/\aX y=true:=by simpa using hcc
     cases hdd:o.dst with
     | none=>rw [hdd] at h; exact h.elim
     | some d=>
      rw [hdd] at h hd;dsimp only at h;split at h
      rotate_left
      ·obtain ⟨s',y',w',H',γ',F',e1,⟨t',et,hk⟩,e3⟩:=Ec (P:=e.P) (tt:=o.type) hX hd h1.1 h1.2 (Dd h1.1 h1.2 hn (fun q hq=>by
         have h3:=bg hX h1.2
         rw [ax h1.2,hq] at h3;obtain ⟨_,h4,_⟩:=h3;exact A4 h4) (fun size s1 sub l q hn1 hb hq=>by
         have hy:=bg hX h1.2
         rw [ax h1.2] at hy;obtain ⟨_,_,F1,_,hX1,_⟩:=wr hX hy hb;have h3:=bg hX1 h1.1
         rw [ax h1.1,hq] at h3;obtain ⟨_,h4,_⟩:=h3;exact A4 h4) h)
       unfold Oper.wp;have:(execOp a.eval o).run e.P w=.ok (.value y') w':=by
        simp only [execOp,ho,resolve,invoke,builtin,Sem.run_bind,Sem.run_pure,Result.andThen_ok,List.map_toArray,List.map_cons,List.map_nil];rw [e1]; rfl
       rw [this];exact ⟨t',hk,H',γ',F',dO et (by rw [hdd]; exact e3)⟩
      have hX1:=kB hX (evA s y)
      refine base hX1 ?_;unfold opK;rw [ho,hdd];obtain ⟨H1,F1,h2⟩:=hX1;exact ID h1.1 h1.2 (rk h2) (fun q hq=>by
       have h3:=bg h2 h1.1
       rw [ax h1.1,hq] at h3;obtain ⟨_,h4,_⟩:=h3;exact A4 h4) h
   | _=>exact h.elim
  | value v=>
   cases v with
   | func f=>
    dsimp only at h;cases hg:e.cs.get f with
    | none=>rw [hg] at h; exact h.elim
    | some C=>
     rw [hg] at h;have hC:=En.ok_get he hg
     have hr:(execOp a.eval o).run e.P w=.ok (.enter f (args.map a.eval).toArray) w:=by
      simp only [execOp,ho,resolve,Act.eval,Deferred.ofValue,Sem.run_bind,Sem.run_pure,Result.andThen_ok,invoke];rw [hC.run];simp
     unfold Oper.wp;rw [hr];refine Calls.mono (hC.call g e.pk s a w H γ F args _ hX hcc h) (fun e' w' hp=>?_);rcases hp with ⟨r,s',av,H',γ',F',k1,k2,k3,k4⟩ | ⟨v,s',k1,k2,k4⟩
     ·subst k1;exact ⟨_,k2,H',γ',F',dO (bY s' o.dst av) (k4.put hd k3)⟩
     ·subst k1;exact ⟨_,hpk _ _ ⟨v,s',rfl,rfl,k2⟩,k4⟩
   | tmp t=>
    dsimp only at h;split at h
    ·rename_i f hf ht;cases hg:e.cs.get f with
     | none=>rw [hg] at h; exact h.elim
     | some C=>
      rw [hg] at h;have hC:=En.ok_get he hg
      have hv:a.eval (.tmp t)=.func (.func f) #[] #[]:=by
       have h3:=hX.t t
       rw [G.tv_lo (show t<TB from Wh ht)] at h3;unfold VN at hf;split at hf
       ·rename_i f' x y hgt;split at hf
        ·rename_i hx0 hy0;simp only [V6] at hf;subst hf;rw [show aA s.toS.t t=(gtA s.t t).toV from cK t s.t,hgt] at h3;obtain ⟨_,m,h3⟩:=h3;have e1:a.tmps.getD t undef=.func (.func f') x y:=by cases m <;> exact h3.1
         show a.tmps.getD t undef=_
         rw [e1];have ex:x=#[]:=Array.eq_empty_of_size_eq_zero hx0
         have ey:y=#[]:=Array.eq_empty_of_size_eq_zero hy0
         rw [ex,ey]
        ·cases hf
       ·cases hf
      have hr:(execOp a.eval o).run e.P w=.ok (.enter f (args.map a.eval).toArray) w:=by
       simp only [execOp,ho,resolve,hv,Deferred.ofValue,Sem.run_bind,Sem.run_pure,Result.andThen_ok,invoke];rw [hC.run];simp
      unfold Oper.wp;rw [hr];refine Calls.mono (hC.call g e.pk s a w H γ F args _ hX hcc h) (fun e' w' hp=>?_);rcases hp with ⟨r,s',av,H',γ',F',k1,k2,k3,k4⟩ | ⟨v,s',k1,k2,k4⟩
      ·subst k1;exact ⟨_,k2,H',γ',F',dO (bY s' o.dst av) (k4.put hd k3)⟩
      ·subst k1;exact ⟨_,hpk _ _ ⟨v,s',rfl,rfl,k2⟩,k4⟩
    ·exact h.elim
   | _=>exact h.elim
  | invoke r n=>exact h.elim
 | _=>rw [ho] at h; exact h.elim
theorem Ls {e:En} (he:e.ok) (hpk:∀ x s,PQ e.pk x s->Q x s) {o:Oper} {k:St->Prop} (hc:opC g.nt o=true) (h:opT e o s k):AOt e.P g o k Q s:=by
 unfold opT at h;split at h
 ·rename_i hq;intro a w ⟨H,γ,F,hX⟩;obtain ⟨H1,F1,hX1⟩:=vN hX o;obtain ⟨z,d,B,_,e1,e2,e3⟩:=zt hX1 hc (QG hX1 hc h);obtain ⟨v',rfl,hk⟩:=e3;unfold Oper.wp;rw [e1 w (fun _ _=>rfl)];exact ⟨_,hk,H1,γ,F1,dO (bY _ _ _) (hX1.put (dz hc) e2)⟩
 ·rename_i hq;exact TM he hpk hc hq h
theorem OC {o:Oper} {K:S->Prop} {s s':S} (e:SEq s s') (h:AO P g o K Q s'):AO P g o K Q s:=fun a w hR=>h a w (CH e hR)
theorem IY {ops rest:List Oper} {s s':S} (e:SEq s s') (h:AL P g ops rest Q s'):AL P g ops rest Q s:=fun a w hR=>h a w (CH e hR)
theorem Kv {o:Oper} {K:S->Prop} (h:AOt P g o (fun t=>K t.toS) Q s):AO P g o K Q s.toS:=fun a w hR=>
 bT (fun a' w' ⟨s',hk,hR'⟩=>⟨s'.toS,hk,hR'⟩) (fun _ _ _ h=>h) (h a w hR)
theorem iO {d:Nat} {v:At} (h:gtA s.t d=v):aA s.toS.t d=v.toV:=by rw [<- h]; exact cK d s.t
theorem mP (s:St) (d:Nat) (b:Bool):SEq (s.toS.put (some d) (.one (.c (.d (.bool b))))) (s.put (some d) (sct (.bo b))).toS:=bY s (some d) (sct (.bo b))
theorem qx (s:St) (d:Nat) (b:Bool) (o:Option Tmp):SEq ((s.toS.put (some d) (.one (.c (.d (.bool b))))).put o (.tup [])) ((s.put (some d) (sct (.bo b))).put o (.tup [])).toS:=by
 have h1:=mP s d b
 have h2:=bY (s.put (some d) (sct (.bo b))) o (.tup [])
 refine ⟨fun i=>?_,?_⟩
 ·rw [<- h2.1 i];cases o with
  | none=>exact h1.1 i
  | some o=>show aA (lZ _ o _) i=aA (lZ _ o _) i; rw [fY,fY,h1.1 i]; rfl
 ·rw [<- h2.2]; cases o <;> exact h1.2
theorem lw {e:En} (he:e.ok) (hpk:∀ x s,PQ e.pk x s->Q x s) {k:St->Prop} {all:List Oper}:∀ {rest:List Oper} {s:St},AS g.nt all rest=true->lQ e all rest s k->(∀ t:St,k t->Q .normal t.toS)->AL e.P g all rest Q s.toS
 | [],s,_,h,hQ=>II (hQ s h)
 | o::r,s,hc,h,hQ=>by
  simp only [AS,V7] at hc;obtain ⟨⟨hc1,hc2⟩,hc3⟩:=hc;simp only [lQ] at h;have run:∀ {s:St},opT e o s (fun s'=>lQ e all r s' k)->AO e.P g o (AL e.P g all r Q) Q s.toS:=fun {s} h=>
   Kv (fun a w hR=>bT (fun a' w' ⟨s',hk,hR'⟩=>⟨s',lw he hpk hc3 hk hQ,hR'⟩) (fun _ _ _ h=>h) (Ls he hpk hc1 h a w hR))
  cases hg:o.guard with
  | none=>
   rw [hg] at h;exact BC hg (run h)
  | some q=>
   obtain ⟨j,want⟩:=q;rw [hg] at h hc2;dsimp only at h hc2;cases hj:(all[j]?).bind (·.dst) with
   | none=>rw [hj] at h; exact h.elim
   | some d=>
    rw [hj] at h hc2;dsimp only at h hc2;split at h
    ·rename_i c hcc;have hgt:aA s.toS.t d=.one (.c (.d (.bool c))):=iO hcc
     cases want with
     | true=>
      dsimp only at h;refine vV hg hj hgt hc2 (dz hc1) (fun hc=>?_) (fun hc=>?_)
      ·subst hc; rw [if_pos rfl] at h; exact OC (mP s d true) (run h)
      ·subst hc; rw [if_neg (by simp)] at h; exact IY (qx s d _ _) (lw he hpk hc3 h hQ)
     | false=>
      dsimp only at h;refine vV hg hj hgt hc2 (dz hc1) (fun hc=>?_) (fun hc=>?_)
      ·subst hc; rw [if_neg (by simp)] at h; exact OC (mP s d false) (run h)
      ·subst hc; rw [if_pos (by rfl)] at h; exact IY (qx s d _ _) (lw he hpk hc3 h hQ)
    ·rename_i hcc;exact wi hg hj (iO hcc) (dz hc1) (IY (bY s o.dst (.tup [])) (lw he hpk hc3 h hQ))
    ·exact h.elim
theorem xf {e:En} (he:e.ok) {all:List Oper} {k k':St->Prop}:∀ {rest:List Oper} {s:St},(∀ s',Ext s s'->k s'->k' s')->lQ e all rest s k->lQ e all rest s k'
 | [],s,hk,h=>hk s (Ext.refl s) h
 | o::r,s,hk,h=>by
  have run:∀ {s1:St},Ext s s1->opT e o s1 (fun s'=>lQ e all r s' k)->opT e o s1 (fun s'=>lQ e all r s' k'):=fun {s1} h1 h=>
   Kk he (fun s' h2 hs'=>xf he (fun s'' h3=>hk s'' ((h1.trans h2).trans h3)) hs') h
  have rest:∀ {s1:St},Ext s s1->lQ e all r s1 k->lQ e all r s1 k':=fun {s1} h1 h=>xf he (fun s'' h3=>hk s'' (h1.trans h3)) h
  simp only [lQ] at h ⊢;split at h
  ·exact run (Ext.refl s) h
  ·rename_i j want hg;split at h
   ·rename_i d hj;split at h
    ·rename_i c hcc;cases want <;> cases c <;> simp only [V9,if_true,if_false] at h ⊢
     ·exact run (bm _ _ _) h
     ·exact rest ((bm _ _ _).trans (bm _ _ _)) h
     ·exact rest ((bm _ _ _).trans (bm _ _ _)) h
     ·exact run (bm _ _ _) h
    ·exact rest (bm _ _ _) h
    ·exact h.elim
   ·exact h.elim
end
end Go.Am
end

section
namespace Go.Am
section
variable {e:En} {g:G} {k:St->Prop} {Q:Exit->S->Prop}
theorem L1 {x:At} (h:NO x=true):FX x.toV=true:=by
 unfold NO at h;split at h
 ·rfl
 ·rfl
 ·cases h
theorem Gp {s:St} {o:Oper} (hc:opC g.nt o=true) (h:lE s o=true):eK s.toS o:=by
 unfold lE at h;unfold eK;unfold opC at hc;rw [V7] at hc;cases ho:o.op with
 | load t x=>
  rw [ho] at h hc;dsimp only at hc ⊢;rw [ax hc.2];exact L1 h
 | _=>trivial
theorem S4 {ops:List Oper} {o:Oper} {s:St} {f no:St->Prop} (h:gT ops o s f no):gK ops o s.toS (upS f) (upS no):=by
 unfold gT at h;unfold gK;cases hg:o.guard with
 | none=>rw [hg] at h; exact ⟨s,⟨fun _=>rfl,rfl⟩,h⟩
 | some q=>
  obtain ⟨j,want⟩:=q;rw [hg] at h;dsimp only at h ⊢;cases hj:(ops[j]?).bind (·.dst) with
  | none=>rw [hj] at h; exact h.elim
  | some d=>
   rw [hj] at h;dsimp only at h ⊢;split at h
   ·rename_i c hcc;rw [iO hcc];simp only [At.toV,A1.toV,Tt.toT,C.toD];cases want <;> cases c <;> simp only [V9,if_true,if_false] at h <;> simp only [gsel]
    ·exact ⟨_,mP s d false,h⟩
    ·exact ⟨_,qx s d _ _,h⟩
    ·exact ⟨_,qx s d _ _,h⟩
    ·exact ⟨_,mP s d true,h⟩
   ·rename_i hcc;rw [iO hcc];exact ⟨_,bY s o.dst (.tup []),h⟩
   ·exact h.elim
theorem IJ {ops:List Oper} {o:Oper} {s:St} {f f' no no':St->Prop} (hf:∀ s',Ext s s'->f s'->f' s') (hn:∀ s',Ext s s'->no s'->no' s') (h:gT ops o s f no):gT ops o s f' no':=by
 unfold gT at h ⊢;cases hg:o.guard with
 | none=>rw [hg] at h; exact hf _ (Ext.refl s) h
 | some q=>
  obtain ⟨j,want⟩:=q;rw [hg] at h;dsimp only at h ⊢;cases hj:(ops[j]?).bind (·.dst) with
  | none=>rw [hj] at h; exact h.elim
  | some d=>
   rw [hj] at h;dsimp only at h ⊢;split at h
   ·rename_i c _;cases want <;> cases c <;> simp only [V9,if_true,if_false] at h ⊢
    ·exact hf _ (bm _ _ _) h
    ·exact hn _ ((bm _ _ _).trans (bm _ _ _)) h
    ·exact hn _ ((bm _ _ _).trans (bm _ _ _)) h
    ·exact hf _ (bm _ _ _) h
   ·exact hn _ (bm _ _ _) h
   ·exact h.elim
theorem Fh {ops:Array Oper} {K:S->Prop} {fuel:Nat} {listed:Array Bool} {i:Nat} {A:List Nat} {fz:Bool} {o:Oper} (hC:jm g.nt ops=true) (hs:Region.noSelect ops=true) (hi:ops[i]? = some o)
  (ht:yd ops listed i A fz=true) {s:St} {D:St->Prop} (hD:∀ s:St,D s->AD e.P g ops Q K fuel (listed.setIfInBounds i true) s.toS)
  (h:gT ops.toList o s (fun s=>(fz=true->lE s o=true)/\qT e o s fun v=>D (s.put o.dst v)) D):AD e.P g ops Q K (fuel+1) listed s.toS:=by
 intro a w H γ F Pr hX hPr;simp only [yd,V7] at ht;obtain ⟨⟨⟨⟨t1,t2⟩,t3⟩,t4⟩,t5⟩:=ht;obtain ⟨c1,c2⟩:=gz hC hi;have hready:=Region.ready_mem_of_contains t2
 have hbeh:behind .any ops i (fun j=>A.contains j) listed:=by
  intro j hj hun;have:=Wj.1 t4 j (by simpa using hj)
  rw [ee.2 hun] at this;cases ho:ops[j]? with
  | none=>rw [ho] at this; simp at this
  | some oj=>
   rw [ho] at this;simp only [WE,WY] at this;obtain ⟨e,he,h1⟩:=Array.any_eq_true'.1 this;simp only [V7,Wq,beq_iff_eq] at h1;exact ⟨oj,rfl,e,he,h1.1.1,ee.1 h1.1.2,h1.2⟩
 have hset:∀ j,(listed.setIfInBounds i true).getD j true=false->listed.getD j true=false:=fun j h=>(fU h).1
 rcases qc hX (S4 h) (dz c1) c2 with ⟨hw,s0,⟨s',e0,hf,hq⟩,hX0⟩ | ⟨hw,s0,⟨s',e0,hno⟩,hX0⟩
 ·have hX':=dO e0 hX0
  obtain ⟨z,d,B,e0,e1,e2,v',e3,hk⟩:=zt hX' c1 (QG hX' c1 hq);subst e3;refine ig (ri g Q) (A:=fun j=>A.contains j) (B:=B) (v:=z) hi (Region.noSelect_spec hs) fuel listed Pr (fun j b=>Pr j b\/(A.contains j=false/\B b)) a w (fun j b h=>.inl h) (fun j b h1 h2=>.inr ⟨h1,h2⟩)
   (Region.free_spec hi t1) hbeh hready (.inl ⟨hw,fun w2 hs2=>e1 w2 hs2⟩) (hD _ hk (a.put o.dst z) w H γ F _ (dO (bY _ _ _) (hX'.put (dz c1) e2)) ?_)
  intro j oj hj hun;obtain ⟨hun1,hji⟩:=fU hun;rcases hPr j oj hj hun1 with hp | hp
  ·exact .inl hp
  cases hfz:fz with
  | true=>
   refine .inr fun b hb=>?_
   rcases hb with hb | ⟨_,hb⟩
   ·exact hp b hb
   ·exact e0 (Gp c1 (hf hfz)) b hb
  | false=>
   rw [hfz,WY] at t5;have:=Wj.1 t5 j (List.mem_range.2 (Xw.1 hj).1)
   rw [ee.2 hun1,hj] at this;simp only [WE,WY,Wq,beq_iff_eq] at this;rcases this with (this | this) | this
   ·exact absurd this hji
   ·refine .inr fun b hb=>?_
    rcases hb with hb | ⟨hb,_⟩
    ·exact hp b hb
    ·rw [this] at hb; cases hb
   ·exact .inl this
 ·have hX':=dO e0 hX0
  refine ig (ri g Q) (A:=fun _=>false) (B:=fun _=>False) (v:=undef) hi (Region.noSelect_spec hs) fuel listed Pr Pr a w (fun j b h=>h) (fun j b _ h2=>h2.elim)
   (Region.free_spec hi t1) (fun j h=>by cases h) hready (.inr ⟨hw,rfl⟩) (hD _ hno (a.put o.dst undef) w H γ F _ hX' (hPr.mono hset (fun _ _ _ h=>h)))
theorem Qw {ops:Array Oper} {K:S->Prop} {fuel:Nat} {listed:Array Bool} {i:Nat} {o:Oper} (he:e.ok) (hpk:∀ x s,PQ e.pk x s->Q x s) (hC:jm g.nt ops=true) (hun:listed.getD i true=false) (hi:ops[i]? = some o) {s:St}
  {D:St->Prop} (hD:∀ s:St,D s->AD e.P g ops Q K fuel (listed.setIfInBounds i true) s.toS) (h:gT ops.toList o s (fun s=>opT e.cl o s D) D) {a:Act} {w:World} {H:FH} {γ:Gam} {F:Nm->Fp} {Pr:Nat->Bs} (hX:RX g s.toS a w H γ F) (hPr:L4 ops listed H Pr) :
  lOp e.P ops (Zx g Q) Pr i (fun a' w'=>∃ Pr':Nat->Bs,(∀ j b,Pr j b->Pr' j b)/\pm e.P .any ops (Zx g Q) (fun a w=>∃ s',K s'/\R g s' a w) fuel (listed.setIfInBounds i true) Pr' a' w') a w:=by
 have hset:∀ j,(listed.setIfInBounds i true).getD j true=false->listed.getD j true=false:=fun j h=>(fU h).1
 unfold lOp;rw [hi];obtain ⟨c1,c2⟩:=gz hC hi;dsimp only;rcases qc hX (S4 h) (dz c1) c2 with ⟨hw,s0,⟨s',e0,hop⟩,hX0⟩ | ⟨hw,s0,⟨s',e0,hno⟩,hX0⟩
 ·have hX':=dO e0 hX0
  rw [if_pos hw];by_cases hq:isQ o=true
  ·unfold opT at hop;rw [hq] at hop;dsimp only at hop;obtain ⟨H1,F1,hX1,hH1⟩:=Ew hX' (fun g' H F hx=>vN hx o);obtain ⟨z,d,B,_,e1,e2,e3⟩:=zt hX1 c1 (QG hX1 c1 hop);obtain ⟨v',rfl,hk⟩:=e3;unfold Oper.wp;rw [e1 w (fun _ _=>rfl)];exact ⟨fun _ _=>rfl,Pr,fun _ _ h=>h,hD _ hk (a.put o.dst z) w H1 γ F1 Pr (dO (bY _ _ _) (hX1.put (dz c1) e2)) (hPr.mono hset hH1)⟩
  ·have hp:∀ b,Pr i b->∃ x y,H b x=some y:=by
    rcases hPr i o hi hun with h | h
    ·exact absurd h hq
    ·exact h
   let g':G:=⟨g.nt,w,H,tot F s'.toS.m,g.out,g.ex,g.dfs⟩
   have hX2:RX g' s'.toS a w H γ F:=⟨hX'.mem,Fr.refl' rfl rfl rfl rfl (fun _ h=>h),hX'.nt,⟨hX'.df.1,hX'.df.2.1,eG hX'⟩,hX'.t⟩
   refine bT ?_ (fun x a' w' h=>?_) (Ls (g:=g') (e:=e.cl) (Q:=PQ e.cl.pk) he (fun _ _ h=>h) c1 hop a w ⟨H,γ,F,hX2⟩)
   ·intro a' w' ⟨s2,hs2,H2,γ2,F2,hX3⟩;have hfr:=hX3.fr
    refine ⟨fun b hb=>?_,Pr,fun _ _ h=>h,?_⟩
    ·obtain ⟨x,y,hxy⟩:=hp b hb;have hc:=hX'.mem.agree b x y hxy
     refine hfr.block b ?_ ?_
     ·show b<w.heap.size
      rcases WL b w.heap.size with h | h
      ·exact h
      ·simp [World.cell?,W6 h] at hc
     ·show tot F s'.toS.m b=0
      rcases WQ (tot F s'.toS.m b) with h | h
      ·exact h
      ·have:=hX'.mem.nofz b (by omega) x
       rw [hxy] at this; cases this
    ·exact hD _ hs2 a' w' H2 γ2 F2 Pr ⟨hX3.mem,hX'.fr.trans hfr,hX3.nt,⟨hX3.df.1,hX3.df.2.1,hX'.df.2.2⟩,hX3.t⟩ (hPr.mono hset hfr.hold)
   ·obtain ⟨s2,⟨v,t,rfl,rfl,hv⟩,H2,γ2,F2,hX3⟩:=h;exact ⟨t.clr.toS,rfl,hpk _ _ ⟨v,t.clr,rfl,rfl,hv⟩,H2,γ2,F2,Oy ⟨hX3.mem,hX'.fr.trans hX3.fr,hX3.nt,⟨hX3.df.1,hX3.df.2.1,hX'.df.2.2⟩,hX3.t⟩ rfl rfl⟩
 ·have hX':=dO e0 hX0
  rw [if_neg (by rw [hw]; simp)];exact ⟨Pr,fun _ _ h=>h,hD _ hno (a.put o.dst undef) w H γ F Pr hX' (hPr.mono hset (fun _ _ _ h=>h))⟩
theorem iX {ops:Array Oper} {listed:Array Bool} {s:St} {i:Nat} {A:List Nat} {fz:Bool}:∀ {rd:List Nat},xB ops listed s rd=some (i,A,fz) ->
  ∃ o,ops[i]? = some o/\yd ops listed i A fz=true/\(fz=true->lE s o=true)/\isQ o=true
 | [],h=>by cases h
 | j::r,h=>by
  simp only [xB] at h;split at h
  ·exact iX h
  ·rename_i o ho;split at h
   ·exact iX h
   ·rename_i hq;split at h
    ·rename_i hf;split at h
     ·rename_i ht;simp only [V6,Prod.mk.injEq] at h;obtain ⟨rfl,rfl,rfl⟩:=h;exact ⟨o,ho,ht,fun _=>hf,hq⟩
     ·exact iX h
    ·split at h
     ·rename_i ht;simp only [V6,Prod.mk.injEq] at h;obtain ⟨rfl,rfl,rfl⟩:=h;exact ⟨o,ho,ht,fun h=>(by cases h),hq⟩
     ·exact iX h
theorem C5 {f:Nat->Prop}:∀ {l:List Nat},Ql f l->∀ i∈l,f i
 | [i],h,j,hj=>by simp only [WJ] at hj; subst hj; exact h
 | i::i'::r,h,j,hj=>by
  simp only [Wk] at hj;rcases hj with rfl | hj
  ·exact h.1
  ·exact C5 h.2 j (by simpa using hj)
theorem Mu {s:St} {o:Oper} {t:TypeId} {x:Operand} (h:o.op=.load t x):EV s o=s:=by unfold EV; rw [h]
theorem qZ (he:e.ok) (hpk:∀ x s,PQ e.pk x s->Q x s) {ops:Array Oper} {K:S->Prop} (hC:jm g.nt ops=true) (hs:Region.noSelect ops=true) (hK:∀ t:St,k t->K t.toS) :
  ∀ (fuel:Nat) (listed:Array Bool) (s:St),gQ e ops fuel listed s k->AD e.P g ops Q K fuel listed s.toS
 | 0,listed,s,h=>by
  simp only [gQ] at h;split at h
  ·rename_i hr; exact O6 hr (hK s h) 0
  ·exact h.elim
 | fuel+1,listed,s,h=>by
  simp only [gQ] at h;split at h
  ·rename_i hr; exact O6 hr (hK s h) _
  ·rename_i i0 rd hr;split at h
   ·rename_i i A fz hp;obtain ⟨o,hi,ht,hf,hq⟩:=iX hp;rw [hi] at h;dsimp only at h;obtain ⟨c1,c2⟩:=gz hC hi;split at h
    ·rename_i hg;intro a w H γ F Pr hX hPr;obtain ⟨H1,F1,hX1,hH1⟩:=Ew hX (fun g' H F hx=>vN hx o);refine Fh (D:=fun s'=>gQ e ops fuel (listed.setIfInBounds i true) s' k) hC hs hi ht (fun s' hs'=>qZ he hpk hC hs hK fuel _ _ hs') ?_ a w H1 γ F1 Pr hX1 (hPr.mono (fun _ h=>h) hH1);unfold gT;rw [hg];refine ⟨fun hfz=>?_,h⟩;have:=hf hfz
     cases hop:o.op with
     | load t x=>rw [Mu hop]; exact this
     | _=>unfold lE; rw [hop]
    ·rename_i q hg;refine Fh (D:=fun s'=>gQ e ops fuel (listed.setIfInBounds i true) s' k) hC hs hi ht (fun s' hs'=>qZ he hpk hC hs hK fuel _ _ hs') ?_;refine IJ (fun s' _ hs'=>?_) (fun _ _ h=>h) h;split at hs'
     ·rename_i hb;refine ⟨fun hfz=>?_,hs'⟩;rw [hfz] at hb;simpa using hb
     ·exact hs'.elim
   ·intro a w H γ F Pr hX hPr;refine ⟨fun h0=>absurd (hr ▸ h0) (by simp),fun i hi=>?_⟩;have hun:listed.getD i true=false:=(mem_ready.1 hi).1
    have hfi:=C5 h i (hr ▸ hi)
    cases ho:ops[i]? with
    | none=>rw [ho] at hfi; exact hfi.elim
    | some o=>
     rw [ho] at hfi;exact Qw he hpk hC hun ho (fun s hs'=>qZ he hpk hC hs hK fuel _ s hs') hfi hX hPr
theorem NE {id:Nat} {l:List Oper} (he:e.ok) (hpk:∀ x s,PQ e.pk x s->Q x s) (hm:e.P.follows .mixedOrders=true) (hC:jm g.nt l.toArray=true) (hs:Region.noSelect l.toArray=true) {s:St}
  (hQ:∀ t:St,k t->Q .normal t.toS) (h:gQ e l.toArray l.toArray.size (Array.replicate l.toArray.size false) s k):AW e.P g (.region id l.toArray true) Q s.toS:=by
 intro a w hR;refine wp_region_any hm (kM (Z:=Zx g Q) (Q:=fun a w=>∃ s',Q .normal s'/\R g s' a w) (fun a w h=>h) (fun e a w h=>SE h) _ _ (fun _ _=>False) _ _ ?_);obtain ⟨H,γ,F,hX⟩:=hR;exact qZ (Q:=Q) he hpk hC hs hQ _ _ s h a _ H γ F _ (PX hX _ rfl rfl rfl rfl) (fun j o _ _=>.inr fun b hb=>hb.elim)
theorem EF {f f':Nat->Prop} (h:∀ i,f i->f' i):∀ {l:List Nat},Ql f l->Ql f' l
 | [],_=>trivial
 | [i],hh=>h i hh
 | i::i'::r,hh=>⟨h i hh.1,EF h (l:=i'::r) hh.2⟩
theorem ix (he:e.ok) {ops:Array Oper} {k':St->Prop}:∀ {fuel:Nat} {listed:Array Bool} {s:St},(∀ s',Ext s s'->k s'->k' s')->gQ e ops fuel listed s k->gQ e ops fuel listed s k'
 | 0,listed,s,hk,h=>by
  simp only [gQ] at h ⊢;split at h
  ·exact hk _ (Ext.refl s) h
  ·exact h.elim
 | fuel+1,listed,s,hk,h=>by
  simp only [gQ] at h ⊢;split at h
  ·exact hk _ (Ext.refl s) h
  ·split at h
   ·split at h
    ·split at h
     ·exact BB (fun v hv=>ix he (fun s' hE=>hk s' (((ED _ _).trans (bm _ _ _)).trans hE)) hv) h
     ·refine IJ (fun s1 h1 hs1=>?_) (fun s1 h1 hs1=>ix he (fun s' hE=>hk s' (h1.trans hE)) hs1) h;split at hs1
      ·exact BB (fun v hv=>ix he (fun s' hE=>hk s' ((h1.trans (bm _ _ _)).trans hE)) hv) hs1
      ·exact hs1.elim
    ·exact h.elim
   ·refine EF (fun i hi=>?_) h;split at hi
    ·exact IJ (fun s1 h1 hs1=>Kk (e:=e.cl) he (fun s2 h2 hs2=>ix he (fun s' hE=>hk s' ((h1.trans h2).trans hE)) hs2) hs1) (fun s1 h1 hs1=>ix he (fun s' hE=>hk s' (h1.trans hE)) hs1) hi
    ·exact hi.elim
end
end Go.Am
end

section
namespace Go.Am
def nU (N:List Nm):T->Prop
 | .pl p=>p.root∈N
 | .rf p=>p.root∈N
 | _=>True
def wx (N:List Nm):AV1->Prop
 | .c t=>nU N t
 | .agg ts=>∀ t∈ts,nU N t
def Jh (N:List Nm):AV->Prop
 | .one x=>wx N x
 | .tup xs=>∀ x∈xs,wx N x
 | .any=>True
def fp (r:Root):Root:=⟨r.blk,r.cells.map T.canon⟩
def oc (r r':Root):Prop:=r'.blk=r.blk/\r'.cells.length=r.cells.length/\∀ (i:Nat) t t',r.cells[i]? = some t->r'.cells[i]? = some t'->t'=t\/t'=t.canon
theorem oc.refl (r:Root):oc r r:=⟨rfl,rfl,fun i t t' h1 h2=>.inl (by rw [h1] at h2; exact (Option.some.inj h2).symm)⟩
theorem oc.canon (r:Root):oc r (fp r):=⟨rfl,by simp [fp],fun i t t' h1 h2=>.inr (by simp only [fp,Wa,h1,Option.map_some,V6] at h2; exact h2.symm)⟩
theorem oc.of {r r':Root} (h:r'=r\/r'=fp r):oc r r':=by
 rcases h with rfl | rfl
 ·exact oc.refl _
 ·exact oc.canon _
theorem oR:∀ {m:Mm} {n:Nm} {r:Root},(m.map (·.1)).Nodup->(n,r)∈m->ae m n=some r
 | [],_,_,_,h=>by cases h
 | (k,x)::m,n,r,hn,h=>by
  simp only [List.map_cons,Xa] at hn;simp only [ae];rcases Wk.1 h with h | h
  ·cases h; rw [if_pos rfl]
  ·rw [if_neg (fun e=>hn.1 (by subst e; exact WI (f:=(·.1)) h)),oR hn.2 h]
theorem C8 {F:Nm->Fp} {b:Nat}:∀ {m' m:Mm},(m'.map (·.1)).Nodup->(m.map (·.1)).Nodup->(∀ x∈m',∃ r,ae m x.1=some r)->tot F m' b<=tot F m b
 | [],_,_,_,_=>WP _
 | x::m',m,h1,h2,h=>by
  simp only [List.map_cons,Xa] at h1;obtain ⟨r,hr⟩:=h x (by simp);have e:=gA (F:=F) hr b
  have ih:=C8 (F:=F) (b:=b) (m':=m') (m:=bh m x.1) h1.2 (oI h2) (fun y hy=>by
   obtain ⟨r',hr'⟩:=h y (Wr _ hy);refine ⟨r',?_⟩;rw [iy (fun e=>h1.1 (by rw [<- e]; exact WI (f:=(·.1)) hy))];exact hr')
  show F x.1 b+tot F m' b<=tot F m b
  omega
section
variable {g:G} {a:Act} {w:World} {H:FH} {γ:Gam} {F:Nm->Fp}
theorem Jr {R R':T->Fp->Value->Prop}:∀ {ts:List T} {ts':List T} {f:Fp} {vs:List Value},ts'.length=ts.length->(∀ (i:Nat) t t' f v,ts[i]? = some t->ts'[i]? = some t'->R t f v->R' t' f v)->Ts R ts f vs->Ts R' ts' f vs
 | [],[],_,_,_,_,h=>h
 | t::ts,t'::ts',f,vs,hl,hi,h=>by
  obtain ⟨v,r,f1,f2,e1,e2,h1,h2⟩:=h;exact ⟨v,r,f1,f2,e1,e2,hi 0 t t' _ _ rfl rfl h1,Jr (by simpa using hl) (fun i=>hi (i+1)) h2⟩
theorem Nu {s s':S} (hX:RX g s a w H γ F) (hnd:(s'.m.map (·.1)).Nodup)
  (hm:∀ x∈s'.m,∃ r,ae s.m x.1=some r/\oc r x.2/\∀ t∈r.cells,nU (s'.m.map (·.1)) t)
  (ht:∀ i,aA s'.t i=.any\/((aA s'.t i=aA s.t i\/aA s'.t i=(aA s.t i).map T.canon)/\Jh (s'.m.map (·.1)) (aA s.t i))):RX g s' a w H γ F:=by
 have hget:∀ n,n∈s'.m.map (·.1)->∃ r r',ae s.m n=some r/\ae s'.m n=some r'/\oc r r':=by
  intro n hn;obtain ⟨x,hx,rfl⟩:=WW.1 hn;obtain ⟨r,h1,h2,_⟩:=hm x hx;exact ⟨r,x.2,h1,oR hnd hx,h2⟩
 have cell:∀ {r r':Root},oc r r'->r'.cells.length=r.cells.length/\∀ (i:Nat) sub l,r.cells[i]? = some (.ow sub l)->r'.cells[i]? = some (.ow sub l):=by
  rintro r r' ⟨_,h2,h3⟩
  refine ⟨h2,fun i sub l h=>?_⟩;have hlt:i<r'.cells.length:=by rw [h2]; exact ai h
  rw [V8 hlt];rcases h3 i _ _ h (V8 hlt) with e | e
  ·rw [e]
  ·rw [e]; rfl
 have pl:∀ p,p.root∈s'.m.map (·.1)->bA s.m p->bA s'.m p:=by
  intro p hp h;obtain ⟨r,r',e1,e2,e3⟩:=hget _ hp;obtain ⟨c1,c2⟩:=cell e3;unfold bA at h ⊢;rw [e1] at h;rw [e2];dsimp only at h ⊢;cases hpath:p.path with
  | nil=>rw [hpath] at h; dsimp only at h ⊢; omega
  | cons st q=>
   rw [hpath] at h;dsimp only at h ⊢;split at h
   ·rename_i sub l hc; rw [c2 _ _ _ hc]; exact h
   ·exact h.elim
 have rf:∀ p,p.root∈s'.m.map (·.1)->fl s.m p->fl s'.m p:=by
  intro p hp h;obtain ⟨r,r',e1,e2,e3⟩:=hget _ hp;obtain ⟨c1,c2⟩:=cell e3;unfold fl at h ⊢;rw [e1] at h;rw [e2];dsimp only at h ⊢;split at h
  ·rename_i sub l hc hpath; rw [c2 _ _ _ hc,hpath]; trivial
  ·rename_i sub l st q hc hpath; rw [c2 _ _ _ hc,hpath]; exact h
  ·exact h.elim
 have tr:∀ {t:T} {f:Fp} {v:Value},nU (s'.m.map (·.1)) t->TR w H γ s.m t f v->TR w H γ s'.m t f v:=by
  intro t f v hin h;cases t with
  | pl p=>exact ⟨h.1,pl p hin h.2.1,h.2.2⟩
  | rf p=>exact ⟨h.1,rf p hin h.2.1,h.2.2⟩
  | _=>exact h
 have trc:∀ {t:T} {f:Fp} {v:Value},nU (s'.m.map (·.1)) t->TR w H γ s.m t f v->TR w H γ s'.m t.canon f v:=by
  intro t f v hin h;have h':=tr hin h
  cases t with
  | nil=>exact ⟨h'.1,(ch (w:=w) (H:=H) (γ:=γ) (m:=s'.m) .nil v ⟨fun _=>rfl,h'.2⟩).2⟩
  | _=>exact h'
 have hsub:∀ b,tot F s'.m b<=tot F s.m b:=fun b=>C8 hnd hX.mem.keys (fun x hx=>by obtain ⟨r,h,_⟩:=hm x hx; exact ⟨r,h⟩)
 refine ⟨⟨hX.mem.agree,fun x hx=>?_,hnd,fun b=>Xt (hsub b) (hX.mem.le1 b),fun b hb=>hX.mem.lt b (by have:=hsub b; omega),fun b hb=>hX.mem.nofz b (by have:=hsub b; omega)⟩,
  ⟨hX.fr.size,hX.fr.os,hX.fr.tape,hX.fr.output,hX.fr.block,hX.fr.hold,hX.fr.hnew,fun b hb=>hX.fr.tt b (by have:=hsub b; omega),hX.fr.nz⟩,hX.nt,hX.df,fun i=>?_⟩
 ·obtain ⟨r,h1,h2,h3⟩:=hm x hx;have hR:=hX.mem.roots _ (am h1)
  have hlen:=(cell h2).1
  have key:∀ (i:Nat) t t' f v,r.cells[i]? = some t->x.2.cells[i]? = some t'->TR w H γ s.m t f v->TR w H γ s'.m t' f v:=by
   intro i t t' f v e1 e2 h;have hin:=h3 t (WC e1)
   rcases h2.2.2 i t t' e1 e2 with e | e
   ·rw [e]; exact tr hin h
   ·rw [e]; exact trc hin h
  have hblk:x.2.blk=r.blk:=h2.1
  unfold be at hR ⊢;rw [hblk];split at hR
  ·rename_i hb;rw [if_pos hb];obtain ⟨b,cs,ty,fz,g',k1,k2,k3,k4,k5,k6⟩:=hR;exact ⟨b,cs,ty,fz,g',k1,k2,k3,by rw [hlen]; exact k4,Jr hlen key k5,k6⟩
  ·rename_i hb;rw [if_neg hb];obtain ⟨v,t,k1,k2,k3⟩:=hR;dsimp only at k2;rw [k2] at hlen key
   match hc:x.2.cells,hlen with
   | [t'],_=>exact ⟨v,t',k1,rfl,key 0 t t' _ _ rfl (by rw [hc]; rfl) k3⟩
 ·rcases ht i with h | ⟨h,hin⟩
  ·rw [h]; trivial
  ·have hv:=hX.t i
   have one:∀ {x:AV1} {y:Value},wx (s'.m.map (·.1)) x->AR1 w H γ s.m x y->AR1 w H γ s'.m x y:=by
    intro x y hin h;cases x with
    | c t=>exact tr hin h
    | agg ts=>
     obtain ⟨cs,e1,e2,e3⟩:=h;refine ⟨cs,e1,e2,Jr rfl (fun i t t' f v h1 h2 h=>?_) e3⟩;rw [h1] at h2; obtain rfl:=Option.some.inj h2;exact tr (hin t (WC h1)) h
   have all:AR w H γ s'.m (aA s.t i) (g.tv a i):=by
    revert hv hin
    cases aA s.t i with
    | one x=>exact fun hin hv=>one hin hv
    | tup xs=>
     rintro hin ⟨l,e,hl⟩
     refine ⟨l,e,?_⟩;have:∀ (xs:List AV1) (ys:List Value),(∀ x∈xs,wx (s'.m.map (·.1)) x)->ARs w H γ s.m xs ys->ARs w H γ s'.m xs ys:=by
      intro xs;induction xs with
      | nil=>intro ys _ h; cases ys <;> exact h
      | cons x xs ih=>
       intro ys hin h;cases ys with
       | nil=>exact h.elim
       | cons y ys=>exact ⟨one (hin x (by simp)) h.1,ih ys (fun z hz=>hin z (Wr _ hz)) h.2⟩
     exact this xs _ hin hl
    | any=>exact fun _ _=>trivial
   rcases h with h | h
   ·rw [h]; exact all
   ·rw [h]; exact dT ch all
end
end Go.Am
end
