/-
  Part 14: AmY11 · AmZ1 · AmV2L · AmZ2 · AmJoinW · AmE3 · AmE3b · AmE3c · AmE3d · AmE20 · AmAppTwo · AmBuildTwo · AmE3e.
-/
import Derived.Test.YtlikflolhhlgjaaGreatDoorBa13
import Derived.Lib.Split
set_option linter.unusedSimpArgs false
set_option linter.unusedVariables false
set_option linter.unusedSectionVars false
set_option linter.unnecessarySimpa false
section
namespace Go.Am
open Go
theorem Ss (c:UInt8) (KK:Bool->Prop) (h:KK (Lt.blank c)):Fv c KK:=by
 unfold Fv;unfold Lt.blank at h;simp only [BU];cases h1:decide (c=32) <;> simpa [h1] using h
theorem NZ (s:List UInt8) (hp:Lt.wC s) (KK:List (List UInt8)×Bool->Prop) (h:KK (Lt.bK s)):Aq s KK:=by
 have hp:s.length<=1099511627776:=hp
 unfold Aq; dsimp only;unfold Lt.bK at h;refine eV _ (s.length+1) (fun i x=>(i<=s.length/\∃ out f w,x=(out,f,(i:Int))/\((f=-1/\w=[])\/∃ j:Nat,f=(j:Int)/\j<i/\w=(s.drop j).take (i-j))/\out.length<=i/\KK (Lt.dy (s.drop i) w out))\/(i=s.length+1/\∃ out f,x=(out,f,(i:Int))/\KK (out,true))) (fun R i x hi hx hR=>?_) (fun R x hx=>?_) _ (Or.inl ⟨aeR _,[],-1,[],rfl,.inl ⟨rfl,rfl⟩,adH _,h⟩)
 ·rcases hx with ⟨hi,out,f,w,rfl,hw,ho,hk⟩ | ⟨e,_⟩
  ·simp only [show decide ((i:Int)<=(s.length:Int))=true by simpa using hi,if_true,Int.toNat_natCast];refine fun _ J3 hJ3=>?_
   have w1:IntKind.i64.wrap ((i:Int)+1)=((i+1:Nat):Int):=b9 (by omega)
   rw [w1] at hJ3;have push:∀ B:List (List UInt8)->Prop,B (if w=[] then out else out++[w])->ab (α:=List (List UInt8)) (fun J7=>if (decide (0<=f))=true then ((0:Int)<=f/\(0:Int)<=(i:Int)/\(f.toNat<=i/\i<=s.length)/\(out.length+[(s.drop f.toNat).take (i-f.toNat)].length<=4611686018427387904/\(out.length+[(s.drop f.toNat).take (i-f.toNat)].length)*16<=140737488355328)/\J7 (out++[(s.drop f.toNat).take (i-f.toNat)])) else (J7 out)) B:=by
    intro B hB J hJ;rcases hw with ⟨rfl,rfl⟩ | ⟨j,rfl,hj,rfl⟩
    ·exact hJ _ hB
    ·rw [if_pos (by simp),Int.toNat_natCast];have hne:¬ (s.drop j).take (i-j)=[]:=by
      intro e;have:=congrArg List.length e
      simp only [aeF,adT,adL] at this; omega
     rw [if_neg hne] at hB;refine ⟨by omega,by omega,⟨by omega,hi⟩,⟨?_,?_⟩,hJ _ hB⟩ <;> rw [adX] <;> omega
   have hol:(if w=[] then out else out++[w]).length<=i+1:=by
    split
    ·omega
    ·rw [adD,adX]; omega
   by_cases he:i=s.length
   ·refine fun J5 hJ5=>?_
    rw [show decide ((i:Int)=(s.length:Int))=true from decide_eq_true (by omega)];refine fun _=>(hJ5 true ?_)
    simp only [if_true];refine push _ (hJ3 _ (hR _ (.inr ⟨by omega,_,_,rfl,?_⟩)));rw [he,afW] at hk;exact hk
   have hlt:i<s.length:=by omega
   have hd:s.drop i=s.getD i 0::s.drop (i+1):=by
    rw [aeB hlt,List.getD,adA hlt]; rfl
   have et:∀ j,j<=i->(s.drop j).take (i+1-j)=(s.drop j).take (i-j)++[s.getD i 0]:=by
    intro j hj;have:=fP (s.drop j) (i:=i-j) (by rw [adT]; omega)
    rw [show i+1-j=i-j+1 by omega,this]
    congr 2
    rw [List.getD,adW,show j+(i-j)=i by omega]; rfl
   rw [hd,Lt.dy] at hk;rw [show decide ((i:Int)=(s.length:Int))=false from decide_eq_false (by omega)];refine fun J5 hJ5=>fun _=>⟨⟨by omega,hlt⟩,hJ5 _ ?_⟩
   refine ifk (fun hb=>?_) (fun hb=>?_)
   ·rw [if_pos hb] at hk;refine push _ (hJ3 _ (hR _ (.inl ⟨by omega,_,_,_,rfl,.inl ⟨rfl,rfl⟩,hol,hk⟩)))
   ·rw [if_neg hb] at hk;have e32:(32:UInt8).toNat=32:=rfl
    have e126:(126:UInt8).toNat=126:=rfl
    have bad:(s.getD i 0).toNat<=32\/126 < (s.getD i 0).toNat->KK ([],false):=fun hc=>by rw [if_pos hc] at hk; exact hk
    simp only [au,bL,al,jval,e32,e126];refine ⟨⟨by omega,hlt⟩,ifk (fun c1=>?_) (fun c1=>⟨⟨by omega,hlt⟩,ifk (fun c2=>?_) (fun c2=>?_)⟩)⟩
    ·exact bad (by rw [decide_eq_true_eq] at c1; omega)
    ·exact bad (by rw [decide_eq_true_eq] at c2; omega)
    rw [decide_eq_true_eq] at c1 c2;rw [if_neg (by omega)] at hk;have fin:∀ f:Int,(∃ j:Nat,f=(j:Int)/\j<i+1/\w++[s.getD i 0]=(s.drop j).take (i+1-j))->J3 (out,f):=fun f hf=>hJ3 _ (hR _ (.inl ⟨by omega,_,_,_,rfl,.inr hf,by show out.length<=i+1; omega,hk⟩))
    rcases hw with ⟨rfl,rfl⟩ | ⟨j,rfl,hj,rfl⟩
    ·rw [if_pos (by simp)];exact fin _ ⟨i,rfl,by omega,by rw [et i (adH _)]; simp⟩
    ·rw [if_neg (by simp)];exact fin _ ⟨j,rfl,by omega,(et j (by omega)).symm⟩
  ·omega
 ·rcases hx with ⟨hi,_⟩ | ⟨_,out,f,rfl,hk⟩
  ·omega
  ·simp only [show decide (((s.length+1:Nat):Int)<=(s.length:Int))=false by simp; omega,adB,if_false];exact fun _=>hk
theorem Pp (c b:UInt8) (s:List UInt8):([c]:List UInt8).isPrefixOf (b::s)=(c==b):=by
 simp [List.isPrefixOf]
theorem wL (c:UInt8):∀ a b:List UInt8,(∀ x∈a,x≠c)->Go.Lib.index (a++c::b) [c]=(a.length:Int)
 | [],b,_=>by rw [ad6,Go.Lib.index]; simp [List.isPrefixOf]
 | x::a,b,h=>by
  have ih:=wL c a b (fun y hy=>h y (by simp [hy]))
  rw [aeM,Go.Lib.index,Pp,show (c==x)=false from beq_eq_false_iff_ne.2 (fun e=>h x (by simp) e.symm),ih];have:¬ ((a.length:Int) == -1)=true:=by simp
  simp only [adB,if_false,this];rfl
theorem AG (c:UInt8):∀ a:List UInt8,(∀ x∈a,x≠c)->Go.Lib.index a [c]=-1
 | [],_=>by rw [Go.Lib.index]; simp
 | x::a,h=>by
  have ih:=AG c a (fun y hy=>h y (by simp [hy]))
  rw [Go.Lib.index,Pp,show (c==x)=false from beq_eq_false_iff_ne.2 (fun e=>h x (by simp) e.symm),ih];simp
theorem pv (c:UInt8):∀ s:List UInt8,(∀ x∈s,x≠c)\/∃ a b,s=a++c::b/\∀ x∈a,x≠c
 | []=>.inl (by simp)
 | x::s=>by
  by_cases hx:x=c
  ·subst hx; exact .inr ⟨[],s,rfl,by simp⟩
  ·have go:∀ a:List UInt8,(∀ y∈a,y≠c)->∀ y∈x::a,y≠c:=fun a h y hy=>(adK.1 hy).elim (fun e=>e ▸ hx) (h y)
   rcases pv c s with h | ⟨a,b,rfl,h⟩
   ·exact .inl (go s h)
   ·exact .inr ⟨x::a,b,rfl,go a h⟩
theorem jP {s:List UInt8} {c:UInt8} (h:∀ x∈s,x≠c):Lt.ez s [c]=[s]:=by
 unfold Lt.ez;rw [Go.Lib.splitB_data];have:Go.Lib.countB ⟨s.toArray⟩ ⟨[c].toArray⟩=0:=Go.Lib.count_miss (by simpa using AG c s h)
 rw [this]; rfl
theorem sU {a b:List UInt8} {c:UInt8} (h:∀ x∈a,x≠c):Lt.ez (a++c::b) [c]=a::Lt.ez b [c]:=by
 unfold Lt.ez;rw [Go.Lib.splitB_data,Go.Lib.splitB_data];have hi:Go.Lib.index (a++c::b) [c]=(a.length:Int):=wL c a b h
 have hc:Go.Lib.countB ⟨(a++c::b).toArray⟩ ⟨[c].toArray⟩=1+Go.Lib.countB ⟨b.toArray⟩ ⟨[c].toArray⟩:=by
  have:=Go.Lib.count_hit (s:=a++c::b) (sub:=[c]) (i:=a.length) (by simp) hi
  have e:(a++c::b).drop (a.length+[c].length)=b:=by simp
  rw [e] at this;exact this
 rw [hc,ahH,Go.Lib.splitK];show (if Go.Lib.index (a++c::b) [c] == -1 then _ else _)=_
 have:¬ ((a.length:Int) == -1)=true:=by simp
 rw [hi,if_neg this];show (a++c::b).take ((a.length:Int).toNat+0)::Go.Lib.splitK [c] 0 _ ((a++c::b).drop ((a.length:Int).toNat+1))=_
 rw [Int.toNat_natCast]
 congr 1
 ·simp
 ·congr 1; simp
abbrev front (l:List UInt8):List UInt8:=(Lt.Vo l [59]).1
theorem vF {l:List UInt8} (h:∀ x∈l,x≠59):front l=l:=by
 unfold front Lt.Vo Go.Lib.cut;rw [AG 59 l h]; simp
theorem qD {a b:List UInt8} (h:∀ x∈a,x≠59):front (a++59::b)=a:=by
 unfold front Lt.Vo Go.Lib.cut;rw [wL 59 a b h]; simp
theorem Er:∀ (l:List UInt8) (k:Lt.Cut),k.bad=true->(l.foldl Lt.Cut.byte k).bad=true
 | [],k,h=>h
 | c::l,k,h=>by
  refine Er l _ ?_;unfold Lt.Cut.byte Lt.Cut.word;split
  ·exact h
  ·split
   ·exact h
   ·simp [h]
theorem qJ:∀ (l:List UInt8) (k:Lt.Cut),(l.foldl Lt.Cut.byte k).out=k.out/\(l.foldl Lt.Cut.byte k).n=k.n
 | [],k=>⟨rfl,rfl⟩
 | c::l,k=>by
  have ih:=qJ l (k.byte c)
  rw [afS,ih.1,ih.2];unfold Lt.Cut.byte Lt.Cut.word;split
  ·exact ⟨rfl,rfl⟩
  ·split <;> exact ⟨rfl,rfl⟩
theorem nR:∀ (l:List UInt8) (k:Lt.Cut),k.remark=true->k.w=[]->(l.foldl Lt.Cut.byte k).word.l=k.l/\(l.foldl Lt.Cut.byte k).bad=k.bad
 | [],k,h,hw=>⟨by unfold Lt.Cut.word; simp [hw],rfl⟩
 | c::l,k,h,hw=>by
  have e:k.byte c=k:=by
   obtain ⟨o,L,w,n,r,b⟩:=k;have h:r=true:=h
   have hw:w=[]:=hw
   subst h; subst hw;unfold Lt.Cut.byte Lt.Cut.word;split
   ·rfl
   ·rfl
  rw [afS,e]; exact nR l k h hw
theorem gv:∀ (l:List UInt8) (k:Lt.Cut),(∀ x∈l,x≠59)->k.remark=false->k.bad=false ->
  (l.foldl Lt.Cut.byte k).remark=false/\(l.foldl Lt.Cut.byte k).bad=!(Lt.dy l k.w k.l).2/\((Lt.dy l k.w k.l).2=true->(l.foldl Lt.Cut.byte k).word.l=(Lt.dy l k.w k.l).1)
 | [],k,_,hr,hb=>by
  refine ⟨hr,by rw [Lt.dy]; exact hb,fun _=>?_⟩;rw [Lt.dy]; rfl
 | c::l,k,h,hr,hb=>by
  have h59:¬ c=59:=h c (by simp)
  have h':∀ x∈l,x≠59:=fun x hx=>h x (by simp [hx])
  rw [afS,Lt.dy];by_cases hbl:Lt.blank c=true
  ·rw [if_pos hbl];have e:k.byte c=k.word:=by
    unfold Lt.Cut.byte;rw [if_neg h59,if_pos];unfold Lt.blank at hbl;rw [hr];simpa using hbl
   rw [e];exact gv l k.word h' hr hb
  ·rw [if_neg hbl];have e:k.byte c={ k with bad:=k.bad||(decide (c.toNat < 33)||decide (126<c.toNat)),w:=k.w++[c] }:=by
    unfold Lt.Cut.byte;rw [if_neg h59,if_neg];unfold Lt.blank at hbl;rw [hr];simpa using hbl
   rw [e];by_cases hc:c.toNat<=32\/126<c.toNat
   ·rw [if_pos hc];have hbad:(decide (c.toNat < 33)||decide (126<c.toNat))=true:=by simp; omega
    rw [hb,hbad];refine ⟨?_,?_,fun h=>by simp at h⟩
    ·have hrr:∀ (l:List UInt8) (k:Lt.Cut),(∀ x∈l,x≠59)->k.remark=false->(l.foldl Lt.Cut.byte k).remark=false:=by
      intro l;induction l with
      | nil=>intro k _ h; exact h
      | cons d l ih=>
       intro k h1 h2;refine ih _ (fun x hx=>h1 x (by simp [hx])) ?_;unfold Lt.Cut.byte Lt.Cut.word;rw [if_neg (h1 d (by simp))];split <;> exact h2
     exact hrr l _ h' hr
    ·rw [Er l _ rfl]; rfl
   ·rw [if_neg hc];have hbad:(decide (c.toNat < 33)||decide (126<c.toNat))=false:=by simp; omega
    rw [hb,hbad];exact gv l ⟨k.out,k.l,k.w++[c],k.n,k.remark,false⟩ h' hr rfl
theorem zt (l:List UInt8) (out:List Lt.RLine) (n:Int):(l.foldl Lt.Cut.byte ⟨out,[],[],n,false,false⟩).bad=!(Lt.bK (front l)).2 /\
  ((Lt.bK (front l)).2=true->(l.foldl Lt.Cut.byte ⟨out,[],[],n,false,false⟩).line=⟨if (Lt.bK (front l)).1=[] then out else out++[⟨n,(Lt.bK (front l)).1⟩],[],[],n+1,false,false⟩):=by
 have fin:∀ k:Lt.Cut,k.out=out->k.n=n->k.bad=!(Lt.bK (front l)).2->((Lt.bK (front l)).2=true->k.word.l=(Lt.bK (front l)).1)->k.bad=!(Lt.bK (front l)).2/\((Lt.bK (front l)).2=true->k.line=⟨if (Lt.bK (front l)).1=[] then out else out++[⟨n,(Lt.bK (front l)).1⟩],[],[],n+1,false,false⟩):=by
  intro k h1 h2 h3 h4;refine ⟨h3,fun hok=>?_⟩;unfold Lt.Cut.line;rw [h4 hok,h1,h2,h3,hok]; rfl
 have ho:=qJ l ⟨out,[],[],n,false,false⟩
 refine fin _ ho.1 ho.2 ?_ ?_
 ·rcases pv 59 l with h | ⟨a,b,rfl,h⟩
  ·rw [vF h]; exact (gv l ⟨out,[],[],n,false,false⟩ h rfl rfl).2.1
  ·rw [qD h,List.foldl_append,afS];obtain ⟨h1,h2,h3⟩:=gv a ⟨out,[],[],n,false,false⟩ h rfl rfl;have e:(a.foldl Lt.Cut.byte ⟨out,[],[],n,false,false⟩).byte 59={ (a.foldl Lt.Cut.byte ⟨out,[],[],n,false,false⟩).word with remark:=true }:=by
    unfold Lt.Cut.byte; rw [if_pos rfl]
   rw [e,(nR b _ rfl rfl).2];exact h2
 ·rcases pv 59 l with h | ⟨a,b,rfl,h⟩
  ·rw [vF h]; exact (gv l ⟨out,[],[],n,false,false⟩ h rfl rfl).2.2
  ·rw [qD h,List.foldl_append,afS];obtain ⟨h1,h2,h3⟩:=gv a ⟨out,[],[],n,false,false⟩ h rfl rfl;have e:(a.foldl Lt.Cut.byte ⟨out,[],[],n,false,false⟩).byte 59={ (a.foldl Lt.Cut.byte ⟨out,[],[],n,false,false⟩).word with remark:=true }:=by
    unfold Lt.Cut.byte; rw [if_pos rfl]
   rw [e,(nR b _ rfl rfl).1];exact h3
theorem wg:∀ (l r:List UInt8) (k:Lt.Cut),(∀ x∈l,x≠10)->Lt.cq (l++r) k=Lt.cq r (l.foldl Lt.Cut.byte k)
 | [],r,k,_=>rfl
 | c::l,r,k,h=>by
  rw [aeM,Lt.cq,if_neg (h c (by simp)),wg l r _ (fun x hx=>h x (by simp [hx]))]; rfl
def gU:List (List UInt8)->Int->List Lt.RLine->List Lt.RLine×Int×Int
 | [],_,out=>(out,0,0)
 | l::r,n,out=>if (Lt.bK (front l)).2 then gU r (n+1) (if (Lt.bK (front l)).1=[] then out else out++[⟨n,(Lt.bK (front l)).1⟩]) else ([],n,3)
theorem Cf:∀ (m:Nat) (s:List UInt8) (n:Int) (out:List Lt.RLine),s.length<=m->Lt.cq s ⟨out,[],[],n,false,false⟩=gU (Lt.ez s [10]) n out:=by
 intro m;induction m with
 | zero=>
  intro s n out hs;have:s=[]:=agP.1 (by omega)
  subst this;rw [jP (by simp)];rfl
 | succ m ih=>
  intro s n out hs;rcases pv 10 s with h | ⟨a,b,rfl,h⟩
  ·rw [jP h];have:=wg s [] ⟨out,[],[],n,false,false⟩ h
   rw [aeO] at this;rw [this,Lt.cq,gU];obtain ⟨h1,h2⟩:=zt s out n;rw [h1];cases hok:(Lt.bK (front s)).2 with
   | false=>simp [(qJ s ⟨out,[],[],n,false,false⟩).2]
   | true=>simp [h2 hok,gU]
  ·rw [sU h,wg a _ _ h,Lt.cq,if_pos rfl,gU];obtain ⟨h1,h2⟩:=zt a out n;rw [h1];cases hok:(Lt.bK (front a)).2 with
   | false=>simp [(qJ a ⟨out,[],[],n,false,false⟩).2]
   | true=>
    simp only [afV,adB,if_false,if_true];rw [h2 hok];exact ih b _ _ (by simp only [adD,adF] at hs; omega)
theorem Ng:∀ (m:Nat) (s:List UInt8),s.length<=m->(Lt.ez s [10]).length<=s.length+1/\∀ l∈Lt.ez s [10],l.length<=s.length:=by
 intro m;induction m with
 | zero=>
  intro s hs;have:s=[]:=agP.1 (by omega)
  subst this;rw [jP (by simp)]; simp
 | succ m ih=>
  intro s hs;rcases pv 10 s with h | ⟨a,b,rfl,h⟩
  ·rw [jP h]; simp
  ·rw [sU h];have hl:(a++10::b).length=a.length+(b.length+1):=by simp
   obtain ⟨h1,h2⟩:=ih b (by omega);refine ⟨by rw [adF,hl]; omega,fun l hm=>?_⟩;rcases adK.1 hm with rfl | hm
   ·omega
   ·have:=h2 l hm; omega
theorem DM (l:List UInt8):(front l).length<=l.length:=by
 rcases pv 59 l with h | ⟨a,b,rfl,h⟩
 ·rw [vF h]; exact adH _
 ·rw [qD h]; simp
theorem NI (s:List UInt8) (KK:List Lt.Line×Int×Int->Prop) (h:KK (Lt.fq s)):AT s KK:=by
 unfold AT; dsimp only;unfold Lt.fq Lt.cZ at h;refine fun _=>ifk (fun hc=>?_) (fun hc=>?_)
 ·rw [if_pos (by simp at hc; omega)] at h; exact h
 have hs:s.length<=4194304:=by simp at hc; omega
 rw [if_neg (by omega),Cf _ s 1 [] (adH _)] at h;obtain ⟨hl1,hl2⟩:=Ng _ s (adH _);generalize Lt.ez s [10]=L at h hl1 hl2 ⊢;refine ⟨⟨by omega,by decide⟩,fun _=>?_⟩;refine eV _ L.length (fun i x=>∃ out:List Lt.RLine,x=(out.map fun l=>(⟨l.N,l.Words⟩:Lt.Line),(i:Int))/\out.length<=i/\KK ((gU (L.drop i) ((i:Int)+1) out).1.map fun l=>(⟨l.N,l.Words⟩:Lt.Line),(gU (L.drop i) ((i:Int)+1) out).2.1,(gU (L.drop i) ((i:Int)+1) out).2.2)) (fun R i x hi hx hR=>?_) (fun R x hx=>?_) _ ⟨[],rfl,adH _,by simpa using h⟩
 ·obtain ⟨out,rfl,ho,hk⟩:=hx;simp only [cX hi,if_true,Int.toNat_natCast];have hlen:=hl2 _ (eM L hi)
  have hd:L.drop i=L.getD i default::L.drop (i+1):=by
   rw [aeB hi,List.getD,adA hi]; rfl
  rw [hd,gU] at hk;have hfl:=DM (L.getD i default)
  simp only [show IntKind.i64.wrap ((i:Int)+1)=((i:Int)+1) from dq (by omega) (by omega),au,bL,aA,al,aQ];refine ⟨⟨by omega,hi⟩,by show (L.getD i default).length < 4294967281; omega,by show (front (L.getD i default)).length<=1099511627776; omega,?_⟩;by_cases hok:(Lt.bK (front (L.getD i default))).2=true
  ·rw [if_pos hok] at hk;refine ifk (fun hc=>by rw [hok] at hc; simp at hc) (fun _=>fun _=>?_);refine ifk (fun hc=>?_) (fun hc=>?_)
   ·have hne:¬ (Lt.bK (front (L.getD i default))).1=[]:=by intro e; rw [decide_eq_true_eq,e] at hc; simp at hc
    rw [if_neg hne] at hk;refine ⟨⟨by simp; omega,by simp; omega⟩,hR _ ⟨out++[⟨(i:Int)+1,(Lt.bK (front (L.getD i default))).1⟩],?_,by simp; omega,by rw [show ((i+1:Nat):Int)=(i:Int)+1 from rfl]; exact hk⟩⟩;rw [ad5]; rfl
   ·have hne:(Lt.bK (front (L.getD i default))).1=[]:=by
     cases hh:(Lt.bK (front (L.getD i default))).1 with
     | nil=>rfl
     | cons a b=>rw [decide_eq_true_eq,hh] at hc; simp at hc
    rw [if_pos hne] at hk;exact hR _ ⟨out,rfl,by omega,by rw [show ((i+1:Nat):Int)=(i:Int)+1 from rfl]; exact hk⟩
  ·rw [if_neg hok] at hk;exact ifk (fun _=>hk) (fun hc=>absurd (by rw [ad3.2 hok]; rfl) hc)
 ·obtain ⟨out,rfl,ho,hk⟩:=hx;rw [afW,gU] at hk;simp only [dz,adB,if_false];exact hk
end Go.Am
end

section
namespace Go.Am
open Go
end Go.Am
end

section
namespace Go.Am
open Go
def lq:List (List UInt8)->Int->List Lt.RLine
 | [],_=>[]
 | l::r,n=>(if (Lt.bK (front l)).1=[] then [] else [⟨n,(Lt.bK (front l)).1⟩])++lq r (n+1)
theorem KA:∀ (L:List (List UInt8)) (n:Int) (out:List Lt.RLine),(gU L n out).2.2=0->gU L n out=(out++lq L n,0,0)/\∀ l∈L,(Lt.bK (front l)).2=true
 | [],n,out,_=>⟨by simp [gU,lq],by simp⟩
 | l::r,n,out,h=>by
  rw [gU] at h ⊢;split at h
  ·rename_i hok;obtain ⟨h1,h2⟩:=KA r _ _ h;rw [if_pos hok,h1,lq];refine ⟨?_,fun x hx=>?_⟩
   ·split
    ·simp
    ·simp
   ·rcases adK.1 hx with rfl | hx
    ·exact hok
    ·exact h2 x hx
  ·cases h
theorem Jl:∀ (L:List (List UInt8)) (n:Int),(∀ x∈lq L n,n<=x.N)/\(lq L n).Pairwise (fun x y=>x.N<y.N)
 | [],n=>by simp [lq]
 | l::r,n=>by
  obtain ⟨h1,h2⟩:=Jl r (n+1);rw [lq];split
  ·exact ⟨fun x hx=>by have:=h1 x hx; omega,h2⟩
  ·refine ⟨fun x hx=>?_,?_⟩
   ·rcases adJ.1 hx with hx | hx
    ·rw [adM.1 hx]; exact agO _
    ·have:=h1 x hx; omega
   ·refine List.pairwise_append.2 ⟨List.pairwise_singleton _ _,h2,fun a ha b hb=>?_⟩;rw [adM.1 ha];have:=h1 b hb
    show n<b.N; omega
theorem qf:∀ (s w:List UInt8) (out:List (List UInt8)),(∀ c∈s,c≠59)->(∀ v∈out,eL v)->(∀ c∈w,oz c=true)->∀ v∈(Lt.dy s w out).1,eL v
 | [],w,out,_,ho,hw=>by
  rw [Lt.dy];split
  ·exact ho
  ·rename_i hne;exact iX ho (am ⟨hne,hw⟩ bQ)
 | c::r,w,out,hs,ho,hw=>by
  rw [Lt.dy];split
  ·refine qf r [] _ (fun x hx=>hs x (by simp [hx])) ?_ (by simp);split
   ·exact ho
   ·rename_i hne;exact iX ho (am ⟨hne,hw⟩ bQ)
  ·split
   ·simp
   ·rename_i hc;refine qf r _ _ (fun x hx=>hs x (by simp [hx])) ho (fun x hx=>?_);rcases adJ.1 hx with hx | hx
    ·exact hw x hx
    ·rw [adM.1 hx];have:=hs c (by simp)
     unfold oz; simp [this]; omega
theorem Wc (l:List UInt8):∀ c∈front l,c≠59:=by
 rcases pv 59 l with h | ⟨a,b,rfl,h⟩
 ·rw [vF h]; exact h
 ·rw [qD h]; exact h
theorem zZ:∀ (L:List (List UInt8)) (n:Int),∀ x∈lq L n,rJ ⟨x.N,x.Words⟩
 | [],n=>by simp [lq]
 | l::r,n=>by
  rw [lq];intro x hx;rcases adJ.1 hx with hx | hx
  ·split at hx
   ·cases hx
   ·rename_i hne;rw [adM.1 hx];exact ⟨hne,qf _ _ _ (Wc l) (by simp) (by simp)⟩
  ·exact zZ r _ x hx
def aq (l:List (List UInt8)):Nat:=(l.map fun w=>w.length+1).sum
theorem qA (a b:List (List UInt8)):aq (a++b)=aq a+aq b:=by simp [aq]
theorem vO (w:List UInt8):aq [w]=w.length+1:=by simp [aq]
theorem rZ:∀ (s w:List UInt8) (out:List (List UInt8)),aq (Lt.dy s w out).1<=aq out+w.length+s.length+1
 | [],w,out=>by
  rw [Lt.dy];dsimp only;split
  ·omega
  ·rw [qA,vO]; simp; omega
 | c::r,w,out=>by
  rw [Lt.dy];split
  ·have:=rZ r [] (if w=[] then out else out++[w])
   have h2:aq (if w=[] then out else out++[w])<=aq out+w.length+1:=by
    split
    ·omega
    ·rw [qA,vO]; omega
   simp only [adF,adL] at this ⊢; omega
  ·split
   ·simp [aq]
   ·have:=rZ r (w++[c]) out
    simp only [adD,adF,adL] at this ⊢; omega
theorem A3:∀ (b:Bool) (l:List (List UInt8)),(Lt.jw b l).length<=aq l
 | b,[]=>by simp [Lt.jw,aq]
 | b,w::r=>by
  have:=A3 true r
  rw [Lt.jw];have e:aq (w::r)=w.length+1+aq r:=by simp [aq]
  rw [e];split <;> simp only [adD,adF,adL] <;> omega
theorem Xz (l:List (List UInt8)):(Lt.lnT l).length<=aq l+1:=by
 have:=A3 false l
 unfold Lt.lnT;rw [adD,adX]; omega
def Cv (L:List Lt.RLine):Nat:=(L.map fun x=>aq x.Words+11).sum
theorem Bh (x:Lt.RLine) (L:List Lt.RLine):Cv (x::L)=aq x.Words+11+Cv L:=by simp [Cv]
theorem zz:∀ (L:List (List UInt8)) (n:Int),Cv (lq L n)<=(L.map fun l=>l.length+12).sum
 | [],n=>by simp [lq,Cv]
 | l::r,n=>by
  have:=zz r (n+1)
  rw [lq,List.map_cons,ae4];split
  ·rw [ad6]; omega
  ·rw [af0,Bh];have h1:=rZ (front l) [] []
   have h2:=DM l
   have e:Lt.dy (front l) [] []=Lt.bK (front l):=rfl
   rw [e] at h1;have h3:aq ([]:List (List UInt8))=0:=rfl
   simp only [adL] at h1;dsimp only;omega
theorem Ms:∀ (m:Nat) (s:List UInt8),s.length<=m->((Lt.ez s [10]).map fun l=>l.length+12).sum<=13*(s.length+1):=by
 intro m;induction m with
 | zero=>
  intro s hs;have:s=[]:=agP.1 (by omega)
  subst this;rw [jP (by simp)]; simp
 | succ m ih=>
  intro s hs;rcases pv 10 s with h | ⟨a,b,rfl,h⟩
  ·rw [jP h]; simp; omega
  ·rw [sU h];have hl:(a++10::b).length=a.length+(b.length+1):=by simp
   have:=ih b (by omega)
   rw [List.map_cons,ae4,hl]; omega
structure LinesOk (s:List UInt8) (L:List Lt.RLine):Prop where
 lt:L.Pairwise (fun x y=>x.N<y.N)
 pos:∀ x∈L,1<=x.N
 good:∀ x∈L,rJ ⟨x.N,x.Words⟩
 size:Cv L<=13*(s.length+1)
theorem UH {s:List UInt8} (h:(Lt.cZ s).2.2=0):LinesOk s (Lt.cZ s).1/\Lt.cZ s=((Lt.cZ s).1,0,0):=by
 unfold Lt.cZ at h ⊢;split at h
 ·cases h
 ·rename_i hl;rw [if_neg hl];rw [Cf _ s 1 [] (adH _)] at h ⊢;obtain ⟨h1,_⟩:=KA _ _ _ h;rw [h1,ad6];obtain ⟨h2,h3⟩:=Jl (Lt.ez s [10]) 1;exact ⟨⟨h3,h2,zZ _ _,ae8 (zz _ _) (Ms _ s (adH _))⟩,rfl⟩
end Go.Am
end

section
namespace Go.Am
open Go
def bM (L:List Lt.Line):Nat:=(L.map fun x=>aq x.Words+1).sum
theorem cE (a b:List Lt.Line):bM (a++b)=bM a+bM b:=by simp [bM]
theorem gC (w:List (List UInt8)):bM [Lt.ln w]=aq w+1:=by simp [bM,Lt.ln]
theorem CB:∀ L:List Lt.Line,(Lt.ay L).length<=bM L
 | []=>by simp [Lt.ay]
 | x::L=>by
  have h1:=CB L
  have h2:=Xz x.Words
  rw [show Lt.ay (x::L)=Lt.lnT x.Words++Lt.ay L from rfl,adD];simp only [bM,List.map_cons,ae4] at h1 ⊢;omega
def Good (p:Lt.Program) (B:Nat):Prop:=p.ok/\bM (Lt.di p)<=B
def prest (p:Lt.Program) (fs:List Lt.Func):Nat:=bM (Lt.di { p with Funcs:=fs })
theorem RF (p:Lt.Program) (fs:List Lt.Func) (f:Lt.Func) (w n:Int):bM (Lt.di (stF p fs f w n).P)=prest p fs+bM (Lt.cK f):=by
 unfold prest stF Lt.di;simp only [cE,ae7,adS,afX,aeO]; omega
theorem Ct (f:Lt.Func) (bs:List Lt.Block) (b:Lt.Block):bM (Lt.cK { f with Blocks:=bs++[b] })=bM (Lt.cK { f with Blocks:=bs })+bM (Lt.bB b):=by
 unfold Lt.cK;simp only [cE,ae7,adS,afX,aeO]; omega
theorem xm (b:Lt.Block) (cs:List Lt.Instr) (c:Lt.Instr):bM (Lt.bB { b with Code:=cs++[c] })=bM (Lt.bB { b with Code:=cs })+bM (Lt.dO c):=by
 unfold Lt.bB;simp only [cE,ae7,adS,afX,aeO]; omega
theorem Z8 {p:Lt.Program} {fs:List Lt.Func} {f g:Lt.Func} {w n:Int} (h:(stF p fs f w n).P.ok) (hg:g.ok):(stF p fs g w n).P.ok:=by
 intro x hx;rcases adJ.1 hx with hx | hx
 ·exact h x (adJ.2 (.inl hx))
 ·rw [adM.1 hx]; exact hg
theorem X5 {p:Lt.Program} {fs:List Lt.Func} {f:Lt.Func} {w n:Int} (h:(stF p fs f w n).P.ok):f.ok:=h f (adJ.2 (.inr (by simp)))
theorem Ge {p:Lt.Program} {fs:List Lt.Func} {f g:Lt.Func} {w n w' n':Int} {B d:Nat} (h:Good (stF p fs f w n).P B) (hg:f.ok->g.ok) (hd:bM (Lt.cK g)<=bM (Lt.cK f)+d):Good (stF p fs g w' n').P (B+d):=by
 obtain ⟨h1,h2⟩:=h;refine ⟨Z8 (w:=w') (n:=n') h1 (hg (X5 h1)),?_⟩;rw [RF] at h2 ⊢; omega
theorem G1 {p:Lt.Program} {fs:List Lt.Func} {f:Lt.Func} {bs:List Lt.Block} {b c:Lt.Block} {w n w' n':Int} {B d:Nat} (h:Good (stB p fs f bs b w n).P B) (hg:b.ok->c.ok) (hd:bM (Lt.bB c)<=bM (Lt.bB b)+d):Good (stB p fs f bs c w' n').P (B+d):=by
 refine Ge h (fun hf x hx=>?_) (by rw [Ct,Ct]; omega);rcases adJ.1 hx with hx | hx
 ·exact hf x (adJ.2 (.inl hx))
 ·rw [adM.1 hx]; exact hg (hf b (adJ.2 (.inr (by simp))))
theorem Wy {p:Lt.Program} {fs:List Lt.Func} {f:Lt.Func} {bs:List Lt.Block} {b:Lt.Block} {cs:List Lt.Instr} {x y:Lt.Instr} {w n w' n':Int} {B d:Nat} (h:Good (stI p fs f bs b cs x w n).P B) (hg:x.ok->y.ok) (hd:bM (Lt.dO y)<=bM (Lt.dO x)+d):Good (stI p fs f bs b cs y w' n').P (B+d):=by
 refine G1 h (fun hb=>⟨hb.1,fun z hz=>?_,hb.2.2⟩) (by rw [xm,xm]; omega);rcases adJ.1 hz with hz | hz
 ·exact hb.2.1 z (adJ.2 (.inl hz))
 ·rw [adM.1 hz]; exact hg (hb.2.1 x (adJ.2 (.inr (by simp))))
theorem jW {p:Lt.Program} {B C:Nat} (h:Good p B) (hc:B<=C):Good p C:=⟨h.1,ae8 h.2 hc⟩
theorem Bg {l:List (List UInt8)} (h:l.length=2):aq l=(Lt.w0 l).length+1+((Lt.w1 l).length+1):=by
 match l,h with
 | [a,b],_=>simp [aq]
theorem kI {l:List (List UInt8)} (h:Lt.fv l=true):aq l=(Lt.w0 l).length+1+((Lt.w1 l).length+1)+((Lt.w2 l).length+1):=by
 have h:=NN h
 match l,h with
 | [a,b,c],_=>simp [aq]; omega
theorem bP (w:List UInt8) (l:List (List UInt8)):aq (w::l)=w.length+1+aq l:=by simp [aq]
theorem nO {l:List (List UInt8)} (h:2<=l.length):aq l=(Lt.w0 l).length+1+((Lt.w1 l).length+1)+aq (l.drop 2):=by
 match l,h with
 | a::b::r,_=>simp only [bP,ae6,afH,Lt.w0,Lt.w1,aeX,afT]; omega
theorem MX {l:List (List UInt8)} (h:1<=l.length):aq l=(Lt.w0 l).length+1+aq (l.drop 1):=by
 match l,h with
 | a::r,_=>simp only [bP,ae6,afH,Lt.w0,aeX]
theorem Mw {l:List (List UInt8)} (h:3<=l.length):aq l=(Lt.w0 l).length+1+((Lt.w1 l).length+1)+((Lt.w2 l).length+1)+aq (l.drop 3):=by
 match l,h with
 | a::b::c::r,_=>simp only [bP,ae6,afH,Lt.w0,Lt.w1,Lt.w2,aeX,afT]; omega
theorem OI {l:List (List UInt8)} (h:4<=l.length):aq l=(Lt.w0 l).length+1+((Lt.w1 l).length+1)+((Lt.w2 l).length+1)+((Lt.w3 l).length+1)+aq (l.drop 4):=by
 match l,h with
 | a::b::c::d::r,_=>simp only [bP,ae6,afH,Lt.w0,Lt.w1,Lt.w2,Lt.w3,aeX,afT]; omega
theorem uj (w:List UInt8):(Lt.cm w).1.ok:=by
 show Lt.inR (Lt.cm w).1.N
 rw [Qy];have z:Lt.inR 0:=by unfold Lt.inR; omega
 repeat' split
 ·exact z
 ·exact qe
 ·exact Lj
 ·exact z
 ·exact qe
 ·exact z
theorem DY (l:List (List UInt8)) (o:Bool):Lt.p7 (Lt.dg l o).1:=by
 unfold Lt.dg;split
 ·intro a ha;obtain ⟨w,_,rfl⟩:=ad0.1 ha;exact uj w
 ·intro a ha; cases ha
theorem Ca (objs:Bool):∀ (l:List (List UInt8)) (x:List Lt.Bind),Lt.bw objs l=some x->∀ b∈x,b.A.ok
 | [],x,h=>by simp [Lt.bw] at h; subst h; simp
 | [_],x,h=>by simp [Lt.bw] at h
 | a::b::r,x,h=>by
  rw [Lt.bw] at h;split at h
  ·cases hr:Lt.bw objs r with
   | none=>simp [hr] at h
   | some y=>
    simp [hr] at h;subst h;intro z hz;rcases adK.1 hz with rfl | hz
    ·exact uj b
    ·exact Ca objs r y hr z hz
  ·simp at h
theorem D6 {objs:Bool} {l:List (List UInt8)} {k:Int} (h:(Lt.aH l k objs).2=true):∀ b∈(Lt.aH l k objs).1,b.A.ok:=by
 unfold Lt.aH at h ⊢;split at h
 ·cases h
 rename_i hc; rw [if_neg hc];cases hg:Lt.bw objs (l.drop k.toNat) with
 | none=>rw [hg] at h; cases h
 | some x=>exact Ca _ _ _ hg
section
variable {r:Lt.Read} {l:List (List UInt8)} {B:Nat} (g:Good r.P B)
include g
theorem WN (hz:(Lt.dk r l).1=0):Good (Lt.dk r l).2.P (B+(aq l+11)):=by
 unfold Lt.dk at hz ⊢;split at hz
 ·cases hz
 rename_i c1; rw [if_neg c1];split at hz
 ·cases hz
 rename_i c2; rw [if_neg c2];simp only [adP,ac9,decide_eq_true_eq] at c1;have hs:=Bg c1.1.2
 refine ⟨g.1,?_⟩;have h2:=g.2
 unfold Lt.di at h2 ⊢;simp only [cE,ae7,adS,afX,aeO] at h2 ⊢;have:bM (Lt.cQ ⟨Lt.w1 l,[]⟩)=(5+1+((Lt.w1 l).length+1))+1:=by simp [Lt.cQ,bM,Lt.ln,Lt.dA,aq]
 rw [this]; omega
theorem TU (h:Lt.Inv r) (hz:(Lt.eE r l).1=0):Good (Lt.eE r l).2.P (B+(aq l+11)):=by
 unfold Lt.eE at hz ⊢;split at hz
 ·cases hz
 rename_i c1; rw [if_neg c1];split at hz
 ·cases hz
 rename_i c2; rw [if_neg c2];simp only [adP,ac9,decide_eq_true_eq] at c1;have hs:=kI c1.2
 obtain ⟨cs,c,hc⟩:=Pm (h.2.2.2.1 c1.1);refine ⟨g.1,?_⟩;have h2:=g.2
 unfold Lt.di at h2 ⊢;rw [hc] at h2;simp only [hc,j0];simp only [cE,ae7,adS,afX,aeO] at h2 ⊢;have:bM (Lt.cQ { c with Fields:=c.Fields++[⟨Lt.w1 l,Lt.w2 l⟩] })=bM (Lt.cQ c)+((5+1+((Lt.w1 l).length+1)+((Lt.w2 l).length+1))+1):=by
  simp [Lt.cQ,bM,Lt.ln,Lt.dA,aq]; omega
 rw [this]; omega
theorem Sc (hz:(Lt.da r l).1=0):Good (Lt.da r l).2.P (B+(aq l+11)):=by
 unfold Lt.da at hz ⊢;split at hz
 ·cases hz
 rename_i c1; rw [if_neg c1];simp only [adP,ac9,decide_eq_true_eq] at c1;have hs:=kI c1.2
 refine ⟨g.1,?_⟩;have h2:=g.2
 unfold Lt.di Lt.dA at h2 ⊢;simp only [cE,ad5,List.map_cons,List.map_nil,gC] at h2 ⊢;have:aq [[103,108,111,98,97,108],Lt.w1 l,Lt.w2 l]=6+1+((Lt.w1 l).length+1)+((Lt.w2 l).length+1):=by simp [aq]; omega
 rw [this]; omega
theorem Rx (hz:(Lt.cY r l).1=0):Good (Lt.cY r l).2.P (B+(aq l+11)):=by
 unfold Lt.cY at hz ⊢;split at hz
 ·cases hz
 rename_i c1; rw [if_neg c1];simp only [adP,ac9,decide_eq_true_eq] at c1;have hs:aq l=(Lt.w0 l).length+1+((Lt.w1 l).length+1)+((Lt.w2 l).length+1):=by
  have h:=c1.1.1.2
  match l,h with
  | [a,b,c],_=>simp [aq]; omega
 have hn:=jZ c1.2.1.1
 refine ⟨g.1,?_⟩;have h2:=g.2
 unfold Lt.di at h2 ⊢;simp only [cE,ad5,List.map_cons,List.map_nil,Lt.gM,gC,Lt.number,hn] at h2 ⊢;have:aq [[101,120,116,101,114,110],Lt.w1 l,Lt.w2 l]=6+1+((Lt.w1 l).length+1)+((Lt.w2 l).length+1):=by simp [aq]; omega
 rw [this]; omega
theorem Xs (hz:(Lt.fp r l).1=0):Good (Lt.fp r l).2.P (B+(aq l+11)):=by
 unfold Lt.fp at hz ⊢;split at hz
 ·cases hz
 rename_i c1; rw [if_neg c1];simp only [adP,ac9,decide_eq_true_eq] at c1;have hs:=kI c1.2
 refine ⟨fun f hf=>?_,?_⟩
 ·rcases adJ.1 hf with hf | hf
  ·exact g.1 f hf
  ·rw [adM.1 hf];intro b hb; cases hb
 have h2:=g.2
 unfold Lt.di at h2 ⊢;simp only [cE,ae7,adS,afX,aeO] at h2 ⊢;have:bM (Lt.cK ⟨Lt.w1 l,Lt.w2 l,[],[],[]⟩)=(4+1+((Lt.w1 l).length+1)+((Lt.w2 l).length+1))+1:=by
  simp [Lt.cK,bM,Lt.ln,Lt.dA,aq]; omega
 rw [this]; omega
variable (h:Lt.Inv r)
include h
theorem V1 (hz:(Lt.eJ r l).1=0):Good (Lt.eJ r l).2.P (B+(aq l+11)):=by
 unfold Lt.eJ at hz ⊢;split at hz
 ·cases hz
 rename_i c1; rw [if_neg c1];simp only [adP,ac9,decide_eq_true_eq] at c1;have hs:=kI c1.2
 obtain ⟨p,fs,f,e,hp⟩:=kp h (by omega);have e2:r.func (fun f=>{ f with Params:=f.Params++[⟨Lt.w1 l,Lt.w2 l⟩] })=stF p fs { f with Params:=f.Params++[⟨Lt.w1 l,Lt.w2 l⟩] } r.Where r.Long:=by
  rw [e,iK]; rfl
 rw [e2];rw [e] at g;refine Ge g (fun hf=>hf) ?_;unfold Lt.cK Lt.dA;simp only [cE,ad5,List.map_cons,List.map_nil,gC];have:aq [[112,97,114,97,109],Lt.w1 l,Lt.w2 l]=5+1+((Lt.w1 l).length+1)+((Lt.w2 l).length+1):=by simp [aq]; omega
 rw [this]; omega
theorem Zy (hz:(Lt.ic r l).1=0):Good (Lt.ic r l).2.P (B+(aq l+11)):=by
 unfold Lt.ic at hz ⊢;split at hz
 ·cases hz
 rename_i c1; rw [if_neg c1];simp only [adP,ac9,decide_eq_true_eq,ad4] at c1;have hs:=kI c1.2
 obtain ⟨p,fs,f,e,hp⟩:=kp h (by omega);have e2:r.func (fun f=>{ f with Vars:=f.Vars++[⟨Lt.w1 l,Lt.w2 l⟩] })=stF p fs { f with Vars:=f.Vars++[⟨Lt.w1 l,Lt.w2 l⟩] } r.Where r.Long:=by
  rw [e,iK]; rfl
 rw [e] at g;show Good (r.func (fun f=>{ f with Vars:=f.Vars++[⟨Lt.w1 l,Lt.w2 l⟩] })).P _
 rw [e2];refine Ge g (fun hf=>hf) ?_;unfold Lt.cK Lt.dA;simp only [cE,ad5,List.map_cons,List.map_nil,gC];have:aq [[118,97,114],Lt.w1 l,Lt.w2 l]=3+1+((Lt.w1 l).length+1)+((Lt.w2 l).length+1):=by simp [aq]; omega
 rw [this]; omega
theorem Up (hz:(Lt.cR r l).1=0):Good (Lt.cR r l).2.P (B+(aq l+15)):=by
 unfold Lt.cR at hz ⊢;split at hz
 ·cases hz
 rename_i c1; rw [if_neg c1];simp only [adP,ac9,decide_eq_true_eq,ad4] at c1;have hs:=Bg c1.1.2
 obtain ⟨p,fs,f,e,hp⟩:=kp h (by omega);have e2:r.func (fun f=>{ f with Blocks:=f.Blocks++[⟨Lt.w1 l,[],[],⟨0,⟨0,[],0⟩,[],0⟩⟩] })=stF p fs { f with Blocks:=f.Blocks++[⟨Lt.w1 l,[],[],⟨0,⟨0,[],0⟩,[],0⟩⟩] } r.Where r.Long:=by
  rw [e,iK]; rfl
 rw [e] at g;show Good (r.func (fun f=>{ f with Blocks:=f.Blocks++[⟨Lt.w1 l,[],[],⟨0,⟨0,[],0⟩,[],0⟩⟩] })).P _
 rw [e2];have z:Lt.inR 0:=by unfold Lt.inR; omega
 refine Ge g (fun hf x hx=>?_) ?_
 ·rcases adJ.1 hx with hx | hx
  ·exact hf x hx
  ·rw [adM.1 hx];exact ⟨by simp,by simp,z,z⟩
 have h1:bM (Lt.cK { f with Blocks:=f.Blocks++[⟨Lt.w1 l,[],[],⟨0,⟨0,[],0⟩,[],0⟩⟩] })=bM (Lt.cK f)+bM (Lt.bB ⟨Lt.w1 l,[],[],⟨0,⟨0,[],0⟩,[],0⟩⟩):=Ct f f.Blocks _
 have:bM (Lt.bB ⟨Lt.w1 l,[],[],⟨0,⟨0,[],0⟩,[],0⟩⟩)=(5+1+((Lt.w1 l).length+1)+1)+8:=by
  have:Lt.ak 0=[48]:=by decide +kernel
  simp [Lt.bB,bM,Lt.ln,aq,Lt.dS,this]
 rw [h1,this]; omega
theorem ZL (hz:(Lt.jD r l).1=0):Good (Lt.jD r l).2.P (B+(aq l+11)):=by
 unfold Lt.jD at hz ⊢;split at hz
 ·cases hz
 rename_i c1; rw [if_neg c1];split at hz
 ·cases hz
 rename_i c2; rw [if_neg c2];simp only [adP,ac9,decide_eq_true_eq] at c1;obtain ⟨⟨⟨cw,cp⟩,_⟩,_⟩:=c1;have hlen:=ka cp (by decide)
 have hs:=nO (l:=l) (by omega)
 obtain ⟨_,hb⟩:=nl cp;have hin:=D6 cp
 have hl6:(Lt.aH l 2 false).1.length<=4611686018427387904:=by omega
 generalize (Lt.aH l 2 false).1=bs at hb hin hl6 ⊢;obtain ⟨p,fs,f,bl,b,e,o⟩:=fg h (by omega);have e2:r.block (fun b=>{ b with Phis:=b.Phis++[⟨Lt.w1 l,bs.map fun x=>⟨x.Name,x.A⟩⟩] })=stB p fs f bl { b with Phis:=b.Phis++[⟨Lt.w1 l,bs.map fun x=>⟨x.Name,x.A⟩⟩] } r.Where r.Long:=by
  rw [e,fu]; rfl
 rw [e] at g;show Good (r.block (fun b=>{ b with Phis:=b.Phis++[⟨Lt.w1 l,bs.map fun x=>⟨x.Name,x.A⟩⟩] })).P _
 rw [e2];refine G1 g (fun hbk=>⟨fun x hx=>?_,hbk.2.1,hbk.2.2⟩) ?_
 ·rcases adJ.1 hx with hx | hx
  ·exact hbk.1 x hx
  ·rw [adM.1 hx];refine ⟨by simpa using hl6,fun i hi=>?_⟩;obtain ⟨y,hy,rfl⟩:=ad0.1 hi;exact hin y hy
 unfold Lt.bB;simp only [cE,ad5,List.map_cons,List.map_nil,gC];have:Lt.sN ⟨Lt.w1 l,bs.map fun x=>⟨x.Name,x.A⟩⟩=[112,104,105]::Lt.w1 l::l.drop 2:=by
  rw [show l.drop 2=l.drop (2:Int).toNat from rfl,<- hb];unfold Lt.sN;simp [List.flatMap_map]
 have h3:aq ([112,104,105]::Lt.w1 l::l.drop 2)=4+((Lt.w1 l).length+1+aq (l.drop 2)):=by rw [bP,bP]; rfl
 rw [this,h3]; omega
theorem acJ (hz:(Lt.sAt r l).1=0):Good (Lt.sAt r l).2.P (B+(aq l+11)):=by
 unfold Lt.sAt at hz ⊢;split at hz
 ·cases hz
 rename_i c1; rw [if_neg c1];split at hz
 ·cases hz
 rename_i c2; rw [if_neg c2];simp only [adP,ac9,decide_eq_true_eq] at c1;obtain ⟨⟨⟨⟨c1,cp⟩,_⟩,_⟩,⟨cn,_⟩,_⟩:=c1;have hlen:=ka cp (by decide)
 have hs:=OI (l:=l) (by omega)
 obtain ⟨_,hb⟩:=nl cp;have hin:=D6 cp
 have hl6:(Lt.aH l 4 true).1.length<=4611686018427387904:=by omega
 have hnum:=jZ cn
 generalize (Lt.aH l 4 true).1=bs at hb hin hl6 ⊢;generalize (Lt.aY (Lt.w3 l)).1=n at hnum ⊢;obtain ⟨p,fs,f,bl,b,e,o⟩:=fg h (by omega);obtain ⟨cs,c,ec,_⟩:=o.ins (by omega) (by omega);have e':r=stI p fs f bl b cs c r.Where r.Long:=by
  unfold stI; rw [<- ec]; exact e
 have e2:r.instr (fun x=>{ x with Frames:=x.Frames++[⟨Lt.w1 l,Lt.w2 l,n,bs⟩] })=stI p fs f bl b cs { c with Frames:=c.Frames++[⟨Lt.w1 l,Lt.w2 l,n,bs⟩] } r.Where r.Long:=by
  rw [e',mJ]; rfl
 rw [e'] at g;show Good (r.instr (fun x=>{ x with Frames:=x.Frames++[⟨Lt.w1 l,Lt.w2 l,n,bs⟩] })).P _
 rw [e2];refine Wy g (fun hx=>⟨hx.1,fun y hy=>?_,hx.2.2⟩) ?_
 ·rcases adJ.1 hy with hy | hy
  ·exact hx.2.1 y hy
  ·rw [adM.1 hy]; exact ⟨hl6,hin⟩
 unfold Lt.dO;simp only [cE,ad5,List.map_cons,List.map_nil,gC];have hwd:Lt.words { c with Frames:=c.Frames++[⟨Lt.w1 l,Lt.w2 l,n,bs⟩] }=Lt.words c:=rfl
 have:Lt.fZ ⟨Lt.w1 l,Lt.w2 l,n,bs⟩=[97,116]::Lt.w1 l::Lt.w2 l::Lt.w3 l::l.drop 4:=by
  rw [show l.drop 4=l.drop (4:Int).toNat from rfl,<- hb,<- hnum]; rfl
 rw [hwd,this,bP,bP,bP,bP];simp only [adF,adL]; omega
theorem aaL (hi:r.ins=true) (hz:(Lt.jB r l).1=0):Good (Lt.jB r l).2.P (B+(aq l+11)):=by
 unfold Lt.jB at hz ⊢;split at hz
 ·cases hz
 rename_i c1; rw [if_neg c1];have hin:5<=r.Where/\r.Where<=8:=by simpa [Lt.Read.ins] using hi
 simp only [adP,ac9,decide_eq_true_eq] at c1;obtain ⟨⟨⟨⟨c1,c3⟩,c4⟩,_⟩,ca⟩:=c1;have hs:=nO c3
 obtain ⟨_,_,hp⟩:=mX ca;have hok:=DY (l.drop 2) true
 generalize (Lt.dg (l.drop 2) true).1=vs at hp hok ⊢;obtain ⟨p,fs,f,bl,b,e,o⟩:=fg h (by omega);obtain ⟨cs,c,ec,_⟩:=o.ins (by omega) (by omega);have e':r=stI p fs f bl b cs c r.Where r.Long:=by
  unfold stI; rw [<- ec]; exact e
 have e2:r.instr (fun x=>{ x with Objs:=x.Objs++[⟨Lt.w1 l,vs⟩] })=stI p fs f bl b cs { c with Objs:=c.Objs++[⟨Lt.w1 l,vs⟩] } r.Where r.Long:=by
  rw [e',mJ]; rfl
 rw [e'] at g;show Good (r.instr (fun x=>{ x with Objs:=x.Objs++[⟨Lt.w1 l,vs⟩] })).P _
 rw [e2];refine Wy g (fun hx=>⟨hx.1,hx.2.1,fun y hy=>?_⟩) ?_
 ·rcases adJ.1 hy with hy | hy
  ·exact hx.2.2 y hy
  ·rw [adM.1 hy]; exact hok
 unfold Lt.dO;simp only [cE,ad5,List.map_cons,List.map_nil,gC];have hwd:Lt.words { c with Objs:=c.Objs++[⟨Lt.w1 l,vs⟩] }=Lt.words c:=rfl
 have:Lt.lz ⟨Lt.w1 l,vs⟩=[111,98,106]::Lt.w1 l::l.drop 2:=by rw [<- hp]; rfl
 rw [hwd,this,bP,bP];simp only [adF,adL]; omega
theorem aaW (hi:r.ins=true) (hz:(Lt.oE r l).1=0):Good (Lt.oE r l).2.P (B+(aq l+11)):=by
 have hin:5<=r.Where/\r.Where<=8:=by simpa [Lt.Read.ins] using hi
 unfold Lt.oE at hz ⊢;cases hs:Lt.gJ l with
 | none=>rw [hs] at hz; cases hz
 | some t=>
  have z:Lt.inR 0:=by unfold Lt.inR; omega
  have ht:t.ok/\aq (Lt.dS t)<=aq l:=by
   unfold Lt.gJ at hs;have two:∀ (k x:List UInt8),Lt.w0 l=k->l.length=2->x=Lt.w1 l->aq [k,x]<=aq l:=by
    intro k x hk hl hx;rw [Bg hl,hk,hx]; simp [aq]
   split at hs
   ·rename_i c0;split at hs
    ·rename_i c;simp only [ac9,decide_eq_true_eq] at c;simp only [ac8] at hs; subst hs;exact ⟨⟨z,z⟩,two _ _ c0 c.1 rfl⟩
    ·cases hs
   split at hs
   ·rename_i c0;split at hs
    ·rename_i c;simp only [ac9,decide_eq_true_eq] at c;simp only [ac8] at hs; subst hs;refine ⟨⟨uj _,z⟩,?_⟩;have ha:=c.2
     unfold Lt.dC at ha;simp only [ac9] at ha;have hw:=(lY ha.1).2
     have hl:=c.1.1
     match l,hl with
     | [a,b,c,d],_=>
      have c0:a=Lt.cu:=c0
      have hw2:Lt.ac (Lt.cm b).1=b:=hw
      subst c0;show aq (Lt.dS ⟨2,(Lt.cm b).1,[c,d],0⟩)<=aq [Lt.cu,b,c,d]
      rw [show Lt.dS ⟨2,(Lt.cm b).1,[c,d],0⟩=[Lt.cu,Lt.ac (Lt.cm b).1,c,d] from rfl,hw2];exact adH _
    ·cases hs
   split at hs
   ·rename_i c0;split at hs
    ·rename_i c;simp only [ac9,decide_eq_true_eq] at c;simp only [ac8] at hs; subst hs;have ha:=c.2
     unfold Lt.dC at ha;simp only [ac9] at ha;exact ⟨⟨uj _,z⟩,two _ _ c0 c.1 (lY ha.1).2⟩
    ·cases hs
   split at hs
   ·rename_i c0;split at hs
    ·rename_i c;simp only [ac9,decide_eq_true_eq] at c;simp only [ac8] at hs; subst hs;exact ⟨⟨z,qe⟩,two _ _ c0 c.1 (jZ c.2)⟩
    ·cases hs
   ·cases hs
  obtain ⟨p,fs,f,bs,b,e,o⟩:=fg h (by omega);have e2:r.block (fun b=>{ b with End:=t })=stB p fs f bs { b with End:=t } r.Where r.Long:=by
   rw [e,fu]; rfl
  rw [e] at g;show Good (r.block (fun b=>{ b with End:=t })).P _
  rw [e2];refine G1 g (fun hb=>⟨hb.1,hb.2.1,ht.1⟩) ?_;unfold Lt.bB;simp only [cE,gC]; omega
theorem Pd (hz:(Lt.cz r l).1=0):Good (Lt.cz r l).2.P (B+(aq l+11)):=by
 unfold Lt.cz at hz ⊢;split at hz
 ·cases hz
 rename_i c0; rw [if_neg c0];split at hz
 ·cases hz
 rename_i c1; rw [if_neg c1];cases hs:Lt.ej (if Lt.sEq l then Lt.w0 l else []) (if Lt.sEq l then l.drop 2 else l) with
 | none=>rw [hs] at hz; cases hz
 | some x=>
  rw [hs] at hz;simp only at hz ⊢
  split at hz
  ·cases hz
  rename_i c2; rw [if_neg c2];have hin:5<=r.Where/\r.Where<=8:=by simpa [Lt.Read.ins] using c1
  have hx:x.ok/\x.Frames=[]/\x.Objs=[]/\aq (Lt.words x)<=aq l+10:=by
   have key:∀ (dst:List UInt8) (l':List (List UInt8)),Lt.ej dst l'=some x->x.ok/\x.Frames=[]/\x.Objs=[]/\aq (Lt.words x)<=(if dst=[] then 0 else dst.length+3)+aq l':=by
    intro dst l' hi;unfold Lt.ej at hi;split at hi
    ·cases hi
    rename_i d1;simp only [adP,ac9,beq_iff_eq] at d1;obtain ⟨_,o2,o3⟩:=I3 d1.1;obtain ⟨_,e2,e3,e4,e5,e6⟩:=oc (Lt.sOp (Lt.w0 l')).1;have d2:=d1.2
    rw [e3] at d2;split at hi
    ·cases hi
    rename_i nm rest hr;split at hi
    ·rename_i c2;simp only [ac9,decide_eq_true_eq] at c2;obtain ⟨⟨⟨c2,c3⟩,c4⟩,c5⟩:=c2;simp only [ac8] at hi;subst hi;have hok:=DY rest false
     obtain ⟨_,_,hp⟩:=mX c2;refine ⟨⟨hok,by simp,by simp⟩,rfl,rfl,?_⟩;have h0:1<=l'.length:=by
      cases l' with
      | nil=>exact absurd d1.1 (by decide +kernel)
      | cons a b=>simp
     have hd:aq (if (Lt.Of (Lt.sOp (Lt.w0 l')).1).1.Dst then [dst,[61]] else [])<=(if dst=[] then 0 else dst.length+3):=by
      rw [d2];by_cases hc:dst=[]
      ·simp [hc,aq]
      ·simp [hc,aq]
     have hw:aq [(Lt.Of (Lt.sOp (Lt.w0 l')).1).1.Word]=(Lt.w0 l').length+1:=by rw [o2,vO]
     unfold Lt.Fe at hr;unfold Lt.words;dsimp only;rw [qA,qA,hw,hp];split at hr
     ·rename_i hc;rw [if_pos hc];split at hr
      ·cases hr
      rename_i h3;simp only [ac8,Prod.mk.injEq] at hr;rw [<- hr.1,<- hr.2,Mw (l:=l') (by omega),aeX,ae6,afH,bP,bP];omega
     ·rename_i hc;rw [if_neg hc];rw [e4] at hr;split at hr
      ·rename_i hn;rw [if_pos hn];split at hr
       ·cases hr
       rename_i h3;simp only [ac8,Prod.mk.injEq] at hr;rw [<- hr.1,<- hr.2,nO (l:=l') (by omega),af0,bP];omega
      ·rename_i hn;rw [if_neg hn];simp only [ac8,Prod.mk.injEq] at hr;rw [<- hr.2,MX h0,ad6];omega
    ·cases hi
   cases he:Lt.sEq l with
   | true=>
    rw [he,if_pos rfl,if_pos rfl] at hs;obtain ⟨k1,k2,k3,k4⟩:=key _ _ hs;have h2:2<l.length:=by
     unfold Lt.sEq at he; simp only [ac9,decide_eq_true_eq] at he; exact he.1
    have:=nO (l:=l) (by omega)
    refine ⟨k1,k2,k3,?_⟩;split at k4 <;> omega
   | false=>
    rw [he,if_neg (by decide),if_neg (by decide)] at hs;obtain ⟨k1,k2,k3,k4⟩:=key _ _ hs;rw [if_pos rfl] at k4;exact ⟨k1,k2,k3,by omega⟩
  obtain ⟨hx1,hx2,hx3,hx4⟩:=hx;obtain ⟨p,fs,f,bs,b,e,o⟩:=fg h (by omega);have e2:r.block (fun b=>{ b with Code:=b.Code++[x] })=stB p fs f bs { b with Code:=b.Code++[x] } r.Where r.Long:=by
   rw [e,fu]; rfl
  rw [e] at g;show Good (r.block (fun b=>{ b with Code:=b.Code++[x] })).P _
  rw [e2];refine G1 g (fun hb=>⟨hb.1,fun y hy=>?_,hb.2.2⟩) ?_
  ·rcases adJ.1 hy with hy | hy
   ·exact hb.2.1 y hy
   ·rw [adM.1 hy]; exact hx1
  have h1:bM (Lt.bB { b with Code:=b.Code++[x] })=bM (Lt.bB b)+bM (Lt.dO x):=xm b b.Code x
  have:bM (Lt.dO x)=aq (Lt.words x)+1:=by
   unfold Lt.dO;rw [hx2,hx3];simp [bM,Lt.ln]
  rw [h1,this]; omega
theorem Xe {b:Bool} (hz:(Lt.aI r l b).1=0):Good (Lt.aI r l b).2.P (B+(aq l+15)):=by
 have up:∀ {p:Lt.Program},Good p (B+(aq l+11))->Good p (B+(aq l+15)):=fun h=>jW h (by omega)
 unfold Lt.aI at hz ⊢;split at hz
 ·rename_i c; rw [if_pos c]; exact up (Pd g h hz)
 rename_i c; rw [if_neg c];split at hz
 ·rename_i c; rw [if_pos c];split at hz
  ·cases hz
  rename_i c; rw [if_neg c];refine ⟨g.1,?_⟩;have h2:=g.2
  unfold Lt.di at h2 ⊢;simp only [cE,if_true] at h2 ⊢;have:bM [Lt.ln [[115,115,97]]]=5:=by decide
  rw [this]; omega
 rename_i c; rw [if_neg c];split at hz
 ·rename_i c; rw [if_pos c];unfold Lt.bA at hz ⊢;split at hz
  ·rename_i c; rw [if_pos c]; exact up (WN g hz)
  rename_i c; rw [if_neg c];split at hz
  ·rename_i c; rw [if_pos c]; exact up (TU g h hz)
  rename_i c; rw [if_neg c];split at hz
  ·rename_i c; rw [if_pos c]; exact up (Sc g hz)
  rename_i c; rw [if_neg c];split at hz
  ·rename_i c; rw [if_pos c]; exact up (Rx g hz)
  rename_i c; rw [if_neg c];split at hz
  ·rename_i c; rw [if_pos c]; exact up (Xs g hz)
  rename_i c; rw [if_neg c]; exact jW g (by omega)
 rename_i c; rw [if_neg c];split at hz
 ·rename_i c; rw [if_pos c];unfold Lt.bN at hz ⊢;split at hz
  ·rename_i c; rw [if_pos c]; exact up (V1 g h hz)
  rename_i c; rw [if_neg c];split at hz
  ·rename_i c; rw [if_pos c]; exact up (Zy g h hz)
  rename_i c; rw [if_neg c];split at hz
  ·rename_i c; rw [if_pos c]; exact Up g h hz
  rename_i c; rw [if_neg c];split at hz
  ·rename_i c; rw [if_pos c]; exact up (ZL g h hz)
  rename_i c; rw [if_neg c]; exact jW g (by omega)
 rename_i c; rw [if_neg c];split at hz
 ·rename_i c; rw [if_pos c];unfold Lt.bg at hz ⊢;split at hz
  ·rename_i c; rw [if_pos c];split at hz
   ·cases hz
   rename_i ci; rw [if_neg ci];have hi:r.ins=true:=by simpa using ci
   split at hz
   ·rename_i c; rw [if_pos c]; exact up (acJ g h hz)
   rename_i c; rw [if_neg c];split at hz
   ·rename_i c; rw [if_pos c]; exact up (aaL g h hi hz)
   rename_i c; rw [if_neg c]; exact up (aaW g h hi hz)
  rename_i c; rw [if_neg c]; exact jW g (by omega)
 rename_i c; rw [if_neg c]; exact up (Pd g h hz)
end
theorem Iw:∀ (L:List Lt.RLine) (b:Bool) (r:Lt.Read) (B:Nat),Lt.Inv r->Good r.P B->(Lt.dx L b r).2.2=0->Good (Lt.dx L b r).1 (B+(L.map fun x=>aq x.Words+15).sum)
 | [],b,r,B,h,g,hz=>by
  rw [Lt.dx] at hz ⊢;split at hz
  ·rename_i c; rw [if_pos c]; exact jW g (by simp)
  ·cases hz
 | x::t,b,r,B,h,g,hz=>by
  rw [Lt.dx] at hz ⊢;split at hz
  ·rename_i c; rw [if_pos c];have:=Iw t false _ _ (u6 h c) (Xe g h c) hz
   rw [List.map_cons,ae4];exact jW this (by omega)
  ·rename_i c; exact absurd hz c
theorem MJ {s:List UInt8} (h:(Lt.bY s).2.2=0):(Lt.bY s).1.ok/\(Lt.ay (Lt.di (Lt.bY s).1)).length<=30*(s.length+1):=by
 have hs:(Lt.cZ s).2.2=0:=by
  unfold Lt.bY at h;split at h
  ·rename_i c; exact c
  ·rename_i c; exact absurd h c
 obtain ⟨ok,_⟩:=UH hs;unfold Lt.bY at h ⊢;rw [if_pos hs] at h ⊢;have z:Good (⟨⟨false,[],[],[],[]⟩,0,0⟩:Lt.Read).P 0:=by
  refine ⟨?_,by decide⟩;intro f hf;cases hf
 obtain ⟨h1,h2⟩:=Iw _ _ _ 0 Zn z h;refine ⟨h1,?_⟩;have h3:=CB (Lt.di (Lt.dx (Lt.cZ s).1 true ⟨⟨false,[],[],[],[]⟩,0,0⟩).1)
 have h4:=ok.size
 have h5:∀ L:List Lt.RLine,(L.map fun x=>aq x.Words+15).sum<=2*Cv L:=by
  intro L;induction L with
  | nil=>simp
  | cons x t ih=>
   rw [List.map_cons,ae4,Bh]; omega
 have:=h5 (Lt.cZ s).1
 omega
theorem FF (p:Lt.Program) (s:List UInt8) (hp:Lt.YS p s) (KK:Bool->Prop) (h:KK (Lt.T7 p s)):sy p s KK:=by
 have h:KK true:=h
 obtain ⟨okP,okE,okAt,hr⟩:=hp;unfold sy Lt.dM;have hm:Lt.GB p 20000:=⟨okP,by decide⟩
 have ea:Lt.awake=true:=rfl
 have same:∀ q:Lt.Program,Lt.Same q q=true:=fun q=>by simp [Lt.Same]
 simp only [ea,afV,adB,if_false,if_true,au,bL,al,aQ];refine ⟨hm,ifk (fun hc=>h) (fun hc=>?_)⟩;have hf:Lt.Few p 20000=true:=by simpa using hc
 refine ifk (fun _=>h) (fun hc2=>⟨okP,?_⟩);have hs:s.length<=100000:=by simp at hc2; omega
 have hl:=hr hf
 have back:∀ q:Lt.Program,q.ok->Lt.bb q=true->(Lt.ay (Lt.di q)).length<=4194304->Lt.aG q=(Lt.ay (Lt.di q),0)/\Lt.bY (Lt.ay (Lt.di q))=(q,0,0):=by
  intro q hq hr2 hl2;have e:=xh hr2
  refine ⟨by unfold Lt.aG; rw [if_pos hr2,if_pos hl2],?_⟩;rw [<- e];exact Mz hr2 hq (by rw [e]; exact hl2)
 have rest:if (!decide ((Lt.bY s).2.2=0))=true then KK true else (Lt.iN (Lt.bY s).1/\Lt.iN (Lt.bY (Lt.aG (Lt.bY s).1).1).1/\if decide ((Lt.aG (Lt.bY s).1).2=0)=true then (if decide ((Lt.bY (Lt.aG (Lt.bY s).1).1).2.2=0)=true then (if decide ((Lt.aG (Lt.bY (Lt.aG (Lt.bY s).1).1).1).2=0)=true then (if Lt.Same (Lt.bY s).1 (Lt.bY (Lt.aG (Lt.bY s).1).1).1=true then KK (decide ((Lt.aG (Lt.bY s).1).1=(Lt.aG (Lt.bY (Lt.aG (Lt.bY s).1).1).1).1)) else KK false) else KK false) else KK false) else KK false):=by
  refine ifk (fun _=>h) (fun hc3=>?_);have hz:(Lt.bY s).2.2=0:=by simpa using hc3
  obtain ⟨g1,g2⟩:=MJ hz;have hR:=La hz
  obtain ⟨b1,b2⟩:=back _ g1 hR (by omega);simp only [b1,b2,same,decide_true,if_true];exact ⟨g1,g1,h⟩
 by_cases hsr:Lt.bb p=true
 ·have e:=xh hsr
  rw [e] at hl;obtain ⟨b1,b2⟩:=back p okP hsr hl;simp only [b1,b2,same,decide_true,if_true,afV,adB,if_false];exact rest
 ·have e:Lt.aG p=([],1):=by unfold Lt.aG; rw [if_neg hsr]
  rw [if_neg (by rw [e]; decide)];exact rest
end Go.Am
end

section
namespace Go.Am
open Go.RowKit Go.Proofs
abbrev bp (b:Nat):AV:=.one (.c (.d (.v (.pointer (some ⟨b,0,none⟩)))))
def ii (n:Nat):AV:=.one (.c (.d (.int .i64 (n:Int))))
def jst (b:Nat) (ls:List Lt.Line) (i:Nat):S:=⟨[(3,bp b),(8,.one (.c (.d (.li (ls.map Lt.Line.enc))))),(9,ii ls.length),(10,ii i)],[]⟩
def yP (b:Nat) (ls:List Lt.Line) (i:Nat) (ws:List (List UInt8)) (j:Nat):S:=⟨[(3,bp b),(8,.one (.c (.d (.li (ls.map Lt.Line.enc))))),(9,ii ls.length),(10,ii i),(15,.one (.c (.d (.li (ws.map rS.enc))))),(16,ii ws.length),(17,ii j)],[]⟩
attribute [push_cast] bp ii jst yP
theorem MG {w:World} {H:FH} {γ:Gam} {m:Mm} {b:Nat} {y:Value} (h:AR w H γ m (bp b) y):y=.pointer (some ⟨b,0,none⟩):=by
 obtain ⟨_,m,h⟩:=h;cases m <;> exact h.1
theorem PB {g:G} {H:FH} {b:Nat} {s:S} {l l':List UInt8} {c:Int} {o:Oper} {cl:Call} (ho:o.op=.call cl) (hf:cl.callee=.value (.func 51)) (ha:cl.args=#[.tmp 3,.const (.int .u8 c)]) (h3:aK s.t 3=bp b) (hl':Lib.byteCells l'=Lib.byteCells l++[.int .u8 c]) (hlen:l.length+1<=140737488355328)
  (a:Act) (w:World) (γ:Gam) (F:Nm->Fp) (hX:RX g s a w H γ F) (hB:Lib.IsBuilder 127 5 g.w0.heap.size b (Lib.byteCells l) w) (hs:g.w0.heap.size<=w.heap.size) :
  o.wp Tryz.prog a w (fun a' w'=>(∃ y,a'=a.put o.dst y)/\Lib.IsBuilder 127 5 g.w0.heap.size b (Lib.byteCells l') w'/\Below g.w0.heap.size w w') (fun _ _ _=>False):=by
 refine zO ho hf (qk (c:=Tryz.f51.body.getD .skip) Tryz.func51 (by kernel_rfl) (by kernel_rfl)) ?_;have e3:a.tmps.getD 3 undef=.pointer (some ⟨b,0,none⟩):=MG (by have:=hX.t 3; rw [h3,G.tv_lo (by decide)] at this; exact this)
 have e:cl.args.map a.eval=#[.pointer (some ⟨b,0,none⟩),.int .u8 c]:=by
  rw [ha,<- e3]; simp [Act.eval]
 rw [e];refine (Tryz.bldWriteByte _ b _ c w hB (by rw [Lib.byteCells_length]; exact hlen) hs).mono ?_;rintro e w' ⟨rfl,h1,h2⟩
 exact ⟨_,rfl,⟨_,rfl⟩,.inr (by rw [hl']; exact h1),h2⟩
theorem Xt {g:G} {H:FH} {b:Nat} {s:S} {l v:List UInt8} {o:Oper} {cl:Call} (ho:o.op=.call cl) (hf:cl.callee=.value (.func 52)) (ha:cl.args=#[.tmp 3,.tmp 25]) (h3:aK s.t 3=bp b) (hv:aK s.t 25=.one (.c (.d (.str v)))) (hlen:l.length+v.length<=140737488355328)
  (a:Act) (w:World) (γ:Gam) (F:Nm->Fp) (hX:RX g s a w H γ F) (hB:Lib.IsBuilder 127 5 g.w0.heap.size b (Lib.byteCells l) w) (hs:g.w0.heap.size<=w.heap.size) :
  o.wp Tryz.prog a w (fun a' w'=>(∃ y,a'=a.put o.dst y)/\Lib.IsBuilder 127 5 g.w0.heap.size b (Lib.byteCells (l++v)) w'/\Below g.w0.heap.size w w') (fun _ _ _=>False):=by
 refine zO ho hf (qk (c:=Tryz.f52.body.getD .skip) Tryz.func52 (by kernel_rfl) (by kernel_rfl)) ?_;have e3:a.tmps.getD 3 undef=.pointer (some ⟨b,0,none⟩):=MG (by have:=hX.t 3; rw [h3,G.tv_lo (by decide)] at this; exact this)
 have e4:a.tmps.getD 25 undef=.string ⟨v.toArray⟩:=(zQ (by have:=hX.t 25; rw [hv,G.tv_lo (by decide)] at this; exact this)).1
 have e:cl.args.map a.eval=#[.pointer (some ⟨b,0,none⟩),.string ⟨v.toArray⟩]:=by
  rw [ha,<- e3,<- e4]; simp [Act.eval]
 rw [e];refine (Tryz.bldWriteString _ b _ ⟨v.toArray⟩ w hB (by rw [Lib.byteCells_length]; exact hlen) hs).mono ?_;rintro e w' ⟨rfl,h1,h2⟩
 exact ⟨_,rfl,⟨_,rfl⟩,.inr (by rw [Lib.byteCells_append]; exact h1),h2⟩
set_option maxRecDepth 100000 in
set_option maxHeartbeats 4000000 in
theorem SB (g:G) (hg:g.nt=Tryz.f30.ntmps) (ls:List Lt.Line) (hp:(Lt.ay ls).length<=140737488355328) (K:AV->Prop) (hK:K (o1 cS (Lt.ay ls))) :
  AW Tryz.prog g (Tryz.f30.body.getD .skip) (Iz Tryz.prog [.tmp 2] K) ⟨aW 0 [.one ((cL Lt.Line.rw).enc ls)],[]⟩:=by
 have hcs:CT.Ok Tryz.prog []:=CT.ok0
 have hn:g.nt=31:=hg
 have hx:=True.intro
 intro a w ⟨H,γ,F,hX⟩
 let g2:G:=⟨g.nt,w,H,fun _=>0,g.out,g.ex,g.dfs⟩
 have hn2:g2.nt=31:=hn
 have hX2:RX g2 ⟨aW 0 [.one ((cL Lt.Line.rw).enc ls)],[]⟩ a w H γ F:=⟨hX.mem,⟨adH _,rfl,rfl,rfl,fun _ _ _=>rfl,fun _ _ _ h=>h,fun _ _ h1 h2=>absurd h2 h1,fun c hc=>absurd rfl hc⟩,hX.nt,⟨hX.df.1,hX.df.2.1,dJ hX⟩,hX.t⟩
 have hH:∀ b' o',H b' o'≠none->b'<g2.w0.heap.size:=by
  intro b' o' h;cases hc:H b' o' with
  | none=>exact absurd hc h
  | some y=>exact World.block_lt_of_cell? _ _ (hX.mem.agree _ _ _ hc)
 unfold Tryz.f30;dsimp only [Option.getD_some];refine wp_seq (Code.wp_mono (fun e a1 w1 ⟨he,s1,γ1,F1,h1,hX1⟩=>?_) (Ii (g:=g2) (cs:=[]) (k:=fun s'=>s'=⟨[(0,.one (.c (.d (.li (ls.map Lt.Line.enc))))),(2,.one (.c (.d (.str []))))],[]⟩) rfl (by rw [hn2]; rfl) (RK.out ?_) hX2))
 ·refine stA ?_;exact lfA
 subst he; subst h1;refine wp_seq (Code.wp_mono (fun e a2 w2 ⟨he,s2,γ2,F2,h2,hX3⟩=>?_) (Ii (g:=g2) (cs:=[]) (k:=fun s'=>s'=⟨[(0,.one (.c (.d (.li (ls.map Lt.Line.enc))))),(2,.one (.c (.d (.str [])))),(3,.one (.c (.pl ⟨.loc (127*1000000+3),0,[]⟩)))],[(.loc (127*1000000+3),⟨true,[.d (.v (.pointer none)),.nil]⟩)]⟩) rfl (by rw [hn2]; rfl) (RK.out ?_) hX1))
 ·refine stA ?_;exact lfA
 subst he; subst h2;obtain ⟨b,hB,hb3,hX4⟩:=abN (g:=g2) hX3 rfl (fun _=>rfl) (i:=3) rfl;have hRB:RB g2 H b (⟨[(0,.one (.c (.d (.li (ls.map Lt.Line.enc))))),(3,bp b)],[]⟩,[]) a2 w2:=by
  refine ⟨rfl,⟨γ2,F2,hX4.mem,hX4.fr,hX4.nt,hX4.df,fun i=>?_⟩,hB⟩;simp only [aK];split
  ·rename_i hi; subst hi;exact hX4.t 0
  ·split
   ·rename_i hi; subst hi;rw [G.tv_lo (by decide),hb3];exact ⟨fun _=>rfl,0,rfl,rfl⟩
   ·trivial
 refine wp_seq (Code.wp_mono (fun e a3 w3 hl=>?_) ((?_:BW Tryz.prog g2 H b _ (fun e y=>e=.normal/\aK y.1.t 3=bp b/\y.2=Lt.ay ls) (⟨[(0,.one (.c (.d (.li (ls.map Lt.Line.enc))))),(3,bp b)],[]⟩,[])) a2 w2 hRB))
 rotate_left
 ·clear hRB hX4 hX3 hX1 hX2 hB hb3;refine lK (fun K hK=>?_);refine rV (cs:=[]) [3,8,9,10] [] rfl (by rw [hn2]; rfl) (jst b ls 0) rfl (hK _ ?_) ?_
  rotate_left
  ·iterate 3 refine stA ?_
   exact lfA
  clear hK K;refine tJ ?_;refine Pk (fun i=>(jst b ls i,Lt.ay (ls.take i))) ls.length 0 rfl (aeR _) (fun i hi=>?_);refine lK (fun K hK=>?_);refine rV (cs:=[]) [3,8,9,10,11] [] rfl (by rw [hn2]; rfl) ⟨(jst b ls i).t++[(11,.one (.c (.d (.bool (decide ((i:Int) < (ls.length:Int)))))))],[]⟩ rfl (hK _ ?_) ?_
  rotate_left
  ·iterate 1 refine stA ?_
   exact lfA
  clear hK K;refine lK (fun K hK=>?_);refine Ig rfl (fun hb=>Gd (hK _ ?_)) (fun hb=>OW ?_)
  rotate_left
  ·have:i=ls.length:=by simp at hb; omega
   subst this;show (if (0:Nat)=0 then _ else _)
   rw [if_pos rfl];exact ⟨rfl,rfl,by dsimp only; rw [List.take_length]⟩
  clear hK K;have hil:i<ls.length:=by simp at hb; omega
  refine lK (fun K hK=>?_);refine tJ ?_;have hx:=And.intro (show (ls.map Lt.Line.enc)[((i:Int)).toNat]? = some (Lt.Line.enc (ls.getD i default)) by rw [Int.toNat_natCast]; exact yY _ _ hil) (And.intro (adC i) hx)
  refine Yf (cs:=[]) [3,8,9,10,15,16,17] [.loc 5] (fun x'=>x'=(yP b ls i (ls.getD i default).Words 0,Lt.ay (ls.take i))) rfl rfl (by rw [hn2]; rfl) (by rw [hn2]; rfl)
   ⟨(jst b ls i).t++[(11,.one (.c (.d (.bool (decide ((i:Int) < (ls.length:Int))))))),(12,.one (.c (.el [.int .i64 (ls.getD i default).N,.li ((ls.getD i default).Words.map rS.enc)] 0))),(13,.one (.agg [.d (.int .i64 (ls.getD i default).N),.d (.li ((ls.getD i default).Words.map rS.enc))])),(5,.one (.c (.pl ⟨.loc 5,0,[]⟩)))],[(.loc 5,⟨true,[.d (.int .i64 (ls.getD i default).N),.d (.li ((ls.getD i default).Words.map rS.enc))]⟩)]⟩
   (yP b ls i (ls.getD i default).Words 0) rfl rfl ?_ ?_ (fun x' e=>?_)
  ·iterate 4 refine stA ?_
   exact lfA
  ·iterate 4 refine stA ?_
   exact lfA
  subst e;generalize hws:(ls.getD i default).Words=ws;have hle:=fun j=>Lt.Uy ls i j hil
  rw [hws] at hle;have hlw:=Lt.A3 ws false
  have hlw2:=hle ws.length
  rw [List.take_length] at hlw2;have hll:=Lt.E4 ls
  refine tJ ?_;refine Pk (fun j=>(yP b ls i ws j,Lt.ay (ls.take i)++Lt.jw false (ws.take j))) ws.length 0 (by simp [Lt.jw]) (aeR _) (fun j hj=>?_);refine lK (fun K2 hK2=>?_);refine rV (cs:=[]) [3,8,9,10,15,16,17,18] [] rfl (by rw [hn2]; rfl) ⟨(yP b ls i ws j).t++[(18,.one (.c (.d (.bool (decide ((j:Int) < (ws.length:Int)))))))],[]⟩ rfl (hK2 _ ?_) ?_
  rotate_left
  ·iterate 1 refine stA ?_
   exact lfA
  clear hK2 K2;refine lK (fun K2 hK2=>?_);refine Ig rfl (fun hb=>Gd (hK2 _ ?_)) (fun hb=>OW ?_)
  rotate_left
  ·have:j=ws.length:=by simp at hb; omega
   subst this;show (if (2:Nat)=2 then _ else _)
   rw [if_pos rfl];dsimp only;refine G7 (cs:=[]) [3,8,9,10] [] _ (Lt.ay (ls.take (i+1))) rfl rfl rfl (by rw [hn2]; rfl) hH ⟨(yP b ls i ws ws.length).t++[(18,.one (.c (.d (.bool (decide ((ws.length:Int) < (ws.length:Int)))))))],[]⟩ rfl
    (PB (c:=10) (l:=Lt.ay (ls.take i)++Lt.jw false (ws.take ws.length)) rfl rfl rfl rfl (by rw [Lt.BY ls i hil,hws,List.take_length,Lib.byteCells_append]; rfl) (by rw [List.take_length]; simp; omega)) ?_ ⟨IX rfl⟩
   refine hK _ ?_;have hw:=b9 (i:=i) (by omega)
   have hx:=And.intro hw hx
   refine rV (cs:=[]) [3,8,9,10] [] rfl (by rw [hn2]; rfl) (jst b ls (i+1)) rfl ⟨hil,rfl⟩ ?_
   iterate 2 refine stA ?_
   exact lfA
  clear hK2 K2;have hjl:j<ws.length:=by simp at hb; omega
  refine lK (fun K2 hK2=>?_);refine tJ ?_;refine lK (fun K3 hK3=>?_);have hx:=And.intro (show (ws.map rS.enc)[((j:Int)).toNat]? = some (rS.enc (ws.getD j [])) by rw [Int.toNat_natCast]; exact yY rS.enc ws hjl) (And.intro (adC j) hx)
  refine rV (cs:=[]) [3,8,9,10,15,16,17,6,7] [] rfl (by rw [hn2]; rfl) ⟨(yP b ls i ws j).t++[(6,ii j),(7,.one (.c (.d (.str (ws.getD j [])))))],[]⟩ rfl (hK3 _ ?_) ?_
  rotate_left
  ·iterate 5 refine stA ?_
   exact lfA
  clear hK3 K3;refine lK (fun K3 hK3=>?_);refine lK (fun K4 hK4=>?_);refine rV (cs:=[]) [3,8,9,10,15,16,17,7,23] [] rfl (by rw [hn2]; rfl) ⟨(yP b ls i ws j).t++[(7,.one (.c (.d (.str (ws.getD j []))))),(23,.one (.c (.d (.bool (decide ((0:Int) < (j:Int)))))))],[]⟩ rfl (hK4 _ ?_) ?_
  rotate_left
  ·iterate 2 refine stA ?_
   exact lfA
  clear hK4 K4;have hlj:=hle (j+1)
  rw [Lt.GC ws false j hjl] at hlj;have fin:K3 (⟨(yP b ls i ws j).t++[(7,.one (.c (.d (.str (ws.getD j [])))))],[]⟩,Lt.ay (ls.take i)++Lt.jw false (ws.take j)++(if false||decide (0<j) then [32] else [])):=by
   refine hK3 _ ?_;refine G7 (cs:=[]) [3,8,9,10,15,16,17] [_] _ (Lt.ay (ls.take i)++Lt.jw false (ws.take (j+1))) rfl (by rw [hn2]; rfl) rfl (by rw [hn2]; rfl) hH ⟨(yP b ls i ws j).t++[(7,.one (.c (.d (.str (ws.getD j []))))),(25,.one (.c (.d (.str (ws.getD j [])))))],[]⟩ rfl
    (fun a w γ F hX hB hs=>?_) ?_ ?_
   ·rw [Lt.GC ws false j hjl];simp only [<- aeI];exact Xt rfl rfl rfl rfl rfl (by simp only [adD] at hlj ⊢; omega) a w γ F hX hB hs
   ·refine hK2 _ ?_;have hw:=b9 (i:=j) (by omega)
    have hx:=And.intro hw hx
    refine rV (cs:=[]) [3,8,9,10,15,16,17] [] rfl (by rw [hn2]; rfl) (yP b ls i ws (j+1)) rfl ⟨hjl,rfl⟩ ?_
    iterate 2 refine stA ?_
    exact lfA
   ·refine stA ?_;exact lfA
  refine Ig rfl (fun hb=>?_) (fun hb=>?_)
  ·have h0:0<j:=by simp at hb; omega
   rw [show (false||decide (0<j))=true by simp [h0],if_pos rfl] at fin;refine G7 (cs:=[]) [3,8,9,10,15,16,17,7] [] _ (Lt.ay (ls.take i)++Lt.jw false (ws.take j)++[32]) rfl rfl rfl (by rw [hn2]; rfl) hH ⟨(yP b ls i ws j).t++[(7,.one (.c (.d (.str (ws.getD j []))))),(23,.one (.c (.d (.bool (decide ((0:Int) < (j:Int)))))))],[]⟩ rfl
    (PB (c:=32) (l:=Lt.ay (ls.take i)++Lt.jw false (ws.take j)) rfl rfl rfl rfl (by rw [Lib.byteCells_append]; rfl) (by have:=hle j; simp only [adD]; omega)) ?_ ⟨IX rfl⟩
   exact fin
  ·have h0:¬ 0<j:=by simp at hb; omega
   rw [show (false||decide (0<j))=false by simp [h0]] at fin;rw [if_neg Bool.false_ne_true,aeO] at fin;refine YE [3,8,9,10,15,16,17,7] (Gd ?_);exact fin
 obtain ⟨y,⟨he,h3,h4⟩,hm,⟨γ3,F3,hX5⟩,hB5⟩:=hl;subst he;rw [h4] at hB5;have e3:a3.tmps.getD 3 undef=.pointer (some ⟨b,0,none⟩):=MG (by have:=hX5.t 3; rw [h3,G.tv_lo (by decide)] at this; exact this)
 refine wp_seq (wp_region_lit (wpList_plain rfl (fun K' hK'=>zO rfl rfl (qk (c:=Tryz.f53.body.getD .skip) Tryz.func53 (by kernel_rfl) (by kernel_rfl)) ?_)));have e:(#[Operand.tmp 3]:Array Operand).map a3.eval=#[.pointer (some ⟨b,0,none⟩)]:=by
  rw [<- e3]; simp [Act.eval]
 rw [e];refine (Tryz.Builder_String_any _ b (Lt.ay ls) w3 hB5 hX5.fr.size).mono ?_;rintro e w4 ⟨rfl,hbel⟩
 refine ⟨_,rfl,hK' _ _ ?_⟩;have hX6:=(LG hX5 hm hH hbel).put (d:=some 30) (by rw [hn2]; rfl) (v:=.one (.c (.d (.str (Lt.ay ls))))) (y:=.string ⟨(Lt.ay ls).toArray⟩) (jN (by unfold BIG; omega))
 have hX7:=mF [30] hX6
 have hX8:RX g ⟨[(30,.one (.c (.d (.str (Lt.ay ls)))))],[]⟩ (a3.put (some 30) (.string ⟨(Lt.ay ls).toArray⟩)) w4 H γ3 F3:=by
  have hm7:(S.put y.1 (some 30) (.one (.c (.d (.str (Lt.ay ls)))))).m=[]:=hm
  refine ⟨by have:=hX7.mem; dsimp only at this; rw [hm7] at this; exact this,?_,hX7.nt,⟨hX7.df.1,hX7.df.2.1,hX.df.2.2⟩,fun i=>?_⟩
  ·have:=hX7.fr
   dsimp only at this;rw [hm7] at this;exact hX.fr.trans this
  ·have:=hX7.t i
   dsimp only at this;rw [hm7] at this;have e:aK (pA [30] (S.put y.1 (some 30) (.one (.c (.d (.str (Lt.ay ls)))))).t) i=aK [(30,.one (.c (.d (.str (Lt.ay ls)))))] i:=by
    simp only [pA,List.map_cons,List.map_nil,S.put,gB,if_true]
   rw [e] at this;exact this
 refine tR (g:=g) (cs:=[]) (H:=H) (k:=fun s'=>s'=⟨[(30,.one (.c (.d (.str (Lt.ay ls))))),(2,.one (.c (.d (.str (Lt.ay ls)))))],[]⟩) (fun s' a' w' γ' F' e hX9=>?_) [_] _ _ _ γ3 F3 rfl (by rw [hn]; rfl) (RK.out ?_) hX8
 rotate_left
 ·refine stA ?_;exact lfA
 subst e;refine wp_ret ⟨_,?_,H,γ',F',hX9⟩;exact fiA hK
def aaJ:CK1:=rL (fn1 (cL Lt.Line.rw) (o1 cS) (fun ls=>(Lt.ay ls).length<=140737488355328) Lt.ay)
attribute [push_cast] aaJ
end Go.Am
end

section
namespace Go.Am
theorem QB (c:C):(sct c).toV=sc c.toD:=rfl
theorem zu {n:Int} (h:0<=n/\n < 256):(((UInt8.ofNat n.toNat).toNat:Nat):Int)=n:=by
 have:n.toNat < 256:=by omega
 simp only [UInt8.toNat_ofNat',Nat.reducePow];omega
theorem XG (x:UInt8):0<=((x.toNat:Nat):Int)/\((x.toNat:Nat):Int) < 256:=by
 have:=x.toNat_lt
 omega
theorem Ia {k:IntKind} {n:Int} (h:k=.u8->0<=n/\n < 256):(mkC k n).toD=.int k n:=by
 cases k with
 | u8=>show D.int .u8 _=_; rw [zu (h rfl)]
 | _=>rfl
theorem abT (n:Int):0<=IntKind.u8.wrap n/\IntKind.u8.wrap n < 256:=by
 have:=wf_wrap (k:=.u8) n
 simp only [Lit.wf,ac9,decide_eq_true_eq] at this;have h1:IntKind.u8.min=0:=by decide
 have h2:IntKind.u8.max=255:=by decide
 rw [h1,h2] at this;omega
theorem eW {k:IntKind} {n:Int}:(mkC k (k.wrap n)).toD=.int k (k.wrap n):=Ia fun h=>by subst h; exact abT n
theorem ir {c:C} {k:IntKind} {n:Int} (h:uI c=some (k,n)):c.toD=.int k n/\(k=.u8->0<=n/\n < 256):=by
 unfold uI at h;split at h
 ·rename_i k' n';cases k' <;> simp only [ac8,Prod.mk.injEq,reduceCtorEq] at h <;> (obtain ⟨rfl,rfl⟩:=h; exact ⟨rfl,fun h=>by cases h⟩)
 ·rename_i x;simp only [ac8,Prod.mk.injEq] at h;obtain ⟨rfl,rfl⟩:=h;exact ⟨rfl,fun _=>XG x⟩
 ·cases h
theorem Vd {k:Nat} {row:List D} (h:rT k=some row):row=gw.map D.str:=by
 unfold rT at h;split at h
 ·first | (cases h; done) | (simp only [ac8] at h; exact h.symm)
 ·cases h
theorem wH {v:Value} (h:okT v=true):(uB v).toT=ro v:=by
 cases v with
 | int k n=>
  simp only [uB,ro];cases k with
  | u8=>
   simp only [okT,Lit.wf,ac9,decide_eq_true_eq] at h;have h1:IntKind.u8.min=0:=by decide
   have h2:IntKind.u8.max=255:=by decide
   rw [h1,h2] at h;have h':0<=n/\n < 256:=by omega
   simp only [h',and_self,if_true,Tt.toT,C.toD,zu h']
  | _=>rfl
 | slice a l c=>cases a with
  | none=>match l,c with
   | 0,0=>rfl
   | 0,_+1=>rfl
   | _+1,_=>rfl
  | some _=>rfl
 | pointer p=>cases p <;> rfl
 | map p=>cases p <;> rfl
 | _=>rfl
theorem aF {s:St} {x:Operand} (h:bh x=true):ev s.toS x=(evA s x).toV:=by
 cases x with
 | tmp t=>exact dB t s.t
 | const v=>
  simp only [bh] at h;cases v with
  | agg cs=>
   simp only [ev,evA,cst,Z0,At.toV,A1.toV]
   congr 2
   rw [adV];refine adU fun x hx=>?_
   simp only [okC] at h;exact (wH (agQ.1 h x (by simpa using hx))).symm
  | _=>
   simp only [ev,evA,cst,Z0,At.toV,A1.toV];rw [wH (by simpa [okC] using h)]
 | func f=>rfl
 | global g=>
  simp only [bh] at h;simp only [ev,evA,Y8];cases hg:rT g with
  | none=>rw [hg] at h; cases h
  | some row=>
   simp only [At.toV,A1.toV,Tt.toT,Vd hg];rfl
section
variable {k:At->Prop}
abbrev up (k:At->Prop):AV->Prop:=fun v=>∃ v',v=v'.toV/\k v'
theorem MY {c:C} {d:D} (h:k (sct c)) (e:c.toD=d):up k (sc d):=⟨sct c,by rw [QB,e],h⟩
theorem VT {c x y:At} (h:Ex c x y k):Ll c.toV x.toV y.toV (up k):=by
 unfold Ex at h;split at h
 ·rename_i b;cases b
  ·rw [if_neg (by simp)] at h; exact ⟨y,rfl,h⟩
  ·rw [if_pos rfl] at h; exact ⟨x,rfl,h⟩
 ·exact h.elim
theorem acF {a b:Int} (ha:0<=a/\a < 256):0<=a.tmod b/\a.tmod b < 256:=by
 refine ⟨Int.tmod_nonneg _ ha.1,?_⟩;rcases Int.lt_or_le b 0 with h | h
 ·rw [<- Int.tmod_neg];rcases Int.lt_or_le a (-b) with h' | h'
  ·rw [Int.tmod_eq_of_lt ha.1 h']; exact ha.2
  ·have:=Int.tmod_lt_of_pos a (show 0 < -b by omega); omega
 ·rcases Int.lt_or_le a b with h' | h'
  ·rw [Int.tmod_eq_of_lt ha.1 h']; exact ha.2
  ·rcases Int.lt_or_eq_of_le h with h'' | h''
   ·have:=Int.tmod_lt_of_pos a h''; omega
   ·subst h''; rw [Int.tmod_zero]; exact ha.2
theorem acO {a:Int} {m:Nat} (ha:0<=a/\a < 256):0<=a.fdiv (2 ^ m)/\a.fdiv (2 ^ m) < 256:=by
 have hp:(0:Int) < 2 ^ m:=Int.pow_pos (by decide)
 rw [agF _ (by omega)];refine ⟨Int.ediv_nonneg ha.1 (by omega),?_⟩;have:=Int.ediv_le_self (2 ^ m) ha.1
 omega
theorem Yt {op:BinOp} {x y:C} {K:C->Prop} (h:QK op x y K):vV op x.toD y.toD (fun d=>∃ c:C,c.toD=d/\K c):=by
 unfold QK at h;split at h
 ·rename_i a b;cases op <;> first | exact h.elim | exact ⟨_,rfl,h⟩ | exact ⟨h.1,_,rfl,h.2⟩
 ·split at h
  ·rename_i k a k' b hx hy;obtain ⟨ex,rx⟩:=ir hx;obtain ⟨ey,ry⟩:=ir hy;rw [ex,ey];split at h
   ·rename_i hk;unfold UF at h;cases op <;> simp only [abY,adB,false_or,true_or] at hk <;> simp only [vV]
    case add=>exact ⟨hk,_,eW,h⟩
    case sub=>exact ⟨hk,_,eW,h⟩
    case mul=>exact ⟨hk,_,eW,h⟩
    case quo=>exact ⟨hk,h.1,_,eW,h.2⟩
    case rem=>exact ⟨hk,h.1,_,Ia fun e=>acF (rx e),h.2⟩
    case and=>exact ⟨hk,_,eW,h⟩
    case or=>exact ⟨hk,_,eW,h⟩
    case xor=>exact ⟨hk,_,eW,h⟩
    case andNot=>exact ⟨hk,_,eW,h⟩
    case shl=>exact ⟨h.1,_,eW,h.2⟩
    case shr=>exact ⟨h.1,_,Ia fun e=>acO (rx e),h.2⟩
    case eql=>exact ⟨hk,_,rfl,h⟩
    case neq=>exact ⟨hk,_,rfl,h⟩
    case lss=>exact ⟨hk,_,rfl,h⟩
    case leq=>exact ⟨hk,_,rfl,h⟩
    case gtr=>exact ⟨hk,_,rfl,h⟩
    case geq=>exact ⟨hk,_,rfl,h⟩
   ·exact h.elim
  ·exact h.elim
theorem NL {op:BinOp} {x y:D} {K K':D->Prop} (hk:∀ d,K d->K' d) (h:vV op x y K):vV op x y K':=by
 cases x <;> cases y <;> try exact h.elim
 ·cases op <;> simp only [vV] at h ⊢ <;> first | exact ⟨h.1,h.2.1,hk _ h.2.2⟩ | exact ⟨h.1,hk _ h.2⟩
 ·cases op <;> simp only [vV] at h ⊢ <;> first | exact ⟨h.1,hk _ h.2⟩ | exact hk _ h | exact h.elim
theorem abD {ck:CK} {x y:C} {b:Bool} (h:eqC ck x y=some b):eqD ck x.toD y.toD=some b:=by
 unfold eqC at h;cases ck with
 | i=>
  dsimp only at h;split at h
  ·rename_i k a k' b' hx hy;rw [(ir hx).1,(ir hy).1]; exact h
  ·cases h
 | s=>
  dsimp only at h;split at h
  ·exact h
  ·cases h
 | b=>
  dsimp only at h;split at h
  ·exact h
  ·cases h
theorem Gi:∀ {l:List (Nat×CK)} {xs ys:List C} {b:Bool},Ty l xs ys=some b->kP l (xs.map C.toD) (ys.map C.toD)=some b
 | [],_,_,_,h=>h
 | (o,ck)::l,xs,ys,b,h=>by
  unfold Ty at h;unfold kP;rw [adG,adG];cases hx:xs[o]? with
  | none=>rw [hx] at h; cases h
  | some x=>
   cases hy:ys[o]? with
   | none=>rw [hx,hy] at h; cases h
   | some y=>
    rw [hx,hy] at h;dsimp only [Option.map_some] at h ⊢;cases he:eqC ck x y with
    | none=>rw [he] at h; cases h
    | some c=>
     rw [he] at h;rw [abD he];cases l with
     | nil=>exact h
     | cons z l=>
      dsimp only at h ⊢;cases hr:Ty (z::l) xs ys with
      | none=>rw [hr] at h; cases h
      | some r=>rw [hr] at h; rw [Gi hr]; exact h
theorem U0 (t:Tt) (h:TD t.toT≠.any\/True):(TC t).toD=TD t.toT:=by
 cases t <;> rfl
theorem W9 {P:Program} {op:BinOp} {t:TypeId} {x y:At} (h:QN P op t x y k):Oc P op t x.toV y.toV (up k):=by
 unfold QN at h;split at h
 ·rename_i a b;split at h
  ·rename_i ht;refine ⟨ht,?_⟩;cases op <;> first | exact h.elim | exact ⟨_,rfl,h⟩
  ·exact h.elim
 ·rename_i a b hne;have h':=Yt h
  have key:vV op a.toD b.toD (fun d=>up k (sc d)):=by
   refine NL ?_ h';rintro d ⟨c,rfl,hc⟩
   exact ⟨sct c,rfl,hc⟩
  cases a with
  | bo a=>cases b with
   | bo b=>exact (hne a b rfl rfl).elim
   | _=>exact key
  | _=>exact key
 ·rename_i xs ys;split at h
  ·rename_i l hl;have e1:(xs.map Tt.toT).map TD=(xs.map TC).map C.toD:=by
    rw [adV,adV]; exact adU fun t _=>(U0 t (.inr trivial)).symm
   have e2:(ys.map Tt.toT).map TD=(ys.map TC).map C.toD:=by
    rw [adV,adV]; exact adU fun t _=>(U0 t (.inr trivial)).symm
   simp only [At.toV,A1.toV,Oc];rw [hl,e1,e2];dsimp only;split at h
   ·rename_i b hb;rw [Gi hb]; exact ⟨_,rfl,h⟩
   ·rename_i b hb;rw [Gi hb]; exact ⟨_,rfl,h⟩
   ·exact h.elim
  ·exact h.elim
 ·exact h.elim
theorem aaT {op:UnOp} {x:At} (h:unT op x k):unK op x.toV (up k):=by
 unfold unT at h;split at h
 ·exact ⟨_,rfl,h⟩
 ·rename_i c;split at h
  ·rename_i κ n hc;simp only [At.toV,A1.toV,Tt.toT,(ir hc).1];exact MY h eW
  ·exact h.elim
 ·rename_i c;split at h
  ·rename_i κ n hc;simp only [At.toV,A1.toV,Tt.toT,(ir hc).1];exact MY h eW
  ·exact h.elim
 ·exact h.elim
theorem IJ {x:At} {i:Nat} (h:lX x i k):km x.toV i (up k):=by
 unfold lX at h;split at h
 ·rename_i vs;split at h
  ·rename_i v hv;simp only [At.toV,km,adG,hv,Option.map_some];exact ⟨.one v,rfl,h⟩
  ·exact h.elim
 ·exact h.elim
theorem RG {x i:At} (h:vY x i k):wI x.toV i.toV (up k):=by
 unfold vY at h;split at h
 ·rename_i l κ n;obtain ⟨⟨h1,h2⟩,h3⟩:=h;simp only [At.toV,A1.toV,Tt.toT,C.toD,wI];refine ⟨h1,?_⟩;rw [adA h2];dsimp only;refine ⟨_,?_,h3⟩;rw [QB];simp only [C.toD];rw [List.getD,adA h2]; rfl
 ·exact h.elim
theorem Gq {x:At} (h:jQ x k):lS x.toV (up k):=by
 unfold jQ at h;split at h
 ·exact ⟨_,rfl,h⟩
 ·exact ⟨_,rfl,h⟩
 ·exact ⟨_,rfl,h⟩
 ·exact h.elim
theorem RP {P:Program} {t:TypeId} {x:At} {i:Nat} (h:wZ P t x i k):wB P t x.toV i (up k):=by
 unfold wZ at h;split at h
 ·rename_i fs ts hk;simp only [At.toV,A1.toV,wB];rw [hk];dsimp only;cases hf:fs[i]? with
  | none=>rw [hf] at h; exact h.elim
  | some f=>
   obtain ⟨off,size,ag⟩:=f;rw [hf] at h
   match ag,h with
   | some false,h=>
    dsimp only at h ⊢;rw [adG];cases ht:ts[off]? with
    | none=>rw [ht] at h; exact h.elim
    | some t'=>rw [ht] at h; exact ⟨_,rfl,h⟩
   | some true,h=>
    dsimp only at h ⊢;split at h
    ·rename_i hb;refine ⟨by rw [adE]; exact adN hb,.one (.agg ((ts.drop off).take size)),?_,h⟩;simp only [At.toV,A1.toV,af7,af8]
    ·exact h.elim
   | none,h=>exact h.elim
 ·exact h.elim
theorem Vw {P:Program} {su du:TypeId} {x:At} (h:EN P su du x k):vw P su du x.toV (up k):=by
 unfold EN at h;split at h
 ·rename_i κ0 κ h1 h2;split at h
  ·rename_i c;split at h
   ·rename_i κ1 n hc;simp only [At.toV,A1.toV,Tt.toT,(ir hc).1,vw,h1,h2];exact MY h eW
   ·exact h.elim
  ·exact h.elim
 ·rename_i e h1 h2;split at h
  ·rename_i h3;split at h
   ·rename_i l;simp only [At.toV,A1.toV,Tt.toT,C.toD,vw,h1,h2];refine ⟨h3,?_⟩;have:∀ l:List UInt8,lA (l.map (aE .b8))=some l:=by
     intro l;induction l with
     | nil=>rfl
     | cons a l ih=>
      simp only [List.map_cons,aE,lA];have ih':lA (l.map (aE .b8))=some l:=ih
      simp only [aE] at ih'
      first
       | rw [ih']
       | (show (lA (l.map (aE .b8))).map _=_; rw [ih])
      simp
    rw [this l];exact ⟨_,rfl,h⟩
   ·simp only [At.toV,A1.toV,Tt.toT,vw,h1,h2];exact ⟨h3,_,rfl,h⟩
   ·exact h.elim
  ·exact h.elim
 ·exact h.elim
end
end Go.Am
end

section
namespace Go.Am
theorem Io (t:Tt):t.toT.sure=t.sure:=by
 cases t with
 | d c=>cases c <;> rfl
 | _=>rfl
def RH (t:Tt) (t':T):Prop:=t'=t.toT\/∃ sh u l,∃ l':List (List D),t=.ow sh u l/\t'=.ow sh l'/\l'.length=l.length
structure HL (ts:List Tt) (ts':List T):Prop where
 len:ts'.length=ts.length
 nth:∀ (i:Nat) (t:Tt) (t':T),ts[i]? = some t->ts'[i]? = some t'->RH t t'
theorem wR (ts:List Tt):HL ts (ts.map Tt.toT):=by
 refine ⟨by simp,fun i t t' h h'=>?_⟩;rw [adG,h] at h';exact .inl (Option.some.inj h').symm
theorem HL.drop {ts:List Tt} {ts':List T} (h:HL ts ts') (n:Nat):HL (ts.drop n) (ts'.drop n):=
 ⟨by simp [h.len],fun i t t' h1 h2=>by rw [adW] at h1 h2; exact h.nth _ t t' h1 h2⟩
theorem HL.take {ts:List Tt} {ts':List T} (h:HL ts ts') (n:Nat):HL (ts.take n) (ts'.take n):=
 ⟨by simp [h.len],fun i t t' h1 h2=>by
  rw [agN] at h1 h2;split at h1
  ·rename_i hi; rw [if_pos hi] at h2; exact h.nth _ t t' h1 h2
  ·cases h1⟩
theorem ld:∀ (q:List Step) (sub:List Sh) (l:List (List D)) (x:D),(bW sub l x q).length=l.length
 | [],_,_,_=>rfl
 | [st],_,_,_=>by simp [bW]
 | st::st'::r,sub,l,x=>by
  simp only [bW];split
  ·simp
  ·rfl
theorem Bb (cells:List Tt) (hole:Option (Nat×Step×List Step)):HL cells (holed (cells.map Tt.toT) hole):=by
 cases hole with
 | none=>exact wR cells
 | some h=>
  obtain ⟨off,st,q⟩:=h;simp only [holed];split
  ·rename_i sub l hc;refine ⟨by simp,fun i t t' h1 h2=>?_⟩;by_cases hi:off=i
   ·subst hi;rw [adG,h1] at hc;have hc':=Option.some.inj hc
    have hlt:off < (cells.map Tt.toT).length:=by
     have:=(aeV.1 h1).1
     simpa using this
    rw [ad1 hlt] at h2;have h2':=Option.some.inj h2
    cases t with
    | ow sh u l0=>
     simp only [Tt.toT,T.ow.injEq] at hc';obtain ⟨rfl,rfl⟩:=hc';exact .inr ⟨_,_,_,_,rfl,h2'.symm,by rw [ld]; simp⟩
    | _=>simp [Tt.toT] at hc'
   ·rw [aeD hi] at h2;exact (wR cells).nth i t t' h1 h2
  ·exact wR cells
theorem Us {t:Tt} {t':T} (h:RH t t') (q:Pl):CM q t'=(We q t).toT:=by
 rcases h with rfl | ⟨sh,u,l,l',rfl,rfl,_⟩
 ·cases t <;> rfl
 ·rfl
theorem XK {ts:List Tt} {ts':List T} (h:HL ts ts') (p:Pl):ue p ts'=(MN p ts).map Tt.toT:=by
 refine afM fun i=>?_
 simp only [ue,MN,adG,List.getElem?_zipIdx,afD,Option.map_map];cases h1:ts[i]? with
 | none=>
  have:ts'[i]? = none:=by rw [List.getElem?_eq_none_iff] at h1 ⊢; rw [h.len]; exact h1
  rw [this]; rfl
 | some t=>
  have hlt:i<ts'.length:=by rw [h.len]; exact (aeV.1 h1).1
  rw [adA hlt];simp only [Option.map_some,Function.comp,ac8];exact Us (h.nth i t _ h1 (adA hlt)) _
theorem i5 {u:U} (l:List (El u)) {i:Nat} (h:i<l.length):(l.map (aE u)).getD i []=aE u (l.getD i (dflt u)):=by
 rw [List.getD,List.getD,adG,adA h]; rfl
theorem jC {u:U} (l:List (El u)) {i:Nat} (h:i<l.length):(l.map (aE u))[i]? = some (aE u (l.getD i (dflt u))):=by
 rw [List.getD,adG,adA h]; rfl
def Ux (s:Sh) (c:C):Tt:=match s,c with
 | Sh.fr,x=>Tt.d x
 | Sh.ow s,C.li u' l'=>Tt.ow s u' l'
 | _,_=>Tt.any
theorem Wd (s:Sh) (c:C):mkT s c.toD=(Ux s c).toT:=by
 cases s with
 | fr=>rfl
 | ow s=>cases c <;> rfl
theorem zl:∀ (s:List Sh) (c:List C),List.zipWith mkT s (c.map C.toD)=(List.zipWith Ux s c).map Tt.toT
 | [],_=>by simp
 | _::_,[]=>by simp
 | s::ss,c::cs=>by simp only [List.map_cons,agR,Wd,zl ss cs]
theorem OK:∀ {path:List Step} {sub:List Sh} {u:U} {l:List (El u)} {n:Nat} {ts:List Tt} {K:List T->Prop},okO sub (l.map (aE u)) path->inT sub u l n path=some ts->K (ts.map Tt.toT)->inK sub (l.map (aE u)) n path K
 | [],_,_,_,_,_,_,h,_,_=>h.elim
 | [st],sub,u,l,n,ts,K,h,ht,hK=>by
  obtain ⟨h1,h2,h3⟩:=h;rw [adE] at h1;simp only [inT] at ht;split at ht
  ·rename_i hb;simp only [ac8] at ht;refine ⟨adN hb,?_⟩;rw [jC l h1];dsimp only;rw [<- bS,<- af8,<- af7,zl];subst ht;exact hK
  ·cases ht
 | st::st'::r,sub,u,l,n,ts,K,h,ht,hK=>by
  obtain ⟨⟨h1,h2,h3⟩,h4⟩:=h;rw [adE] at h1;simp only [inT] at ht;split at ht
  ·rename_i s u' l' e1 e2;simp only [inK];rw [jC l h1];dsimp only;have e3:(aE u (l.getD st.idx (dflt u)))[st.off]? = some (.li (l'.map (aE u'))):=by
    rw [<- bS,adG,e2]; rfl
   rw [e1,e3];dsimp only;rw [e1,i5 l h1,List.getD,e3] at h4;exact OK h4 ht hK
  ·cases ht
def okP (m:Mm) (p:Pl):Prop:=match p.path with
 | []=>True
 | st::q=>∃ r sub l,ae m p.root=some r/\r.cells[p.off]? = some (.ow sub l)/\okO sub l (st::q)
theorem UO {m:Mm} {p:Pl} (h:bU m p):okP m p:=by
 unfold okP;split
 ·trivial
 ·rename_i st q hp;unfold bU at h;split at h
  ·exact h.elim
  ·rename_i r hr;rw [hp] at h;dsimp only at h;split at h
   ·rename_i sub l hc; exact ⟨r,sub,l,hr,hc,h⟩
   ·exact h.elim
theorem Fi {m:Mm} {p:Pl} (h:gF m p):okP m p:=by
 unfold okP;split
 ·trivial
 ·rename_i st q hp;unfold gF at h;split at h
  ·exact h.elim
  ·rename_i r hr;rw [hp] at h;split at h
   ·simp_all
   ·rename_i sub l st' q' hc he;simp only [List.cons.injEq] at he;obtain ⟨rfl,rfl⟩:=he;exact ⟨r,sub,l,hr,hc,h.1⟩
   ·exact h.elim
theorem bF {m:List (Nm×Nat×Rt)} {n:Nm} {r:Rt} (h:cg m n=some r):ae (toM m) n=some r.toR:=by rw [uK,h]; rfl
theorem O2 {ss:List Sh} {xs:List D} {i:Nat} {t:T} (h:(List.zipWith mkT ss xs)[i]? = some t):∃ s x,ss[i]? = some s/\xs[i]? = some x/\t=mkT s x:=by
 rw [List.getElem?_zipWith] at h;cases h1:ss[i]? with
 | none=>rw [h1] at h; simp at h
 | some s=>cases h2:xs[i]? with
  | none=>rw [h1,h2] at h; simp at h
  | some x=>rw [h1,h2] at h; exact ⟨s,x,rfl,rfl,(Option.some.inj h).symm⟩
theorem Uo:∀ {path hp:List Step} {sub:List Sh} {u:U} {l:List (El u)} {n:Nat} {ts:List Tt} {K:List T->Prop},path.length<hp.length->okO sub (bW sub (l.map (aE u)) .any hp) path->inT sub u l n path=some ts->(∀ ts',HL ts ts'->K ts')->inK sub (bW sub (l.map (aE u)) .any hp) n path K
 | [],_,_,_,_,_,_,_,_,h,_,_=>h.elim
 | _::_,[],_,_,_,_,_,_,hlt,_,_,_=>by simp at hlt
 | [_],[_],_,_,_,_,_,_,hlt,_,_,_=>by simp at hlt
 | _::_::_,[_],_,_,_,_,_,_,hlt,_,_,_=>by simp at hlt
 | [st],h::h'::hr,sub,u,l,n,ts,K,hlt,hok,ht,hK=>by
  have hlen:(bW sub (l.map (aE u)) .any (h::h'::hr)).length=l.length:=by rw [ld,adE]
  have hok1:=hok.1
  rw [hlen] at hok1;simp only [inT] at ht;split at ht
  ·rename_i hb;simp only [ac8] at ht;refine ⟨adN hb,?_⟩;have base:((l.map (aE u))[st.idx]?)=some (aE u (l.getD st.idx (dflt u))):=jC l hok1
   have key:∀ x,(bW sub (l.map (aE u)) .any (h::h'::hr))[st.idx]? = some x->(x=aE u (l.getD st.idx (dflt u))\/∃ s l1,sub[h.off]? = some (.ow s)/\(aE u (l.getD st.idx (dflt u)))[h.off]? = some (.li l1)/\x=(aE u (l.getD st.idx (dflt u))).set h.off (.li (bW s l1 .any (h'::hr)))):=by
    intro x hx;simp only [bW] at hx;split at hx
    ·rename_i s l1 e1 e2;rw [ae1] at hx;split at hx
     ·rename_i ei;split at hx
      ·have hx':=Option.some.inj hx
       rw [ei,i5 l hok1] at e2 hx';refine .inr ⟨s,l1,e1,?_,hx'.symm⟩;rw [List.getD] at e2;cases h3:(aE u (l.getD st.idx (dflt u)))[h.off]? with
       | none=>rw [h3] at e2; cases e2
       | some d=>rw [h3] at e2; simp only [Option.getD_some] at e2; rw [e2]
      ·cases hx
     ·rw [base] at hx; exact .inl (Option.some.inj hx).symm
    ·rw [base] at hx; exact .inl (Option.some.inj hx).symm
   have hlt2:st.idx < (bW sub (l.map (aE u)) .any (h::h'::hr)).length:=by rw [hlen]; exact hok1
   rw [adA hlt2];dsimp only;rcases key _ (adA hlt2) with e | ⟨s,l1,e1,e2,e⟩
   ·rw [e,<- bS,<- af8,<- af7,zl];subst ht;exact hK _ (wR _)
   ·rw [e];refine hK _ ?_;subst ht;have hbase:List.zipWith mkT ((sub.drop st.off).take n) (((aE u (l.getD st.idx (dflt u))).drop st.off).take n)=(List.zipWith Ux ((sub.drop st.off).take n) (((flat u (l.getD st.idx (dflt u))).drop st.off).take n)).map Tt.toT:=by
     rw [<- bS,<- af8,<- af7,zl]
    refine ⟨?_,fun i t t' a1 a2=>?_⟩
    ·have hl:=congrArg List.length hbase
     simp only [adE] at hl;have hx:∀ ys:List D,(List.zipWith mkT ((sub.drop st.off).take n) ((ys.drop st.off).take n)).length=min (min n (sub.length-st.off)) (min n (ys.length-st.off)):=by
      intro ys; simp
     refine Eq.trans ?_ hl;rw [hx,hx,aeK]
    ·obtain ⟨s0,x0,b1,b2,b3⟩:=O2 a2;have a1':((List.zipWith Ux ((sub.drop st.off).take n) (((flat u (l.getD st.idx (dflt u))).drop st.off).take n)).map Tt.toT)[i]? = some t.toT:=by
      rw [adG];have:(List.zipWith Ux ((sub.drop st.off).take n) (((flat u (l.getD st.idx (dflt u))).drop st.off).take n))[i]? = some t:=a1
      rw [this]; rfl
     rw [<- hbase] at a1';obtain ⟨s1,x1,c1,c2,c3⟩:=O2 a1';rw [b1] at c1;obtain rfl:=Option.some.inj c1;rw [agN] at b1 b2 c2;split at b2
     ·rename_i hin;rw [if_pos hin] at b1 c2;rw [adW] at b1 b2 c2;rw [ae1] at b2;split at b2
      ·rename_i eo;rw [<- eo] at b1 c2;rw [e1] at b1;obtain rfl:=Option.some.inj b1;rw [e2] at c2;obtain rfl:=Option.some.inj c2;split at b2
       ·obtain rfl:=Option.some.inj b2;rw [b3];cases t with
        | ow sh2 u2 l2=>
         simp only [mkT,Tt.toT,T.ow.injEq] at c3;obtain ⟨rfl,e5⟩:=c3;refine .inr ⟨_,_,_,_,rfl,rfl,?_⟩;rw [ld,<- e5,adE]
        | _=>simp [mkT,Tt.toT] at c3
       ·cases b2
      ·rw [b2] at c2;obtain rfl:=Option.some.inj c2;rw [b3,<- c3]; exact .inl rfl
     ·cases b2
  ·cases ht
 | st::st'::r,h::h'::hr,sub,u,l,n,ts,K,hlt,hok,ht,hK=>by
  have hlen:(bW sub (l.map (aE u)) .any (h::h'::hr)).length=l.length:=by rw [ld,adE]
  obtain ⟨⟨hi,hz,ho⟩,hok2⟩:=hok;rw [hlen] at hi;simp only [inT] at ht;split at ht
  ·rename_i s u' l' e1 e2;have base:((l.map (aE u))[st.idx]?)=some (aE u (l.getD st.idx (dflt u))):=jC l hi
   have e3:(aE u (l.getD st.idx (dflt u)))[st.off]? = some (.li (l'.map (aE u'))):=by
    rw [<- bS,adG,e2]; rfl
   have key:∃ x,(bW sub (l.map (aE u)) .any (h::h'::hr))[st.idx]? = some x/\(x[st.off]? = some (.li (l'.map (aE u')))\/x[st.off]? = some (.li (bW s (l'.map (aE u')) .any (h'::hr)))):=by
    simp only [bW];split
    ·rename_i s1 l1 f1 f2;rw [ae1];split
     ·rename_i ei;rw [if_pos (by rw [adE,ei]; exact hi)];refine ⟨_,rfl,?_⟩;rw [ei,i5 l hi] at f2 ⊢;rw [ae1];split
      ·rename_i eo;rw [eo] at f1 f2;rw [e1] at f1;simp only [ac8,Sh.ow.injEq] at f1;subst f1;rw [List.getD,e3,Option.getD_some] at f2;simp only [D.li.injEq] at f2;subst f2;rw [if_pos (by rw [eo]; exact aj e3)];exact .inr rfl
      ·exact .inl e3
     ·exact ⟨_,base,.inl e3⟩
    ·exact ⟨_,base,.inl e3⟩
   obtain ⟨x,hx,hx2⟩:=key;have hg:(bW sub (l.map (aE u)) .any (h::h'::hr)).getD st.idx []=x:=by rw [List.getD,hx]; rfl
   rw [e1,hg] at hok2;simp only [inK];rw [hx];dsimp only;rw [e1];rcases hx2 with hx2 | hx2
   ·rw [List.getD,hx2] at hok2;rw [hx2];dsimp only at hok2 ⊢;exact OK hok2 ht (hK _ (wR _))
   ·rw [List.getD,hx2] at hok2;rw [hx2];dsimp only at hok2 ⊢;exact Uo (by simpa using hlt) hok2 ht hK
  ·cases ht
theorem MA {m:List (Nm×Nat×Rt)} {p:Pl} {n:Nat} {ts:List Tt} {K:List T->Prop} (hp:okP (toM m) p) (h:atT m p n=some ts) (hK:∀ ts',HL ts ts'->K ts'):atK (toM m) p n K:=by
 unfold atT at h;split at h
 ·cases h
 ·rename_i r hr;unfold atK;rw [bF hr];dsimp only;unfold okP at hp;split at h
  ·rename_i hpath;rw [hpath];split at h
   ·rename_i hb;simp only [ac8] at h;have hH:=Bb r.cells r.hole
    refine ⟨?_,hK _ ?_⟩
    ·show p.off+n<=(holed (r.cells.map Tt.toT) r.hole).length
     rw [hH.len]; exact adN hb
    ·subst h; exact (hH.drop _).take _
   ·cases h
  ·rename_i st q hpath;rw [hpath] at hp ⊢;split at h
   ·rename_i sub u l hhole hc;obtain ⟨r',sub',l',e1,e2,e3⟩:=hp;rw [bF hr] at e1;obtain rfl:=Option.some.inj e1;have plain:r.toR.cells[p.off]? = some (.ow sub (l.map (aE u)))->(match st::q,r.toR.cells[p.off]? with
      | [],_=>p.off+n<=r.toR.cells.length/\K ((r.toR.cells.drop p.off).take n)
      | st::q,some (.ow sub l)=>inK sub l n (st::q) K
      | _,_=>False):=by
     intro ec;rw [ec] at e2 ⊢;have e2':=Option.some.inj e2
     simp only [T.ow.injEq] at e2';obtain ⟨rfl,rfl⟩:=e2';exact OK e3 h (hK _ (wR ts))
    cases hho:r.hole with
    | none=>
     refine plain ?_;show (holed (r.cells.map Tt.toT) r.hole)[p.off]? = _
     rw [hho];show (r.cells.map Tt.toT)[p.off]? = _
     rw [adG,hc]; rfl
    | some hh=>
     obtain ⟨off,st',q'⟩:=hh;rw [hho] at hhole;have hlt:(st::q).length < (st'::q').length:=adN hhole
     by_cases hoff:off=p.off
     ·subst hoff;have hlt2:p.off < (r.cells.map Tt.toT).length:=by rw [adE]; exact (aeV.1 hc).1
      have ec:r.toR.cells[p.off]? = some (.ow sub (bW sub (l.map (aE u)) .any (st'::q'))):=by
       show (holed (r.cells.map Tt.toT) r.hole)[p.off]? = _
       rw [hho];simp only [holed];rw [adG,hc];simp only [Option.map_some,Tt.toT];rw [ad1 hlt2]
      rw [ec] at e2 ⊢;have e2':=Option.some.inj e2
      simp only [T.ow.injEq] at e2';obtain ⟨rfl,rfl⟩:=e2';exact Uo hlt e3 h hK
     ·refine plain ?_;show (holed (r.cells.map Tt.toT) r.hole)[p.off]? = _
      rw [hho];simp only [holed];split
      ·rw [aeD hoff,adG,hc]; rfl
      ·rw [adG,hc]; rfl
   ·cases h
theorem B2 {m:List (Nm×Nat×Rt)} {p:Pl} {sh:List Sh} {u:U} {l:List (El u)} {K:List T->Prop} (hp:okP (toM m) p) (h:sliceAt m p=some ⟨sh,u,l⟩) (hK:∀ l':List (List D),l'.length=l.length->K [.ow sh l']):atK (toM m) p 1 K:=by
 unfold sliceAt at h;split at h
 ·rename_i sh' u' l' ht;cases h;refine MA hp ht (fun ts' hH=>?_);have hl:=hH.len
  match ts',hl with
  | [t'],_=>
   rcases hH.nth 0 _ _ rfl rfl with e | ⟨sh2,u2,l2,l3,e1,e2,e3⟩
   ·rw [e]; exact hK _ (by simp)
   ·simp only [Tt.ow.injEq] at e1;obtain ⟨rfl,rfl,e5⟩:=e1;have e5':=eq_of_heq e5
    subst e5';rw [e2]; exact hK _ e3
 ·cases h
section
variable {k:At->Prop} {m:List (Nm×Nat×Rt)}
theorem GZ {gd:Option (Nat×Bool)} {n:Nat} {q:Prop} (h:gift gd n q):n<=4611686018427387904->q:=by
 cases gd with
 | none=>exact h
 | some _=>exact fun _=>h
theorem W8 {gd:Option (Nat×Bool)} {x:At} {k:Nat->Prop} (hp:∀ p,x=.one (.c (.rf p))->okP (toM m) p) (h:Rn gd m x k):LS (toM m) x.toV k:=by
 unfold Rn at h;split at h
 ·exact GZ h
 ·simp only [At.toV,A1.toV,Tt.toT,C.toD,LS,adE]; exact GZ h
 ·exact h
 ·rename_i p;split at h
  ·rename_i sh u l hs;simp only [At.toV,A1.toV,Tt.toT,LS];refine B2 (hp p rfl) hs (fun l' hl=>?_);dsimp only;rw [hl]; exact GZ h
  ·exact h.elim
 ·exact h.elim
theorem jR {x:Option At} {d:Nat} {k:Nat->Prop} (h:gN x d k):iu (x.map At.toV) d k:=by
 unfold gN at h;split at h
 ·exact h
 ·exact h
 ·exact h.elim
theorem RY {P:Program} {t:TypeId} {x:At} {lo hi:Option At} (h:vS P t x lo hi k):lI P t x.toV (lo.map At.toV) (hi.map At.toV) (up k):=by
 have bmono:∀ {y:Option At} {d:Nat} {k1 k2:Nat->Prop},(∀ n,k1 n->k2 n)->gN y d k1->gN y d k2:=by
  intro y d k1 k2 hk hb;unfold gN at hb ⊢;split at hb
  ·exact hk _ hb
  ·exact ⟨hb.1,hk _ hb.2⟩
  ·exact hb.elim
 unfold vS at h;split at h
 ·rename_i l;split at h
  ·rename_i ht;refine ⟨ht,jR (bmono (fun a ha=>jR (bmono (fun b hb=>?_) ha)) h)⟩;exact ⟨hb.1,_,rfl,hb.2⟩
  ·exact h.elim
 ·rename_i u l;split at h
  ·rename_i e ht;split at h
   ·rename_i hc;simp only [ac9] at hc;simp only [At.toV,A1.toV,Tt.toT,C.toD,lI,ht];refine ⟨hc.1,fun y hy=>?_,jR (bmono (fun a ha=>?_) h)⟩
    ·obtain ⟨z,_,rfl⟩:=ad0.1 hy;rw [kV]; exact adO hc.2
    ·rw [adE];refine jR (bmono (fun b hb=>?_) ha);exact ⟨hb.1,_,by simp only [At.toV,A1.toV,Tt.toT,C.toD,af7,af8],hb.2⟩
   ·exact h.elim
  ·exact h.elim
 ·split at h
  ·rename_i e ht;split at h
   ·rename_i hc;simp only [At.toV,A1.toV,Tt.toT,lI,ht];refine ⟨hc,jR (bmono (fun a ha=>jR (bmono (fun b hb=>?_) ha)) h)⟩;exact ⟨hb.1,hb.2.1,_,rfl,hb.2.2⟩
   ·exact h.elim
  ·exact h.elim
 ·exact h.elim
theorem pc {p:Pl} {n:Nat} (h:pG m p n=true):iG (toM m) p n:=by
 unfold pG at h;split at h
 ·cases h
 ·rename_i r hr;unfold iG room;rw [bF hr];dsimp only;have hH:=Bb r.cells r.hole
  split at h
  ·rename_i hpath;rw [hpath];show n < (holed (r.cells.map Tt.toT) r.hole).length-p.off
   rw [hH.len];exact adN h
  ·rename_i st q sub u l hpath hc;rw [hpath];split at h
   ·rename_i k hk;have hlt:=(aeV.1 hc).1
    have hlt':p.off < (holed (r.cells.map Tt.toT) r.hole).length:=by rw [hH.len]; exact hlt
    have:=hH.nth p.off _ _ hc (adA hlt')
    have e:∃ l',r.toR.cells[p.off]? = some (.ow sub l'):=by
     rcases this with e | ⟨sh,u2,l2,l3,e1,e2,_⟩
     ·exact ⟨_,by show (holed _ _)[p.off]? = _; rw [adA hlt',e]; rfl⟩
     ·simp only [Tt.ow.injEq] at e1;obtain ⟨rfl,_,_⟩:=e1;exact ⟨l3,by show (holed _ _)[p.off]? = _; rw [adA hlt',e2]⟩
    obtain ⟨l',e⟩:=e;rw [e];dsimp only;rw [hk];exact adN h
   ·cases h
  ·cases h
theorem Dw {P:Program} {t:TypeId} {x:At} {i:Nat} (h:iE P m t x i k):gc P (toM m) t x.toV i (up k):=by
 unfold iE at h;split at h
 ·rename_i fs ht;unfold gc;rw [ht];dsimp only;cases hf:fs[i]? with
  | none=>rw [hf] at h; exact h.elim
  | some f=>
   obtain ⟨off,size,ag⟩:=f;rw [hf] at h;cases size with
   | zero=>exact h.elim
   | succ size=>
    dsimp only at h ⊢;refine ⟨by omega,?_⟩;split at h
    ·split at h
     ·rename_i hr; exact ⟨pc hr,_,rfl,h⟩
     ·exact h.elim
    ·exact ⟨_,rfl,h⟩
    ·exact h.elim
 ·exact h.elim
theorem C7 {P:Program} {t:TypeId} {x i:At} (hp:∀ p,x=.one (.c (.rf p))->okP (toM m) p) (h:iB P m t x i k):gj P (toM m) t x.toV i.toV (up k):=by
 unfold iB at h;split at h
 ·rename_i κ n;simp only [At.toV,A1.toV,Tt.toT,C.toD,gj];split at h
  ·rename_i e ht;rw [ht];split at h
   ·rename_i u l;split at h
    ·rename_i hc;simp only [ac9] at hc;obtain ⟨⟨h1,h2⟩,h3⟩:=h;simp only [At.toV,A1.toV,Tt.toT,C.toD];refine ⟨hc.1,h1,?_⟩;rw [jC l h2];dsimp only;refine ⟨by rw [kV]; exact adO hc.2,_,?_,h3⟩;simp only [At.toV,A1.toV,Tt.toT,bS]
    ·exact h.elim
   ·rename_i p;split at h
    ·rename_i hc;simp only [ac9] at hc;split at h
     ·rename_i sh u l hs;split at h
      ·rename_i hb;obtain ⟨h1,h2⟩:=h;simp only [At.toV,A1.toV,Tt.toT];refine ⟨hc.1,by have:=adN hc.2; omega,B2 (hp p rfl) hs (fun l' hl=>?_)⟩;dsimp only;exact ⟨⟨h1.1,by rw [hl]; exact h1.2⟩,adO hb,_,rfl,h2⟩
      ·exact h.elim
     ·exact h.elim
    ·exact h.elim
   ·exact h.elim
  ·rename_i N e ht;rw [ht];split at h
   ·rename_i u l i;split at h
    ·rename_i hc;simp only [ac9] at hc;obtain ⟨h1,h2⟩:=h;simp only [At.toV,A1.toV,Tt.toT];refine ⟨hc.1.1,h1,_,?_,h2⟩;simp only [At.toV,A1.toV,Tt.toT];rw [adO hc.1.2,Nat.mul_one,ahH];rfl
    ·exact h.elim
   ·rename_i p;split at h
    ·rename_i hc;simp only [ac9] at hc;obtain ⟨h1,h2⟩:=h;simp only [At.toV,A1.toV,Tt.toT];exact ⟨hc.1,h1,pc hc.2,_,rfl,h2⟩
    ·exact h.elim
   ·exact h.elim
  ·exact h.elim
 ·exact h.elim
theorem JT {P:Program} {t:TypeId} {x:At} (hp:∀ p,x=.one (.c (.pl p))->okP (toM m) p) (h:rH P m t x k):tK P (toM m) t x.toV (up k):=by
 unfold rH at h;split at h
 ·rename_i hok;refine ⟨hok,?_⟩;split at h
  ·rename_i row o;simp only [At.toV,A1.toV,Tt.toT];split at h
   ·rename_i ha;rw [if_pos ha];split at h
    ·rename_i hb;refine ⟨by rw [adE]; exact adN hb,fun _=>⟨_,?_,h⟩⟩;simp only [At.toV,A1.toV,AV.one.injEq,AV1.agg.injEq];rw [adV,<- af8,<- af7,adV];rfl
    ·exact h.elim
   ·rename_i ha;rw [if_neg (by rw [ha]; simp),adG];split at h
    ·rename_i c hc; rw [hc]; exact fun _=>⟨_,rfl,h⟩
    ·exact h.elim
  ·rename_i u l i;simp only [At.toV,A1.toV,Tt.toT];split at h
   ·rename_i ha hl;have e:l[i]? = some (l.getD i (dflt u)):=by rw [List.getD_eq_getElem?_getD,adA h.1]; rfl
    rw [if_neg (by rw [ha]; simp),adG,e];exact fun _=>⟨_,rfl,h.2⟩
   ·exact h.elim
  ·rename_i p;simp only [At.toV,A1.toV,Tt.toT];split at h
   ·rename_i ha;rw [if_pos ha];split at h
    ·rename_i ts hts;refine MA (hp p rfl) hts (fun ts' hH=>fun _=>⟨_,?_,h⟩);simp only [At.toV,A1.toV,XK hH]
    ·exact h.elim
   ·rename_i ha;rw [if_neg (by rw [ha]; simp)];split at h
    ·rename_i t' hts;refine MA (hp p rfl) hts (fun ts' hH=>?_);have hl:=hH.len
     match ts',hl with
     | [t''],_=>
      dsimp only;refine fun _=>⟨_,?_,h⟩
      simp only [At.toV,A1.toV];rw [Us (hH.nth 0 _ _ rfl rfl)]
    ·exact h.elim
  ·exact h.elim
 ·exact h.elim
theorem sB (x:At):fi x.toV=(q8 x).map (·.map Tt.toT):=by
 cases x with
 | one x=>cases x <;> rfl
 | _=>rfl
theorem SV {α β:Type} (f:α->β) (ts cs:List α) (off:Nat):(overw ts off cs).map f=overw (ts.map f) off (cs.map f):=by
 simp only [overw,ad5,af7,af8,adE]
theorem qs {pl:Nat->Option (Nat×Nat)}:∀ {parts:List (Nat×At)} {ts ts':List Tt},tm pl ts parts=some ts'->jr pl (ts.map Tt.toT) (parts.map fun x=>(x.1,x.2.toV))=some (ts'.map Tt.toT)
 | [],ts,ts',h=>by simp only [tm,ac8] at h; subst h; rfl
 | (i,x)::r,ts,ts',h=>by
  simp only [tm] at h;simp only [List.map_cons,jr];cases hpl:pl i with
  | none=>rw [hpl] at h; cases h
  | some q=>
   obtain ⟨off,size⟩:=q;cases hc:q8 x with
   | none=>rw [hpl,hc] at h; cases h
   | some cs=>
    rw [hpl,hc] at h;dsimp only at h;split at h
    ·rename_i hb;simp only [ac9] at hb;rw [sB,hc];dsimp only [Option.map_some];have hs:(cs.map Tt.toT).all T.sure=true:=by
      rw [agB];rw [<- hb.2]
      congr 1
      funext t; exact Io t
     rw [if_pos ⟨by rw [adE]; exact adO hb.1.1,by rw [adE,adE]; exact adN hb.1.2,hs⟩];rw [<- SV];exact qs h
    ·cases h
theorem wW {s:St} {ps:Array (Nat×Operand)} (h:(ps.toList.all fun x=>bh x.2)=true):kH s.toS ps=(nJ s ps).map fun x=>(x.1,x.2.toV):=by
 unfold kH nJ;rw [adV];refine adU fun x hx=>?_
 simp only [Function.comp];rw [aF (adI.1 h x hx)]
theorem OZ {zs:List Value} (h:zs.all okT=true):(zs.map uB).map Tt.toT=zs.map ro:=by
 rw [adV];exact adU fun x hx=>wH (adI.1 h x hx)
theorem Yl {P:Program} {t:TypeId} {zs:List Value} {pl:List (Nat×Nat)} (h:zst P t=some (zs,pl)):zs.all okT=true:=by
 unfold zst at h;split at h
 ·split at h
  ·split at h
   ·rename_i hall;simp only [ac8,Prod.mk.injEq] at h;obtain ⟨rfl,_⟩:=h;simpa using hall
   ·cases h
  ·cases h
 ·split at h
  ·split at h
   ·rename_i hall;simp only [ac8,Prod.mk.injEq] at h;obtain ⟨rfl,_⟩:=h;simpa using hall
   ·cases h
  ·cases h
 ·cases h
theorem QO {P:Program} {t:TypeId} {parts:List (Nat×At)} (h:wj P t parts k):sC P t (parts.map fun x=>(x.1,x.2.toV)) (up k):=by
 unfold wj at h;split at h
 ·rename_i zs places hz;split at h
  ·rename_i ts hf;unfold sC;rw [hz];dsimp only;have:=qs hf
   rw [OZ (Yl hz)] at this;rw [this];exact ⟨.one (.agg ts),rfl,h⟩
  ·exact h.elim
 ·exact h.elim
end
end Go.Am
end

section
namespace Go.Am
theorem je (bad:Bool->Pl->Bool) (t:Tt):(t.kill bad).toT=t.toT.kill bad:=by
 cases t with
 | pl p=>
  show (if bad false p=true then Tt.any else Tt.pl p).toT=if bad false p=true then T.any else T.pl p
  by_cases h:bad false p=true <;> simp [h,Tt.toT]
 | rf p=>
  show (if bad true p=true then Tt.any else Tt.rf p).toT=if bad true p=true then T.any else T.rf p
  by_cases h:bad true p=true <;> simp [h,Tt.toT]
 | _=>rfl
theorem BX (bad:Bool->Pl->Bool) (ts:List Tt):(ts.map (·.kill bad)).map Tt.toT=(ts.map Tt.toT).map (·.kill bad):=by
 rw [adV,adV]; exact adU fun t _=>je bad t
theorem xF (bad:Bool->Pl->Bool) (x:A1):(x.kill bad).toV=x.toV.kill bad:=by
 cases x with
 | c t=>simp only [A1.kill,A1.toV,AV1.kill,je]
 | agg ts=>simp only [A1.kill,A1.toV,AV1.kill,BX]
theorem Jg (bad:Bool->Pl->Bool) (x:At):(x.kill bad).toV=x.toV.kill bad:=by
 cases x with
 | one x=>simp only [At.kill,At.toV,AV.kill,xF]
 | tup xs=>
  simp only [At.kill,At.toV,AV.kill]
  congr 1
  rw [adV,adV]; exact adU fun t _=>xF bad t
 | any=>rfl
theorem kE {bad:Bool->Pl->Bool} {t:Tt} (h:t.hit bad=false):t.kill bad=t:=by
 cases t with
 | pl p=>simp only [Tt.hit] at h; simp [Tt.kill,h]
 | rf p=>simp only [Tt.hit] at h; simp [Tt.kill,h]
 | _=>rfl
theorem qc {bad:Bool->Pl->Bool}:∀ {ts:List Tt},ts.any (·.hit bad)=false->ts.map (·.kill bad)=ts
 | [],_=>rfl
 | t::ts,h=>by
  simp only [ahC,afR] at h;rw [List.map_cons,kE h.1,qc h.2]
theorem AX {bad:Bool->Pl->Bool} {x:A1} (h:x.hit bad=false):x.kill bad=x:=by
 cases x with
 | c t=>simp only [A1.kill,kE (show t.hit bad=false from h)]
 | agg ts=>simp only [A1.kill,qc (show ts.any _=false from h)]
theorem Mu {bad:Bool->Pl->Bool} {x:At} (h:x.hit bad=false):x.kill bad=x:=by
 cases x with
 | one x=>simp only [At.kill,AX (show x.hit bad=false from h)]
 | tup xs=>
  simp only [At.hit] at h;simp only [At.kill]
  congr 1
  induction xs with
  | nil=>rfl
  | cons x xs ih=>
   simp only [ahC,afR] at h;rw [List.map_cons,AX h.1,ih h.2]
 | any=>rfl
theorem Ol (bad:Bool->Pl->Bool) (cells:List Tt) (hole:Option (Nat×Step×List Step)) :
  holed ((cells.map (·.kill bad)).map Tt.toT) hole=(holed (cells.map Tt.toT) hole).map (·.kill bad):=by
 rw [BX];cases hole with
 | none=>rfl
 | some h=>
  obtain ⟨off,st,q⟩:=h;simp only [holed];rw [adG (f:=fun t=>T.kill bad t)];cases hc:(cells.map Tt.toT)[off]? with
  | none=>rfl
  | some t=>
   simp only [Option.map_some];cases t with
   | ow sub l=>simp only [T.kill,aeP]
   | pl p=>by_cases h:bad false p=true <;> simp [T.kill,h]
   | rf p=>by_cases h:bad true p=true <;> simp [T.kill,h]
   | _=>rfl
theorem xX (bad:Bool->Pl->Bool) (r:Rt):(r.kill bad).toR={ r.toR with cells:=r.toR.cells.map (·.kill bad) }:=by
 simp only [Rt.toR,Rt.kill,Ol]
theorem jT (bad:Bool->Pl->Bool) (nx:Nat) (t:List (Nat×Nat×At)):(gr bad nx t).map (fun x=>(x.1,x.2.2.toV))=jq bad (t.map fun x=>(x.1,x.2.2.toV)):=by
 simp only [gr,jq,adV];exact adU fun x _=>by simp only [Function.comp,Jg]
theorem fF (bad:Bool->Pl->Bool) (nx:Nat) (m:List (Nm×Nat×Rt)):toM (bO bad nx m)=aL bad (toM m):=by
 simp only [toM,bO,aL,adV];exact adU fun x _=>by simp only [Function.comp,xX]
theorem FI {bad:Bool->Pl->Bool} {nx:Nat} {m:List (Nm×Nat×Rt)}:ND (bO bad nx m) ↔ ND m:=by
 simp only [ND,bO,adV]; exact Iff.rfl
theorem Ce {n k:Nm}:∀ {m:List (Nm×Nat×Rt)},k∈(eT m n).map (·.1)->k∈m.map (·.1)/\k≠n
 | [],h=>by simp [eT] at h
 | (k',j,v)::m,h=>by
  simp only [eT] at h;split at h
  ·have:=Ce h; exact ⟨adR _ this.1,this.2⟩
  ·rename_i hk;simp only [List.map_cons,adK] at h;rcases h with rfl | h
   ·exact ⟨by simp,hk⟩
   ·have:=Ce h; exact ⟨adR _ this.1,this.2⟩
theorem Mk {n:Nm}:∀ {m:List (Nm×Nat×Rt)},ND m->ND (eT m n)
 | [],_=>by simp [ND,eT]
 | (k,j,v)::m,h=>by
  have h':k ∉ m.map (·.1)/\(m.map (·.1)).Nodup:=by simpa [ND] using h
  simp only [eT];split
  ·exact Mk h'.2
  ·have:=Mk (n:=n) h'.2
   simp only [ND,List.map_cons,afC];exact ⟨fun hm=>h'.1 (Ce hm).1,this⟩
theorem Ea (n:Nm) (i:Nat) (r:Rt):∀ m:List (Nm×Nat×Rt),(iC m n i r).map (·.1)=m.map (·.1)
 | []=>rfl
 | (k,j,v)::m=>by
  simp only [iC];split
  ·rfl
  ·simp only [List.map_cons,Ea n i r m]
theorem uu {g:G} {s:St} {a:Act} {w:World} {H:FH} {γ:Gam} {F:Nm->Fp} (h:RX g s.toS a w H γ F):ND s.m:=by
 have:=h.mem.keys
 have e:s.toS.m.map (·.1)=s.m.map (·.1):=by simp only [St.toS,adV]; rfl
 rw [e] at this; exact this
theorem bI {s:St} {n:Nm} (h:ND s.m):(s.drop n).toS=s.toS.drop n:=by
 have h1:=jT (bR n) s.nx s.t
 have h2:=fF (bR n) s.nx (eT s.m n)
 rw [pJ n s.m h] at h2;exact S_ext h1 h2
where
 S_ext {t t':List (Nat×AV)} {m m':Mm} (h1:t=t') (h2:m=m'):(⟨t,m⟩:S)=⟨t',m'⟩:=by rw [h1,h2]
theorem Qm {s:St} {n:Nm} (h:ND s.m):ND (s.drop n).m:=FI.2 (Mk h)
theorem fN {s:St} {n:Nm} (h:ND s.m):(s.fresh n).toS=s.toS.fresh n:=by
 unfold St.fresh S.fresh;have e:ae s.toS.m n=(cg s.m n).map Rt.toR:=uK n s.m
 rw [e];cases hm:cg s.m n with
 | none=>rfl
 | some r=>exact bI h
def SEq (s s':S):Prop:=(∀ i,aK s.t i=aK s'.t i)/\s.m=s'.m
theorem fD {g:G} {s s':S} {a:Act} {w:World} {H:FH} {γ:Gam} {F:Nm->Fp} (e:SEq s s') (h:RX g s a w H γ F):RX g s' a w H γ F:=by
 obtain ⟨t,m⟩:=s;obtain ⟨t',m'⟩:=s';obtain ⟨e1,e2⟩:=e;dsimp only at e1 e2;subst e2;exact ⟨h.mem,h.fr,h.nt,h.df,fun i=>by rw [<- e1 i]; exact h.t i⟩
theorem Jz {g:G} {s s':S} {a:Act} {w:World} (e:SEq s s') (h:R g s a w):R g s' a w:=by
 obtain ⟨H,γ,F,h⟩:=h; exact ⟨H,γ,F,fD e h⟩
theorem cN (s:St) (d:Option Tmp) (v:At):SEq (s.toS.put d v.toV) (s.put d v).toS:=by
 cases d with
 | none=>exact ⟨fun _=>rfl,rfl⟩
 | some d=>
  refine ⟨fun i=>?_,rfl⟩;show aK (oL _ d v.toV) i=aK ((d,v.toV)::_) i
  rw [gB]; rfl
theorem Eb (f:Nat×Nat×At->Nat×At) (k:Nat):∀ t:List (Nat×Nat×At),cM (t.map fun x=>(x.1,f x)) k=(cM t k).map fun y=>f (k,y)
 | []=>rfl
 | (i,j,v)::t=>by
  simp only [List.map_cons,cM];cases hb:Nat.beq i k with
  | true=>have:=adO hb; subst this; rfl
  | false=>exact Eb f k t
theorem w6 (f:Nm×Nat×Rt->Nat×Rt) (k:Nm):∀ t:List (Nm×Nat×Rt),dN (t.map fun x=>(x.1,f x)) k=(dN t k).map fun y=>f (k,y)
 | []=>rfl
 | (i,j,v)::t=>by
  simp only [List.map_cons,dN];by_cases hb:i=k
  ·subst hb; rw [if_pos rfl,if_pos rfl]; rfl
  ·rw [if_neg hb,if_neg hb]; exact w6 f k t
structure Ext (s0 s:St):Prop where
 nx:s0.nx<=s.nx
 t:∀ k j v,cM s.t k=some (j,v)->j<s0.nx->cM s0.t k=some (j,v)
 m:∀ n j r,dN s.m n=some (j,r)->j<s0.nx->dN s0.m n=some (j,r)
theorem Ext.refl (s:St):Ext s s:=⟨adH _,fun _ _ _ h _=>h,fun _ _ _ h _=>h⟩
theorem Ext.trans {a b c:St} (h1:Ext a b) (h2:Ext b c):Ext a c:=
 ⟨ae8 h1.nx h2.nx,fun k j v h hj=>h1.t k j v (h2.t k j v h (ag1 hj h1.nx)) hj,fun k j v h hj=>h1.m k j v (h2.m k j v h (ag1 hj h1.nx)) hj⟩
abbrev NM (nx:Nat) (t t':List (Nat×Nat×At)):Prop:=∀ k j v,cM t' k=some (j,v)->j<nx->cM t k=some (j,v)
abbrev FW (nx:Nat) (m m':List (Nm×Nat×Rt)):Prop:=∀ n j r,dN m' n=some (j,r)->j<nx->dN m n=some (j,r)
theorem FW.trans {nx:Nat} {a b c:List (Nm×Nat×Rt)} (h1:FW nx a b) (h2:FW nx b c):FW nx a c:=fun n j r h hj=>h1 n j r (h2 n j r h hj) hj
theorem NM.trans {nx:Nat} {a b c:List (Nat×Nat×At)} (h1:NM nx a b) (h2:NM nx b c):NM nx a c:=fun n j r h hj=>h1 n j r (h2 n j r h hj) hj
theorem vQ {nx:Nat} {t:List (Nat×Nat×At)} (d i:Nat) (v:At) (hi:nx<=i):NM nx t ((d,i,v)::t):=by
 intro k j w h hj;simp only [cM] at h;split at h
 ·simp only [ac8,Prod.mk.injEq] at h; omega
 ·exact h
theorem jY {nx:Nat} {t:List (Nm×Nat×Rt)} (d:Nm) (i:Nat) (v:Rt) (hi:nx<=i):FW nx t ((d,i,v)::t):=by
 intro k j w h hj;simp only [dN] at h;split at h
 ·simp only [ac8,Prod.mk.injEq] at h; omega
 ·exact h
theorem JN {nx i:Nat} {t:List (Nat×Nat×At)} (chg:At->Bool) (f:At->At) (hf:∀ v,chg v=false->f v=v) (hi:nx<=i) :
  NM nx t (t.map fun x=>(x.1,stp (chg x.2.2) i x.2.1,f x.2.2)):=by
 intro k j v h hj;rw [Eb (fun x=>(stp (chg x.2.2) i x.2.1,f x.2.2))] at h;cases hl:cM t k with
 | none=>rw [hl] at h; cases h
 | some y=>
  obtain ⟨j',v'⟩:=y;rw [hl] at h;simp only [Option.map_some,ac8,Prod.mk.injEq] at h;cases hc:chg v' with
  | true=>rw [hc] at h; simp only [stp] at h; omega
  | false=>rw [hc,hf v' hc] at h; simp only [stp] at h; obtain ⟨rfl,rfl⟩:=h; rfl
theorem gz {nx i:Nat} {t:List (Nat×Nat×At)} {bad:Bool->Pl->Bool} (hi:nx<=i):NM nx t (gr bad i t):=JN (·.hit bad) (·.kill bad) (fun _ h=>Mu h) hi
theorem fQ {nx i:Nat} {t:List (Nm×Nat×Rt)} {bad:Bool->Pl->Bool} (hi:nx<=i):FW nx t (bO bad i t):=by
 intro k j v h hj;unfold bO at h;rw [w6 (fun x=>(stp (x.2.2.cells.any (·.hit bad)) i x.2.1,x.2.2.kill bad))] at h;cases hl:dN t k with
 | none=>rw [hl] at h; cases h
 | some y=>
  obtain ⟨j',r⟩:=y;rw [hl] at h;simp only [Option.map_some,ac8,Prod.mk.injEq] at h;cases hc:r.cells.any (·.hit bad) with
  | true=>rw [hc] at h; simp only [stp] at h; omega
  | false=>
   rw [hc] at h;have:r.kill bad=r:=by unfold Rt.kill; rw [qc hc]
   rw [this] at h;simp only [stp] at h;obtain ⟨rfl,rfl⟩:=h; rfl
theorem sk (n k:Nm):∀ m:List (Nm×Nat×Rt),dN (eT m n) k=if k=n then none else dN m k
 | []=>by simp [eT,dN]
 | (i,j,v)::m=>by
  simp only [eT];by_cases h:i=n
  ·subst h;rw [if_pos rfl,sk i k m];by_cases hk:k=i
   ·rw [if_pos hk,if_pos hk]
   ·rw [if_neg hk,if_neg hk]; simp only [dN]; rw [if_neg (fun e=>hk e.symm)]
  ·rw [if_neg h];simp only [dN];by_cases hk:i=k
   ·subst hk; rw [if_pos rfl,if_neg h,if_pos rfl]
   ·rw [if_neg hk,if_neg hk,sk n k m]
theorem t7 {nx:Nat} {m:List (Nm×Nat×Rt)} (n:Nm):FW nx m (eT m n):=by
 intro k j r h _;rw [sk] at h;split at h
 ·cases h
 ·exact h
theorem fJ {nx i:Nat} (n:Nm) (r:Rt) (hi:nx<=i):∀ m:List (Nm×Nat×Rt),FW nx m (iC m n i r)
 | [],_,_,_,h,_=>h
 | (a,b,c)::m,k,j,v,h,hj=>by
  simp only [iC] at h;split at h
  ·rename_i ha;simp only [dN] at h ⊢;split at h
   ·simp only [ac8,Prod.mk.injEq] at h; omega
   ·rename_i hk; rw [if_neg hk]; exact h
  ·simp only [dN] at h ⊢;split at h
   ·rename_i hk; rw [if_pos hk]; exact h
   ·rename_i hk; rw [if_neg hk]; exact fJ n r hi m k j v h hj
theorem bE (s:St) (d:Option Tmp) (v:At):Ext s (s.put d v):=by
 cases d with
 | none=>exact Ext.refl s
 | some d=>exact ⟨aeW _,vQ d s.nx v (adH _),fun _ _ _ h _=>h⟩
theorem AK (s:St) (n:Nm):Ext s (s.drop n):=⟨aeW _,gz (adH _),(t7 n).trans (fQ (adH _))⟩
theorem gl (s:St) (n:Nm):Ext s (s.fresh n):=by
 unfold St.fresh; split
 ·exact Ext.refl s
 ·exact AK s n
theorem my (s:St) (n:Nm) (r:Rt):Ext s (s.root n r):=⟨aeW _,fun _ _ _ h _=>h,jY n s.nx r (adH _)⟩
theorem NW (q:Pl) (u:U) (l:List (El u)) (t:Tt):(t.frz q u l).toT=t.toT.frz q (l.map (aE u)):=by
 cases t with
 | pl p=>exact je (thr q) (.pl p)
 | rf p=>
  obtain ⟨n,o,path⟩:=p;cases path with
  | nil=>
   show (if n=q.root/\o=q.off then Tt.d (.li u l) else (Tt.rf ⟨n,o,[]⟩).kill (thr q)).toT=if n=q.root/\o=q.off then T.d (.li (l.map (aE u))) else (T.rf ⟨n,o,[]⟩).kill (thr q)
   by_cases h:n=q.root/\o=q.off
   ·rw [if_pos h,if_pos h]; rfl
   ·rw [if_neg h,if_neg h]; exact je (thr q) (.rf ⟨n,o,[]⟩)
  | cons st r=>exact je (thr q) (.rf ⟨n,o,st::r⟩)
 | _=>rfl
theorem Bm {f:Tt->Tt} {f':T->T} (h:∀ t,(f t).toT=f' t.toT) (x:A1):(x.map f).toV=x.toV.map f':=by
 cases x with
 | c t=>simp only [A1.map,A1.toV,AV1.map,h]
 | agg ts=>
  simp only [A1.map,A1.toV,AV1.map]
  congr 1
  rw [adV,adV]; exact adU fun t _=>h t
theorem Og {f:Tt->Tt} {f':T->T} (h:∀ t,(f t).toT=f' t.toT) (x:At):(x.map f).toV=x.toV.map f':=by
 cases x with
 | one x=>simp only [At.map,At.toV,AV.map,Bm h]
 | tup xs=>
  simp only [At.map,At.toV,AV.map]
  congr 1
  rw [adV,adV]; exact adU fun t _=>Bm h t
 | any=>rfl
theorem Ev {q:Pl} {u:U} {l:List (El u)} {t:Tt} (h:t.hit (L1 q)=false):t.frz q u l=t:=by
 cases t with
 | pl p=>
  simp only [Tt.hit,L1,afB,afK] at h;exact kE (t:=.pl p) h
 | rf p=>
  simp only [Tt.hit,L1,aeE,afR] at h;obtain ⟨n,o,path⟩:=p;cases path with
  | nil=>
   simp only [Tt.frz];rw [if_neg (by simpa using h.2)];exact kE (t:=.rf ⟨n,o,[]⟩) h.1
  | cons st r=>exact kE (t:=.rf ⟨n,o,st::r⟩) h.1
 | _=>rfl
theorem Q3 {q:Pl} {u:U} {l:List (El u)} {x:At} (h:x.hit (L1 q)=false):x.map (Tt.frz q u l)=x:=by
 have one:∀ {y:A1},y.hit (L1 q)=false->y.map (Tt.frz q u l)=y:=by
  intro y hy;cases y with
  | c t=>simp only [A1.map,Ev (show t.hit _=false from hy)]
  | agg ts=>
   simp only [A1.hit] at hy;simp only [A1.map]
   congr 1
   induction ts with
   | nil=>rfl
   | cons t ts ih=>
    simp only [ahC,afR] at hy;rw [List.map_cons,Ev hy.1,ih hy.2]
 cases x with
 | one y=>simp only [At.map,one (show y.hit _=false from h)]
 | tup xs=>
  simp only [At.hit] at h;simp only [At.map]
  congr 1
  induction xs with
  | nil=>rfl
  | cons y ys ih=>
   simp only [ahC,afR] at h;rw [List.map_cons,one h.1,ih h.2]
 | any=>rfl
theorem nF (n:Nm):∀ m:List (Nm×Nat×Rt),cg m n=(dN m n).map (·.2)
 | []=>rfl
 | (k,j,r)::m=>by
  simp only [cg,dN];by_cases h:k=n
  ·rw [if_pos h,if_pos h]; rfl
  ·rw [if_neg h,if_neg h]; exact nF n m
theorem vM (s:St) (q:Pl):Ext s (uz s q):=by
 unfold uz;split
 ·split
  ·rename_i u l _ _;refine ⟨aeW _,JN (·.hit (L1 q)) (·.map (Tt.frz q u l)) (fun _ h=>Q3 h) (adH _),?_⟩;have hset:∀ (m:List (Nm×Nat×Rt)) off t,FW s.nx m (setCell m q.root s.nx off t):=by
    intro m off t;unfold setCell;split
    ·exact fJ _ _ (adH _) m
    ·exact fun _ _ _ h _=>h
   exact ((hset _ _ _).trans (fQ (adH _))).trans (hset _ _ _)
  ·exact Ext.refl s
 ·exact Ext.refl s
theorem pD {m:List (Nm×Nat×Rt)} {n:Nm} {i off:Nat} {t:Tt} {r:Rt} (hr:cg m n=some r) (hh:r.hole=none) :
  toM (setCell m n i off t)=dD (toM m) n ⟨r.blk,(r.toR.cells).set off t.toT⟩:=by
 unfold setCell;rw [hr];dsimp only;rw [gQ]
 congr 1
 simp only [Rt.toR,hh,holed,aeP]
theorem FO {m:List (Nm×Nat×Rt)} {n:Nm} {i off:Nat} {t:Tt} {r:Rt} (hr:cg m n=some r):cg (setCell m n i off t) n=some { r with cells:=r.cells.set off t }:=by
 unfold setCell;rw [hr];dsimp only;induction m with
 | nil=>cases hr
 | cons x m ih=>
  obtain ⟨k,j,v⟩:=x;simp only [iC];simp only [cg] at hr;by_cases h:k=n
  ·rw [if_pos h]; simp only [cg]; rw [if_pos h]
  ·rw [if_neg h] at hr ⊢; simp only [cg]; rw [if_neg h]; exact ih hr
theorem Ec (bad:Bool->Pl->Bool) (i:Nat) (n:Nm) (m:List (Nm×Nat×Rt)):cg (bO bad i m) n=(cg m n).map (·.kill bad):=by
 rw [nF,nF];unfold bO;rw [w6 (fun x=>(stp (x.2.2.cells.any (·.hit bad)) i x.2.1,x.2.2.kill bad))];cases dN m n <;> rfl
theorem wK {g:G} {s:St} {a:Act} {w:World} {H:FH} {γ:Gam} {F:Nm->Fp} (h:RX g s.toS a w H γ F) (q:Pl):∃ H' F',RX g (uz s q).toS a w H' γ F':=by
 unfold uz;split
 ·rename_i r hpath hr;split
  ·rename_i sh u l hh hc;obtain ⟨H',F',h'⟩:=OG h q;refine ⟨H',F',?_⟩;have ec:r.toR.cells[q.off]? = some (.ow sh (l.map (aE u))):=by
    show (holed (r.cells.map Tt.toT) r.hole)[q.off]? = _
    rw [hh];show (r.cells.map Tt.toT)[q.off]? = _
    rw [adG,hc]; rfl
   have eg:ae s.toS.m q.root=some r.toR:=bF hr
   have egp:be s.toS.m q=some (.ow sh (l.map (aE u))):=by
    unfold be;rw [eg,hpath];exact ec
   have efrz:JX s.toS q=⟨B6 (AV.map (T.frz q (l.map (aE u)))) s.toS.t,LU s.toS.m q (l.map (aE u))⟩:=by
    unfold JX;rw [egp,hpath]
   rw [efrz] at h';have key:(⟨s.nx+1,s.t.map fun x=>(x.1,stp (x.2.2.hit (L1 q)) s.nx x.2.1,x.2.2.map (Tt.frz q u l)),
     setCell (bO (thr q) s.nx (setCell s.m q.root s.nx q.off .any)) q.root s.nx q.off (.d (.li u l))⟩:St).toS=⟨B6 (AV.map (T.frz q (l.map (aE u)))) s.toS.t,LU s.toS.m q (l.map (aE u))⟩:=by
    refine bI.S_ext ?_ ?_
    ·simp only [St.toS,B6,adV];exact adU fun x _=>by simp only [Function.comp,Og (NW q u l)]
    ·have g1:=FO (i:=s.nx) (off:=q.off) (t:=.any) hr
     have g2:cg (bO (thr q) s.nx (setCell s.m q.root s.nx q.off .any)) q.root=some (({ r with cells:=r.cells.set q.off .any }:Rt).kill (thr q)):=by rw [Ec,g1]; rfl
     show toM (setCell _ q.root s.nx q.off (.d (.li u l)))=_
     rw [pD g2 hh,fF,pD hr hh];unfold LU;have p1:bi s.toS.m q .any=dD (toM s.m) q.root ⟨r.blk,r.toR.cells.set q.off Tt.any.toT⟩:=by
      unfold bi;rw [eg,hpath];rfl
     rw [p1];have g3:ae (aL (thr q) (dD (toM s.m) q.root ⟨r.blk,r.toR.cells.set q.off Tt.any.toT⟩)) q.root=some ⟨r.blk,(r.toR.cells.set q.off Tt.any.toT).map (·.kill (thr q))⟩:=by
      have:=bF g2
      rw [fF,pD hr hh] at this;rw [this,xX];simp only [Rt.toR,hh,holed,aeP,Tt.toT]
     unfold bi;rw [g3,hpath];dsimp only
     congr 1
     simp only [Rt.toR,Rt.kill,hh,holed,aeP,BX,afU,Tt.toT,C.toD]
   rw [key]; exact h'
  ·exact ⟨H,F,h⟩
 ·exact ⟨H,F,h⟩
end Go.Am
end

section
namespace Go.Am
section
variable {g:G} {a:Act} {w:World} {γ:Gam}
theorem DX {s:St} {H:FH} {F:Nm->Fp} (h:RX g s.toS a w H γ F) (t:Tt):∃ H' F',RX g (O7 s t).toS a w H' γ F':=by
 cases t with
 | rf p=>exact wK h p
 | _=>exact ⟨H,F,h⟩
theorem BA:∀ (ts:List Tt) (s:St) (H:FH) (F:Nm->Fp),RX g s.toS a w H γ F->∃ H' F',RX g (FC s ts).toS a w H' γ F'
 | [],_,H,F,h=>⟨H,F,h⟩
 | t::ts,s,H,F,h=>by
  obtain ⟨H1,F1,h1⟩:=DX h t;exact BA ts _ H1 F1 h1
theorem mO {s:St} {H:FH} {F:Nm->Fp} (h:RX g s.toS a w H γ F) (v:At):∃ H' F',RX g (lm s v).toS a w H' γ F':=by
 cases v with
 | one x=>cases x with
  | c t=>exact DX h t
  | agg ts=>exact BA ts s H F h
 | _=>exact ⟨H,F,h⟩
theorem eF:∀ (vs:List At) (s:St) (H:FH) (F:Nm->Fp),RX g s.toS a w H γ F->∃ H' F',RX g (cT s vs).toS a w H' γ F'
 | [],_,H,F,h=>⟨H,F,h⟩
 | v::vs,s,H,F,h=>by
  obtain ⟨H1,F1,h1⟩:=mO h v;exact eF vs _ H1 F1 h1
theorem Ir {s s':St} {H:FH} {F:Nm->Fp} (hX:RX g s.toS a w H γ F) (hf:∀ (g':G) (H:FH) (F:Nm->Fp),RX g' s.toS a w H γ F->∃ H' F',RX g' s'.toS a w H' γ F') :
  ∃ H' F',RX g s'.toS a w H' γ F'/\∀ b o y,H b o=some y->H' b o=some y:=by
 let g':G:=⟨g.nt,w,H,tot F s.toS.m,g.out,g.ex,g.dfs⟩
 have hX2:RX g' s.toS a w H γ F:=⟨hX.mem,Fr.refl' rfl rfl rfl rfl (fun _ h=>h),hX.nt,⟨hX.df.1,hX.df.2.1,dJ hX⟩,hX.t⟩
 obtain ⟨H',F',h⟩:=hf g' H F hX2;exact ⟨H',F',⟨h.mem,hX.fr.trans h.fr,h.nt,⟨h.df.1,h.df.2.1,hX.df.2.2⟩,h.t⟩,h.fr.hold⟩
theorem qZ:∀ (ts:List Tt) (s:St) (p:Pl) (H:FH) (F:Nm->Fp),RX g s.toS a w H γ F->∃ H' F',RX g (xN s p ts).toS a w H' γ F'
 | [],s,_,H,F,h=>⟨H,F,h⟩
 | t::ts,s,p,H,F,h=>by
  cases t with
  | rf q=>
   simp only [xN];split
   ·obtain ⟨H1,F1,h1⟩:=wK h q;exact qZ ts _ _ H1 F1 h1
   ·exact qZ ts _ _ H F h
  | _=>exact qZ ts s (p.add 1) H F h
theorem Rc {s:St} {H:FH} {F:Nm->Fp} (h:RX g s.toS a w H γ F) (x v:At):∃ H' F',RX g (IM s x v).toS a w H' γ F':=by
 unfold IM;split
 ·exact qZ _ _ _ H F h
 ·exact ⟨H,F,h⟩
theorem D8 (s:St) (t:Tt):Ext s (O7 s t):=by
 cases t with
 | rf p=>exact vM s p
 | _=>exact Ext.refl s
theorem zX:∀ (ts:List Tt) (s:St),Ext s (FC s ts)
 | [],s=>Ext.refl s
 | t::ts,s=>(D8 s t).trans (zX ts _)
theorem ml (s:St) (v:At):Ext s (lm s v):=by
 cases v with
 | one x=>cases x with
  | c t=>exact D8 s t
  | agg ts=>exact zX ts s
 | _=>exact Ext.refl s
theorem q9:∀ (ts:List Tt) (s:St) (p:Pl),Ext s (xN s p ts)
 | [],s,_=>Ext.refl s
 | t::ts,s,p=>by
  cases t with
  | rf q=>
   simp only [xN];split
   ·exact (vM s q).trans (q9 ts _ _)
   ·exact q9 ts _ _
  | _=>exact q9 ts s (p.add 1)
theorem RJ (s:St) (x v:At):Ext s (IM s x v):=by
 unfold IM;split
 ·exact q9 _ _ _
 ·exact Ext.refl s
theorem dj:∀ (vs:List At) (s:St),Ext s (cT s vs)
 | [],s=>Ext.refl s
 | v::vs,s=>(ml s v).trans (dj vs _)
theorem zM {s:St} {H:FH} {F:Nm->Fp} (h:RX g s.toS a w H γ F) (o:Oper):∃ H' F',RX g (IS s o).toS a w H' γ F':=by
 unfold IS;split
 ·exact mO h _
 ·exact mO h _
 ·exact ⟨H,F,h⟩
theorem K0 (s:St) (o:Oper):Ext s (IS s o):=by
 unfold IS;split
 ·exact ml s _
 ·exact ml s _
 ·exact Ext.refl s
theorem EU {s:S} {t:Tt} (h:t.noRf=true):WQ s t.toT=s:=by
 cases t with
 | rf p=>cases h
 | _=>rfl
theorem CI {s:S}:∀ {ts:List Tt},ts.all Tt.noRf=true->EP s (ts.map Tt.toT)=s
 | [],_=>rfl
 | t::ts,h=>by
  simp only [adQ,ac9] at h;simp only [List.map_cons,EP];rw [EU h.1,CI h.2]
theorem wv {s:S} {v:At} (h:v.noRf=true):Lv s v.toV=s:=by
 cases v with
 | one x=>cases x with
  | c t=>exact EU h
  | agg ts=>exact CI h
 | _=>rfl
theorem ip {s:S}:∀ {vs:List At},vs.all At.noRf=true->jt s (vs.map At.toV)=s
 | [],_=>rfl
 | v::vs,h=>by
  simp only [adQ,ac9] at h;simp only [List.map_cons,jt];rw [wv h.1,ip h.2]
theorem M5 {s:St} {H:FH} {F:Nm->Fp} (hX:RX g s.toS a w H γ F) {x:Operand} (hc:bh x=true) :
  (∀ p,evA s x=.one (.c (.rf p))->okP (toM s.m) p)/\(∀ p,evA s x=.one (.c (.pl p))->okP (toM s.m) p):=by
 have h:=br hX hc
 rw [aF hc] at h;refine ⟨fun p e=>?_,fun p e=>?_⟩
 ·rw [e] at h;obtain ⟨_,h1,_⟩:=h;exact Fi h1
 ·rw [e] at h;obtain ⟨_,h1,_⟩:=h;exact UO h1
theorem xb {gd:Option (Nat×Bool)} {n:Nat} {q q':Prop} (hq:q->q') (h:gift gd n q):gift gd n q':=by
 cases gd with
 | none=>exact fun hh=>hq (h hh)
 | some _=>exact hq h
theorem Ef {gd:Option (Nat×Bool)} {m:List (Nm×Nat×Rt)} {x:At} {k k':Nat->Prop} (hk:∀ n,k n->k' n) (h:Rn gd m x k):Rn gd m x k':=by
 unfold Rn at h ⊢;split at h
 ·exact xb (hk _) h
 ·exact xb (hk _) h
 ·exact hk _ h
 ·split at h
  ·exact xb (hk _) h
  ·exact h.elim
 ·exact h.elim
theorem S8 (x:At):qq x.toV=WE x:=by
 cases x with
 | one x=>cases x with
  | c t=>cases t with
   | d c=>cases c <;> rfl
   | _=>rfl
  | agg ts=>rfl
 | _=>rfl
theorem Vb {e:En} {o:Oper} {s:St} {k:At->Prop} {H:FH} {F:Nm->Fp} (hX:RX g s.toS a w H γ F) (hc:opC g.nt o=true) (h:qT e o s k):qK e.P o s.toS (up k):=by
 unfold opC at hc;rw [ac9] at hc;obtain ⟨_,hc⟩:=hc;unfold qT at h;unfold qK;cases ho:o.op with
 | move x=>rw [ho] at h hc; exact ⟨_,aF hc,h⟩
 | assign x=>rw [ho] at h hc; exact ⟨_,aF hc,h⟩
 | pick c x y=>
  rw [ho] at h hc;simp only [ac9] at hc;dsimp only;rw [aF hc.1.1,aF hc.1.2,aF hc.2];exact VT h
 | binOp op t x y z=>
  rw [ho] at h hc;simp only [ac9] at hc;dsimp only;rw [aF hc.1,aF hc.2];exact W9 h
 | unOp op t x=>rw [ho] at h hc; dsimp only at hc ⊢; rw [aF hc]; exact aaT h
 | load t x=>rw [ho] at h hc; dsimp only at hc ⊢; rw [aF hc]; exact JT (M5 hX hc).2 h
 | field t x i=>rw [ho] at h hc; dsimp only at hc ⊢; rw [aF hc]; exact RP h
 | fieldAddr t x i=>rw [ho] at h hc; dsimp only at hc ⊢; rw [aF hc]; exact Dw h
 | indexAddr t x i=>
  rw [ho] at h hc;simp only [ac9] at hc;dsimp only;rw [aF hc.1,aF hc.2];exact C7 (M5 hX hc.1).1 h
 | index t x i=>
  rw [ho] at h hc;simp only [ac9] at hc;dsimp only at h ⊢;split at h
  ·rename_i ht;rw [aF hc.1,aF hc.2];exact ⟨ht,RG h⟩
  ·exact h.elim
 | extract x i=>rw [ho] at h hc; dsimp only at hc ⊢; rw [aF hc]; exact IJ h
 | convert su du x=>rw [ho] at h hc; dsimp only at hc ⊢; rw [aF hc]; exact Vw h
 | slice t x lo hi mx=>
  rw [ho] at h hc;cases mx with
  | some _=>exact h.elim
  | none=>
   dsimp only at h hc ⊢;simp only [ac9] at hc;have opt:∀ (y:Option Operand),y.all bh=true->y.map (ev s.toS)=(y.map (evA s)).map At.toV:=by
    intro y hy;cases y with
    | none=>rfl
    | some y=>simp only [Option.map_some]; rw [aF (by simpa using hy)]
   rw [aF hc.1.1,opt lo hc.1.2,opt hi hc.2];exact RY h
 | nilCheck x=>rw [ho] at h hc; dsimp only at hc ⊢; rw [aF hc]; exact Gq h
 | build t ps=>rw [ho] at h hc; dsimp only at hc ⊢; rw [wW hc]; exact QO h
 | call c=>
  rw [ho] at h hc;obtain ⟨callee,args,argTypes⟩:=c;obtain ⟨args⟩:=args;obtain ⟨argTypes⟩:=argTypes;dsimp only at h hc ⊢;cases callee with
  | builtin b=>
   cases b with
   | len=>
    match args,argTypes,h with
    | [x],[t],h=>
     have h1:bh x=true:=by simpa using hc
     dsimp only at h ⊢;split at h
     ·rename_i hl;rw [aF h1,S8];refine ⟨hl,?_⟩;exact W8 (M5 hX h1).1 (Ef (fun n hn=>⟨_,rfl,hn⟩) h)
     ·exact h.elim
   | _=>exact h.elim
  | _=>exact h.elim
 | _=>rw [ho] at h; exact h.elim
end
end Go.Am
end

section
namespace Go.Am
theorem qH {u:U} {x x':El u} {off:Nat} {c:C} (h:KD u x off c=some x'):(∃ d,(aE u x)[off]? = some d)/\aE u x'=(aE u x).set off c.toD:=by
 unfold KD at h;split at h
 ·rename_i c0 hc;have e:=Ei h
  refine ⟨⟨c0.toD,by rw [<- bS,adG,hc]; rfl⟩,?_⟩;rw [<- bS,<- e,<- bS,aeP]
 ·cases h
theorem Kf:∀ {path:List Step} {sub:List Sh} {u:U} {l l':List (El u)} {t:Tt} {k:Prop} {K:List (List D)->Prop},tn sub u l path k->Ls sub u l t path=some l'->K (l'.map (aE u))->g7 sub (l.map (aE u)) t.toT path K
 | [],_,_,_,_,_,_,_,h,_,_=>h.elim
 | [st],sub,u,l,l',t,k,K,h,ht,hK=>by
  obtain ⟨h1,_⟩:=h;simp only [Ls] at ht;simp only [g7];rw [jC l h1];dsimp only;split at ht
  ·rename_i c hs;split at ht
   ·rename_i x hx;simp only [ac8] at ht;subst ht;obtain ⟨⟨d,hd⟩,e⟩:=qH hx;rw [hs,hd];dsimp only;refine ⟨trivial,?_⟩;rw [aeP,e] at hK;exact hK
   ·cases ht
  ·rename_i hs;split at ht
   ·rename_i u' l0 hf;split at ht
    ·rename_i x hx;simp only [ac8] at ht;subst ht;obtain ⟨⟨d,hd⟩,e⟩:=qH hx;rw [hs,hd];dsimp only;refine ⟨trivial,?_⟩;rw [aeP,e] at hK;exact hK
    ·cases ht
   ·cases ht
  ·cases ht
 | st::st'::r,sub,u,l,l',t,k,K,h,ht,hK=>by
  simp only [Ls] at ht;simp only [g7];simp only [tn] at h;split at ht
  ·rename_i s u' l0 e1 e2;rw [e1,e2] at h;obtain ⟨h1,h4⟩:=h;rw [jC l h1];dsimp only;split at ht
   ·rename_i l2 hl2;split at ht
    ·rename_i x hx;simp only [ac8] at ht;subst ht;obtain ⟨_,e⟩:=qH hx;have e3:(aE u (l.getD st.idx (dflt u)))[st.off]? = some (.li (l0.map (aE u'))):=by
      rw [<- bS,adG,e2]; rfl
     rw [e1,e3];dsimp only;refine Kf h4 hl2 ?_;rw [aeP,e] at hK;exact hK
    ·cases ht
   ·cases ht
  ·cases ht
mutual
theorem U5:∀ {a b:Sh},Ja a b=true->a=b
 | .fr,.fr,_=>rfl
 | .ow a,.ow b,h=>by simp only [Ja] at h; rw [qM h]
 | .fr,.ow _,h=>by simp [Ja] at h
 | .ow _,.fr,h=>by simp [Ja] at h
theorem qM:∀ {a b:List Sh},pq a b=true->a=b
 | [],[],_=>rfl
 | a::r,b::q,h=>by
  simp only [pq,ac9] at h;rw [U5 h.1,qM h.2]
 | [],_::_,h=>by simp [pq] at h
 | _::_,[],h=>by simp [pq] at h
end
theorem Lb:∀ {path:List Step} {sub:List Sh} {u:U} {l l':List (El u)} {sh:List Sh} {v:U} {lv:List (El v)} {k:Prop} {K:List (List D)->Prop},tn sub u l path k->Jv sub u l sh v lv path=some l'->K (l'.map (aE u)) ->
  g7 sub (bW sub (l.map (aE u)) .any path) (.ow sh (lv.map (aE v))) path K
 | [],_,_,_,_,_,_,_,_,_,h,_,_=>h.elim
 | [st],sub,u,l,l',sh,v,lv,k,K,h,ht,hK=>by
  obtain ⟨h1,_⟩:=h;have h1':st.idx < (l.map (aE u)).length:=by rw [adE]; exact h1
  simp only [Jv] at ht;split at ht
  ·rename_i s c hs hc;split at ht
   ·rename_i x hsh hx;simp only [ac8] at ht;subst ht;obtain ⟨⟨d,hd⟩,e⟩:=qH hx;have hlt:st.off < (aE u (l.getD st.idx (dflt u))).length:=aj hd
    have hset:bW sub (l.map (aE u)) .any [st]=(l.map (aE u)).set st.idx ((aE u (l.getD st.idx (dflt u))).set st.off .any):=by
     simp only [bW]; rw [i5 l h1]
    rw [hset];simp only [g7];rw [ad1 h1'];dsimp only;rw [hs,ad1 hlt];dsimp only;refine ⟨qM hsh,?_⟩;rw [afU,afU];rw [aeP,e] at hK;exact hK
   ·cases ht
  ·cases ht
 | st::st'::r,sub,u,l,l',sh,v,lv,k,K,h,ht,hK=>by
  simp only [Jv] at ht;simp only [tn] at h;split at ht
  ·rename_i s u' l0 e1 e2;rw [e1,e2] at h;obtain ⟨h1,h4⟩:=h;have h1':st.idx < (l.map (aE u)).length:=by rw [adE]; exact h1
   split at ht
   ·rename_i l2 hl2;split at ht
    ·rename_i x hx;simp only [ac8] at ht;subst ht;obtain ⟨_,e⟩:=qH hx;have e3:(aE u (l.getD st.idx (dflt u)))[st.off]? = some (.li (l0.map (aE u'))):=by
      rw [<- bS,adG,e2]; rfl
     have hlt:st.off < (aE u (l.getD st.idx (dflt u))).length:=aj e3
     have e4:(aE u (l.getD st.idx (dflt u))).getD st.off default=.li (l0.map (aE u')):=by rw [List.getD,e3]; rfl
     have hset:bW sub (l.map (aE u)) .any (st::st'::r)=(l.map (aE u)).set st.idx ((aE u (l.getD st.idx (dflt u))).set st.off (.li (bW s (l0.map (aE u')) .any (st'::r)))):=by
      simp only [bW]; rw [i5 l h1,e1,e4]
     rw [hset];simp only [g7];rw [ad1 h1'];dsimp only;rw [e1,ad1 hlt];dsimp only;refine Lb h4 hl2 ?_;rw [afU,afU];rw [aeP,e] at hK;exact hK
    ·cases ht
   ·cases ht
  ·cases ht
theorem GN:∀ {path:List Step} {sub:List Sh} {u:U} {l:List (El u)} {k:Prop},tn sub u l path k->k
 | [],_,_,_,_,h=>h.elim
 | [st],_,_,_,_,h=>h.2
 | st::st'::r,sub,u,l,k,h=>by
  simp only [tn] at h;split at h
  ·exact GN h.2
  ·exact h.elim
theorem qP:∀ {path:List Step} {sub:List Sh} {u:U} {l:List (El u)} {k k':Prop},(k->k')->tn sub u l path k->tn sub u l path k'
 | [],_,_,_,_,_,_,h=>h.elim
 | [st],_,_,_,_,_,hk,h=>⟨h.1,hk h.2⟩
 | st::st'::r,sub,u,l,k,k',hk,h=>by
  simp only [tn] at h ⊢;split at h
  ·exact ⟨h.1,qP hk h.2⟩
  ·exact h.elim
theorem ES:∀ {a b:List Step} {k:Prop},sA a b k->a=b/\k
 | [],[],_,h=>⟨rfl,h⟩
 | x::r,y::q,k,h=>by
  simp only [sA] at h;split at h
  ·rename_i hb;rw [ac9] at hb;obtain ⟨e,hk⟩:=ES h.2;obtain ⟨a1,a2,a3⟩:=x; obtain ⟨b1,b2,b3⟩:=y;have h1:a1=b1:=h.1
   have h2:a2=b2:=adO hb.1
   have h3:a3=b3:=adO hb.2
   subst h1; subst h2; subst h3; subst e;exact ⟨rfl,hk⟩
  ·exact h.elim
 | [],_::_,_,h=>h.elim
 | _::_,[],_,h=>h.elim
theorem xK:∀ {a b:List Step} {k k':Prop},(k->k')->sA a b k->sA a b k'
 | [],[],_,_,hk,h=>hk h
 | x::r,y::q,k,k',hk,h=>by
  simp only [sA] at h ⊢;split at h
  ·exact ⟨h.1,xK hk h.2⟩
  ·exact h.elim
 | [],_::_,_,_,_,h=>h.elim
 | _::_,[],_,_,_,h=>h.elim
theorem IT:∀ {path:List Step} {sub:List Sh} {u:U} {l:List (El u)} {sh:List Sh} {v:U} {lv:List (El v)},okO sub (l.map (aE u)) path->inT sub u l 1 path=some [.ow sh v lv]->bj sub (l.map (aE u)) path=some (.ow sh,.li (lv.map (aE v)))
 | [],_,_,_,_,_,_,h,_=>h.elim
 | [st],sub,u,l,sh,v,lv,h,ht=>by
  obtain ⟨h1,h2,h3⟩:=h;rw [adE] at h1;simp only [inT] at ht;split at ht
  ·simp only [ac8] at ht;have e1:sub[st.off]? = some sub[st.off]:=adA h3
   cases hc:(flat u (l.getD st.idx (dflt u)))[st.off]? with
   | none=>
    have:((flat u (l.getD st.idx (dflt u))).drop st.off).take 1=[]:=by
     rw [List.drop_eq_nil_of_le (List.getElem?_eq_none_iff.1 hc)]; rfl
    rw [this] at ht;simp at ht
   | some c=>
    have hlt:=aj hc
    have ec:(flat u (l.getD st.idx (dflt u)))[st.off]=c:=by
     rw [adA hlt] at hc; exact Option.some.inj hc
    have d1:(sub.drop st.off).take 1=[sub[st.off]]:=by rw [aeB h3]; rfl
    have d2:((flat u (l.getD st.idx (dflt u))).drop st.off).take 1=[c]:=by rw [aeB hlt,ec]; rfl
    rw [d1,d2] at ht;simp only [agR,List.zipWith_nil_left,List.cons.injEq,and_true] at ht;simp only [bj,e1,Option.map_some,i5 l h1];have e3:(aE u (l.getD st.idx (dflt u))).getD st.off default=c.toD:=by
     rw [List.getD,<- bS,adG,hc]; rfl
    rw [e3];generalize sub[st.off]=s0 at ht;cases s0 with
    | fr=>cases ht
    | ow s1=>
     cases c with
     | li u1 l1=>
      simp only [Tt.ow.injEq] at ht;obtain ⟨rfl,rfl,e⟩:=ht;rw [eq_of_heq e]; rfl
     | _=>cases ht
  ·cases ht
 | st::st'::r,sub,u,l,sh,v,lv,h,ht=>by
  obtain ⟨⟨h1,h2,h3⟩,h4⟩:=h;rw [adE] at h1;simp only [inT] at ht;split at ht
  ·rename_i s u' l0 e1 e2;have e3:(aE u (l.getD st.idx (dflt u))).getD st.off default=.li (l0.map (aE u')):=by
    rw [List.getD,<- bS,adG,e2]; rfl
   rw [e1,i5 l h1,e3] at h4;simp only [bj];rw [e1,i5 l h1,e3];exact IT h4 ht
  ·cases ht
theorem LB {cells:List Tt} {off:Nat} {sub:List Sh} {u:U} {l:List (El u)} (st:Step) (q:List Step) (h:cells[off]? = some (.ow sub u l)) :
  holed (cells.map Tt.toT) (some (off,st,q))=(cells.map Tt.toT).set off (.ow sub (bW sub (l.map (aE u)) .any (st::q))):=by
 unfold holed;dsimp only;rw [adG,h];rfl
def AF (row:List D) (off:Nat):List D->List D
 | []=>row
 | d::r=>AF (row.set off d) (off+1) r
def gG (sub:List Sh) (l:List (List D)):List T->List Step->(List (List D)->Prop)->Prop
 | [],_,K=>K l
 | t::ts,path,K=>g7 sub l t path fun l1=>gG sub l1 ts (aO path 1) K
theorem la:∀ {path:List Step} {sub:List Sh} {l:List (List D)} {t:T} {K K':List (List D)->Prop},(∀ x,K x->K' x)->g7 sub l t path K->g7 sub l t path K'
 | [],_,_,_,_,_,_,h=>h.elim
 | [st],sub,l,t,K,K',hk,h=>by
  simp only [g7] at h ⊢;split at h
  ·split at h
   ·exact ⟨h.1,hk _ h.2⟩
   ·exact ⟨h.1,hk _ h.2⟩
   ·exact h.elim
  ·exact h.elim
 | st::st'::r,sub,l,t,K,K',hk,h=>by
  simp only [g7] at h ⊢;split at h
  ·split at h
   ·exact la (fun x hx=>hk _ hx) h
   ·exact h.elim
  ·exact h.elim
theorem ql:∀ {ts:List T} {path:List Step} {sub:List Sh} {l:List (List D)} {K K':List (List D)->Prop},(∀ x,K x->K' x)->gG sub l ts path K->gG sub l ts path K'
 | [],_,_,_,_,_,hk,h=>hk _ h
 | t::ts,path,sub,l,K,K',hk,h=>la (fun x hx=>ql hk hx) h
def KQ:T->Bool
 | .d _=>true
 | .nil=>true
 | _=>false
theorem Ap {sub:List Sh} {idx esz:Nat}:∀ {ts:List T} {l:List (List D)} {off:Nat} {row:List D} {K:List (List D)->Prop},l[idx]? = some row->ts.all KQ=true->frs sub off ts.length=true->off+ts.length<=row.length ->
  K (l.set idx (AF row off (ts.map T.toD)))->gG sub l ts [⟨idx,esz,off⟩] K
 | [],l,off,row,K,hl,_,_,_,hK=>by
  have:l.set idx row=l:=by
   apply afM
   intro n;rw [ae1];split
   ·rename_i e;subst e;have hlt:=aj hl
    rw [if_pos hlt]; exact hl.symm
   ·rfl
  simp only [List.map_nil,AF,this] at hK;exact hK
 | t::ts,l,off,row,K,hl,hd,hf,hlen,hK=>by
  simp only [adQ,ac9] at hd;simp only [adF] at hlen hf;simp only [frs] at hf;cases hs:sub[off]? with
  | none=>rw [hs] at hf; cases hf
  | some s=>
   rw [hs] at hf;cases s with
   | ow _=>cases hf
   | fr=>
    dsimp only at hf;have hoff:off<row.length:=by omega
    simp only [gG,g7];rw [hl];dsimp only;rw [hs,adA hoff];dsimp only;refine ⟨by have h0:=hd.1; cases t <;> first | trivial | (simp [KQ] at h0),?_⟩;have hlt:=aj hl
    show gG sub _ ts [⟨idx,esz,off+1⟩] K
    refine Ap (row:=row.set off t.toD) (ad1 hlt) hd.2 hf (by rw [aeK]; omega) ?_;rw [afU];exact hK
theorem Ib (st st':Step) (r:List Step) (n:Nat):aO (st::st'::r) n=st::aO (st'::r) n:=rfl
theorem xR {sub s:List Sh} {st st':Step}:∀ {ts:List T} {r:List Step} {l l':List (List D)} {row:List D} {K:List (List D)->Prop},l[st.idx]? = some row->sub[st.off]? = some (.ow s)->row[st.off]? = some (.li l') ->
  gG s l' ts (st'::r) (fun l''=>K (l.set st.idx (row.set st.off (.li l''))))->gG sub l ts (st::st'::r) K
 | [],r,l,l',row,K,hl,hs,hc,h=>by
  have e1:row.set st.off (.li l')=row:=by
   apply afM
   intro n;rw [ae1];split
   ·rename_i e; subst e; rw [if_pos (aj hc)]; exact hc.symm
   ·rfl
  have e2:l.set st.idx row=l:=by
   apply afM
   intro n;rw [ae1];split
   ·rename_i e; subst e; rw [if_pos (aj hl)]; exact hl.symm
   ·rfl
  simp only [gG,e1,e2] at h;exact h
 | t::ts,r,l,l',row,K,hl,hs,hc,h=>by
  simp only [gG,g7] at h ⊢;rw [hl];dsimp only;rw [hs,hc];dsimp only;refine la (fun l1 h1=>?_) h;rw [Ib];have hlt:=aj hl
  have hlt2:=aj hc
  obtain ⟨st2,r2,e⟩:∃ st2 r2,aO (st'::r) 1=st2::r2:=by
   cases r with
   | nil=>exact ⟨_,_,rfl⟩
   | cons a b=>exact ⟨_,_,rfl⟩
  rw [e] at h1 ⊢;refine xR (row:=row.set st.off (.li l1)) (l':=l1) (ad1 hlt) hs (ad1 hlt2) ?_;refine ql (fun l2 h2=>?_) h1;rw [afU,afU];exact h2
theorem CE:∀ {ts:List Tt} {cs cs':List C} {off:Nat},kq cs off ts=some cs'->cs'.map C.toD=AF (cs.map C.toD) off ((ts.map Tt.toT).map T.toD)/\(ts.map Tt.toT).all KQ=true/\(ts≠[]->off+ts.length<=cs.length)/\cs'.length=cs.length
 | [],cs,cs',off,h=>by
  simp only [kq,ac8] at h;subst h; exact ⟨rfl,rfl,fun h=>(h rfl).elim,rfl⟩
 | t::r,cs,cs',off,h=>by
  have step:∀ {c:C},(∃ c0,cs[off]? = some c0)->kq (cs.set off c) (off+1) r=some cs'->t.toT.toD=c.toD->KQ t.toT=true ->
    cs'.map C.toD=AF (cs.map C.toD) off (((t::r).map Tt.toT).map T.toD)/\((t::r).map Tt.toT).all KQ=true/\((t::r)≠[]->off+(t::r).length<=cs.length)/\cs'.length=cs.length:=by
   rintro c ⟨c0,hc0⟩ h2 h3 h4
   obtain ⟨k1,k2,k3,k4⟩:=CE h2;have hlt:=aj hc0
   refine ⟨?_,by simp only [List.map_cons,adQ,h4,k2,agM],fun _=>?_,by rw [k4,aeK]⟩
   ·rw [k1];simp only [List.map_cons,AF,h3,aeP]
   ·simp only [adF];by_cases hr:r=[]
    ·subst hr; simp only [adL]; omega
    ·have:=k3 hr; rw [aeK] at this; omega
  cases t with
  | d c=>
   simp only [kq] at h;split at h
   ·cases h
   ·rename_i hc; exact step ⟨_,hc⟩ h rfl rfl
   ·cases h
  | nil=>
   simp only [kq] at h;split at h
   ·rename_i u' l0 hc; exact step ⟨_,hc⟩ h rfl rfl
   ·cases h
  | _=>simp [kq] at h
theorem Ly:∀ {path:List Step} {sub:List Sh} {u:U} {l l':List (El u)} {ts:List Tt} {k:Prop} {K:List (List D)->Prop},ts≠[]->tn sub u l path k->uT sub u l ts path=some l'->K (l'.map (aE u))->gG sub (l.map (aE u)) (ts.map Tt.toT) path K
 | [],_,_,_,_,_,_,_,_,h,_,_=>h.elim
 | [st],sub,u,l,l',ts,k,K,hne,h,ht,hK=>by
  obtain ⟨h1,_⟩:=h;simp only [uT] at ht;split at ht
  ·rename_i cs hf ho;split at ht
   ·rename_i x hx;simp only [ac8] at ht;subst ht;obtain ⟨k1,k2,k3,k4⟩:=CE ho;have e:=Ei hx
    obtain ⟨idx,esz,off⟩:=st;refine Ap (jC l h1) k2 (by rw [adE]; exact hf) ?_ ?_
    ·rw [adE,<- bS,adE]; exact k3 hne
    ·rw [aeP] at hK;have e2:aE u x=AF (aE u (l.getD idx (dflt u))) off ((ts.map Tt.toT).map T.toD):=by
      rw [<- bS,<- e,k1,bS]
     rw [e2] at hK;exact hK
   ·cases ht
  ·cases ht
 | st::st'::r,sub,u,l,l',ts,k,K,hne,h,ht,hK=>by
  simp only [uT] at ht;simp only [tn] at h;split at ht
  ·rename_i s u' l0 e1 e2;rw [e1,e2] at h;obtain ⟨h1,h4⟩:=h;split at ht
   ·rename_i l2 hl2;split at ht
    ·rename_i x hx;simp only [ac8] at ht;subst ht;obtain ⟨_,e⟩:=qH hx;have e3:(aE u (l.getD st.idx (dflt u)))[st.off]? = some (.li (l0.map (aE u'))):=by
      rw [<- bS,adG,e2]; rfl
     refine xR (jC l h1) e1 e3 (Ly hne h4 hl2 ?_);rw [aeP,e] at hK;exact hK
    ·cases ht
   ·cases ht
  ·cases ht
theorem Ff:∀ {m:Mm} {n:Nm} {r r':Root},dD (dD m n r) n r'=dD m n r'
 | [],_,_,_=>rfl
 | (k,x)::m,n,r,r'=>by
  simp only [dD];by_cases h:k=n
  ·rw [if_pos h,if_pos h]; simp only [dD,if_pos h]
  ·rw [if_neg h,if_neg h]; simp only [dD,if_neg h,Ff]
theorem EB:∀ {m:Mm} {n:Nm} {r:Root},ae m n=some r->dD m n r=m
 | [],_,_,h=>by simp [ae] at h
 | (k,x)::m,n,r,h=>by
  simp only [ae] at h;simp only [dD];by_cases hk:k=n
  ·rw [if_pos hk] at h ⊢;rw [Option.some.inj h]
  ·rw [if_neg hk] at h ⊢;rw [EB h]
theorem xH {K:S->Prop}:∀ {ts:List T} {s:S} {p:Pl} {r:Root} {sub:List Sh} {l:List (List D)} {st:Step} {q:List Step},ae s.m p.root=some r->p.path=st::q->r.cells[p.off]? = some (.ow sub l)->ts.all KQ=true->(∀ t∈ts,t≠.d .any) ->
  gG sub l ts (st::q) (fun l'=>K ⟨s.t,dD s.m p.root { r with cells:=r.cells.set p.off (.ow sub l') }⟩)->dF s p ts K
 | [],s,p,r,sub,l,st,q,hr,hp,hc,_,_,h=>by
  have e1:r.cells.set p.off (.ow sub l)=r.cells:=by
   apply afM
   intro n;rw [ae1];split
   ·rename_i e; subst e; rw [if_pos (aj hc)]; exact hc.symm
   ·rfl
  simp only [gG,e1] at h;have:dD s.m p.root r=s.m:=EB hr
  rw [show ({ blk:=r.blk,cells:=r.cells }:Root)=r from rfl,this] at h;exact h
 | t::ts,s,p,r,sub,l,st,q,hr,hp,hc,hd,hn,h=>by
  simp only [adQ,ac9] at hd;have key:dF s p (t::ts) K=rX s.m p t fun m'=>dF ⟨s.t,m'⟩ (p.add 1) ts K:=by
   cases t with
   | d c=>cases c with
    | any=>exact ((hn _ (by simp)) rfl).elim
    | _=>rfl
   | nil=>rfl
   | _=>have:=hd.1; simp [KQ] at this
  rw [key];unfold rX;rw [hr];dsimp only;rw [hp,hc];dsimp only;simp only [gG] at h;refine la (fun l1 h1=>?_) h;have hlt:=aj hc
  have ep:(p.add 1).root=p.root/\(p.add 1).off=p.off/\(p.add 1).path=aO (st::q) 1:=by
   obtain ⟨pr,po,pp⟩:=p;dsimp only at hp;subst hp;exact ⟨rfl,rfl,rfl⟩
  obtain ⟨st2,q2,e⟩:∃ st2 r2,aO (st::q) 1=st2::r2:=by
   cases q with
   | nil=>exact ⟨_,_,rfl⟩
   | cons a b=>exact ⟨_,_,rfl⟩
  rw [e] at h1;refine xH (s:=⟨s.t,dD s.m p.root { r with cells:=r.cells.set p.off (.ow sub l1) }⟩) (p:=p.add 1) (r:={ r with cells:=r.cells.set p.off (.ow sub l1) }) (sub:=sub) (l:=l1) (st:=st2) (q:=q2) ?_ (ep.2.2.trans e) ?_ hd.2 (fun t ht=>hn t (by simp [ht])) ?_
  ·rw [ep.1];show ae (dD s.m p.root _) p.root=_
   rw [jS hr,if_pos rfl]
  ·rw [ep.2.1];exact ad1 hlt
  ·refine ql (fun l2 h2=>?_) h1;rw [ep.1,ep.2.1];dsimp only;rw [Ff,afU];exact h2
theorem wP:∀ {ts:List Tt} {cs cs':List C} {off:Nat},kq cs off ts=some cs'->∀ t∈ts.map Tt.toT,t≠.d .any
 | [],_,_,_,_,t,ht=>by simp at ht
 | t::r,cs,cs',off,h,x,hx=>by
  cases t with
  | d c=>
   have hne:c≠.any:=by rintro rfl; simp [kq] at h
   have h':∃ cs0 o,kq cs0 o r=some cs':=by
    simp only [kq] at h;split at h
    ·cases h
    ·exact ⟨_,_,h⟩
    ·cases h
   obtain ⟨cs0,o,h'⟩:=h';rcases adK.1 hx with rfl | hx
   ·intro e;simp only [Tt.toT,T.d.injEq] at e;cases c <;> first | exact hne rfl | (simp [C.toD] at e)
   ·exact wP h' x hx
  | nil=>
   simp only [kq] at h;split at h
   ·rcases adK.1 hx with rfl | hx
    ·intro e; cases e
    ·exact wP h x hx
   ·cases h
  | _=>simp [kq] at h
theorem EC:∀ {path:List Step} {sub:List Sh} {u:U} {l l':List (El u)} {ts:List Tt},uT sub u l ts path=some l'->(∀ t∈ts.map Tt.toT,t≠.d .any)/\(ts.map Tt.toT).all KQ=true
 | [],_,_,_,_,_,h=>by simp [uT] at h
 | [st],_,_,_,_,_,h=>by
  simp only [uT] at h;split at h
  ·rename_i ho; exact ⟨wP ho,(CE ho).2.1⟩
  ·cases h
 | st::st'::r,_,_,_,_,_,h=>by
  simp only [uT] at h;split at h
  ·split at h
   ·rename_i hl; exact EC hl
   ·cases h
  ·cases h
end Go.Am
end

section
namespace Go.Am
def vh (P:Program) (s:S) (t u:TypeId) (x y:Operand) (d:Tmp) (k:S->Prop):Prop:=
 match (ty P t).k with
 | .sl e=>(ty P e).ok=true/\(ty P u).k.isSS=true/\((zcells P e).map (·.length))=some (ty P e).size /\
  match jc s (ty P e).size (ev s y) with
  | some (s1,sub1,ys)=>match jc s1 (ty P e).size (ev s1 x) with
   | some (s2,sub,l)=>sub1=sub/\FSx sub1.length ys/\l.length+ys.length<=4611686018427387904/\(l.length+ys.length)*(ty P e).bytes<=140737488355328 /\
    k (((s2.fresh (.gh d)).root (.gh d) ⟨false,[.ow sub (l++ys)]⟩).put (some d) (.one (.c (.rf ⟨.gh d,0,[]⟩))))
   | none=>False
  | none=>False
 | _=>False
section
variable {P:Program} {g:G} {s:S} {a:Act} {w:World} {H:FH} {γ:Gam} {F:Nm->Fp}
theorem Zv {k:Nat} {sh:Sh} {x:D} {f:Fp} {y:Value} (hs:x.sure=true) (h:OD w H k sh x f y):oH y=true:=by
 cases sh with
 | fr=>exact Qo hs (oy.1 h).2
 | ow sub=>
  cases k with
  | zero=>cases x <;> first | (simp [OD] at h; done) | (simp [D.sure] at hs)
  | succ k=>
   cases x with
   | li l=>
    obtain ⟨a,c,_,_,rfl,_⟩:=mE h;rfl
   | any=>simp [D.sure] at hs
   | _=>simp [OD] at h
theorem Tr {k:Nat}:∀ {ss:List Sh} {xs:List D} {f:Fp} {vs:List Value},vs.length=xs.length->(∀ x∈xs,x.sure=true)->Cs (OD w H k) ss xs f vs->∀ u∈vs,oH u=true
 | [],[],_,vs,hl,_,_=>by
  have:vs=[]:=by simpa using hl
  subst this; simp
 | s::ss,x::xs,f,vs,hl,hx,h=>by
  obtain ⟨v,r,f1,f2,rfl,_,h1,h2⟩:=h;intro u hu;rcases adK.1 hu with rfl | hu
  ·exact Zv (hx x (by simp)) h1
  ·exact Tr (by simpa using hl) (fun y hy=>hx y (by simp [hy])) h2 u hu
 | [],_::_,_,_,_,_,h=>h.elim
 | _::_,[],_,_,_,_,h=>h.elim
theorem Xm {k:Nat} {sub:List Sh} {ys:List (List D)} {f:Fp} {v:Value} (h:OD w H k (.ow sub) (.li ys) f v) (hok:FSx sub.length ys) :
  ∃ (kx:Nat) (gx:Fp) (ws:List Value),Src P w sub.length v ys.length ws/\Cs (OD w H kx) (List.replicate ys.length sub).flatten ys.flatten gx ws/\(∀ u∈ws,oH u=true)/\∀ b,gx b<=f b:=by
 cases k with
 | zero=>simp [OD] at h
 | succ k=>
  obtain ⟨ad,c,gg,vs,rfl,hlc,hlb,hlen,hvs,hcs,hwhere⟩:=mE h;refine ⟨k,gg,vs,?_,hcs,?_,?_⟩
  ·rcases hwhere with ⟨rfl,rfl,rfl,_⟩ | ⟨b,cs,ty,fz,rfl,hb,hfz,hcsz,rfl,hf⟩
   ·have:vs=[]:=by simpa using hvs
    subst this;exact pQ
   ·refine vT hvs (fun j u hj=>?_);have hjl:=aj hj
    rw [aeF] at hjl;rw [adY (by omega)] at hj;simp only [World.cell?,hb,afA,adB,if_false,afD];simpa using hj
  ·refine Tr (by rw [hvs,dc _ _ hlen]) (fun x hx=>?_) hcs;rw [List.mem_flatten] at hx;obtain ⟨y,hy,hxy⟩:=hx;exact (hok y hy).2 x hxy
  ·intro b;rcases hwhere with ⟨rfl,rfl,rfl,hf0⟩ | ⟨b',cs,ty,fz,rfl,hb,hfz,hcsz,rfl,hf⟩
   ·have hv0:vs=[]:=by simpa using hvs
    have:∀ b,gg b=0:=by simpa [Cs] using hcs
    rw [this b]; exact aeR _
   ·rw [hf]; omega
theorem BP (h:RX g s a w H γ F) {size:Nat} {x:AV} {v:Value} {s1:S} {sub:List Sh} {l:List (List D)} (hx:AR w H γ s.m x v) (hb:jc s size x=some (s1,sub,l)) :
  ∃ k f F1,OD w H k (.ow sub) (.li l) f v/\RX g s1 a w H γ F1/\sub.length=size/\(∀ b,tot F1 s1.m b+f b=tot F s.m b)/\(∀ b,f b≠0->b<w.heap.size/\(∀ o,H b o=none)/\(g.own0 b≠0\/g.w0.heap.size<=b)):=by
 match x,hb with
 | .one (.c .nil),hb=>
  simp only [jc,ac8,Prod.mk.injEq] at hb;obtain ⟨rfl,rfl,rfl⟩:=hb;obtain ⟨_,rfl⟩:=hx;refine ⟨1,fun _=>0,F,?_,h,by simp,fun b=>rfl,fun b hb=>absurd rfl hb⟩;rw [iV]; exact .inl ⟨rfl,rfl,fun _=>rfl⟩
 | .one (.c (.rf q)),hb=>
  simp only [jc] at hb;cases hg:be s.m q with
  | none=>rw [hg] at hb; simp at hb
  | some t=>
   rw [hg] at hb;cases t with
   | ow sub' l'=>
    dsimp only at hb;split at hb
    ·rename_i hsz;simp only [ac8,Prod.mk.injEq] at hb;obtain ⟨rfl,rfl,rfl⟩:=hb;obtain ⟨_,hok,hv⟩:=hx;obtain ⟨v',f,F',e1,⟨k,e2⟩,e3,e4⟩:=Kh h (iq hok) hg;rw [hv] at e1;obtain rfl:v=v':=by simpa using e1
     exact ⟨k,f,F',e2,e3,hsz,e4,fun b hb=>by
      have hne:tot F s.m b≠0:=by have:=e4 b; omega
      exact ⟨h.mem.lt b hne,h.mem.nofz b hne,h.fr.tt b hne⟩⟩
    ·simp at hb
   | _=>simp at hb
theorem IL (h:RX g s a w H γ F) {t u tt:TypeId} {x y:Operand} {d:Tmp} {k:S->Prop} (hd:okD g.nt (some d)=true) (hx:bh x=true) (hy:bh y=true) (hK:vh P s t u x y d k) :
  ∃ s' z w' H' γ' F',(Builtin.append_ #[t,u] tt #[a.eval x,a.eval y]).run P w=.ok z w'/\k s'/\RX g s' (a.put (some d) z) w' H' γ' F':=by
 unfold vh at hK;cases hk:(ty P t).k with
 | sl e=>
  rw [hk] at hK;obtain ⟨hok,hss,hzl,hK⟩:=hK;obtain ⟨_,td,hit,hud,htk,_⟩:=dt hk (by simp);have:=tP htk
  subst this;obtain ⟨ie,de,hie,_,_,hsize,hbytes,_⟩:=ij hok;rw [hsize,hbytes] at hK;rw [hsize] at hzl;obtain ⟨zs,hzs,hzl⟩:=aeG.1 hzl;obtain ⟨it',z,hi',hz,hzc,_⟩:=mh hzs;rw [hie] at hi';obtain rfl:ie=it':=by simpa using hi'
  have hzsz:z.cells.size=ie.size:=by rw [<- hzl,<- hzc]; simp
  obtain ⟨ud,huu,hudd⟩:∃ ud,P.underlying u=some ud/\isSS ud=true:=by
   have hne:(ty P u).k≠.ot:=fun e=>by rw [e] at hss; simp [TK.isSS] at hss
   obtain ⟨_,ud,_,h2,h3,_⟩:=dt rfl hne;refine ⟨ud,h2,?_⟩;rw [<- h3] at hss;cases ud <;> first | rfl | (simp [pB,TK.isSS] at hss)
  cases hsr:jc s ie.size (ev s y) with
  | none=>rw [hsr] at hK; exact hK.elim
  | some q1=>
   obtain ⟨s1,sub1,ys⟩:=q1;rw [hsr] at hK;dsimp only at hK;obtain ⟨k1,f1,F1,d1,h1,d3,d4,d5⟩:=BP h (br h hy) hsr;cases hbs:jc s1 ie.size (ev s1 x) with
   | none=>rw [hbs] at hK; exact hK.elim
   | some q=>
    obtain ⟨s2,sub,l⟩:=q;rw [hbs] at hK;obtain ⟨hsub,hrows,hb62,hby,hK⟩:=hK;subst hsub;obtain ⟨kb,f,F2,b1,b2,b3,b4',b5⟩:=BP h1 (br h1 hx) hbs;have b4:∀ b,tot F2 s2.m b+f b+f1 b<=1:=fun b=>by have:=b4' b; have:=d4 b; have:=h.mem.le1 b; omega
    obtain ⟨kx,gx,ws,r1,r2,r3,r4⟩:=Xm (P:=P) d1 hrows;rw [d3] at r1;obtain ⟨z',w',f',c1,⟨k',c2⟩,c3,c4,c5,c6,c7,c8,c9⟩:=zJ (tt:=tt) hud huu hudd hie hz hzsz (gx:=gx) (kx:=kx) b3 b1 r1 (fun y hy=>(hrows y hy).1)
     r2 r3 (fun b=>by have:=b4 b; have:=r4 b; omega) (fun b hb=>by rcases hb with hb | hb; exact (b5 b hb).1; exact (d5 b (by have:=r4 b; omega)).1) hb62 hby
    have hX:=JB b2 c3 c4 c5 c6 (fun b hb=>by
     rcases c7 b hb with h3 | h3
     ·exact .inl h3
     ·exact .inr ⟨by have:=b4 b; omega,(b5 b h3).2⟩)
    have hX2:=jj hX (.gh d)
    have hn:=iy hX (.gh d)
    have hHnew:∀ b,w.heap.size<=b->∀ o,H b o=none:=by
     intro b hb o;cases hc:H b o with
     | none=>rfl
     | some y=>have:=World.block_lt_of_cell? _ _ (h1.mem.agree _ _ _ hc); simp at this; omega
    have hts:∀ b,tot F2 (s2.fresh (.gh d)).m b<=tot F2 s2.m b:=by
     intro b;unfold S.fresh;split
     ·exact adH _
     ·show tot F2 (aL _ _) b<=_
      rw [bH]; exact kC
    have htz:tot F2 s2.m w.heap.size=0:=by
     rcases aeL (tot F2 s2.m w.heap.size) with h' | h'
     ·exact h'
     ·have:=b2.mem.lt w.heap.size (by omega); omega
    have own:∀ b,f' b≠0->b≠w.heap.size->b<w.heap.size/\(∀ o,H b o=none)/\(g.own0 b≠0\/g.w0.heap.size<=b):=by
     intro b hb hb2;have h5:=c8 b
     have h6:=r4 b
     rw [if_neg hb2] at h5;by_cases hf:f b=0
     ·exact d5 b (by omega)
     ·exact b5 b hf
    obtain ⟨γ',F',hX3,hγ⟩:=lZ hX2 (n:=.gh d) rfl hn (v:=z') (t:=.ow sub1 (l++ys)) (f:=f') ⟨k',c2⟩ (fun b=>by
      have h3:=hts b; have h4:=b4 b; have h5:=c8 b; have h6:=r4 b
      by_cases hb:b=w.heap.size
      ·subst hb;have e1:f w.heap.size=0:=by
        rcases aeL (f w.heap.size) with h' | h'
        ·exact h'
        ·have:=(b5 w.heap.size (by omega)).1; omega
       have e2:f1 w.heap.size=0:=by
        rcases aeL (f1 w.heap.size) with h' | h'
        ·exact h'
        ·have:=(d5 w.heap.size (by omega)).1; omega
       rw [if_pos rfl] at h5; omega
      ·rw [if_neg hb] at h5; omega)
     (fun b hb=>⟨c9 b hb,by
      by_cases hb2:b=w.heap.size
      ·subst hb2; exact hHnew _ (adH _)
      ·exact (own b hb hb2).2.1⟩)
     (fun b hb=>by
      by_cases hb2:b=w.heap.size
      ·right; have:=b2.fr.size; omega
      ·exact (own b hb hb2).2.2)
    refine ⟨_,z',w',H,γ',F',c1,hK,RX.put hX3 hd (tY (sub:=sub1) (l:=l++ys) ?_ hγ)⟩;simp [ae]
 | _=>rw [hk] at hK; exact hK.elim
end
end Go.Am
end

section
namespace Go.Am
def fzS:List Sh->List T->Option (List D)
 | [],[]=>some []
 | .fr::ss,t::ts=>match fzS ss ts with
  | some r=>some (t.fz::r)
  | none=>none
 | .ow _::ss,.nil::ts=>match fzS ss ts with
  | some r=>some (.li []::r)
  | none=>none
 | _,_=>none
section
variable {P:Program} {g:G} {s:S} {a:Act} {w:World} {H:FH} {γ:Gam} {F:Nm->Fp}
theorem NT {k:Nat} {m:Mm}:∀ {ss:List Sh} {ts:List T} {xs:List D} {f:Fp} {vs:List Value},(∀ b,f b=0)->fzS ss ts=some xs->Ts (TR w H γ m) ts f vs ->
  Cs (OD w H (k+1)) ss xs f vs
 | [],[],xs,_,_,hf,hz,_=>by
  simp only [fzS,ac8] at hz; subst hz; exact hf
 | .fr::ss,t::ts,xs,f,vs,hf,hz,h=>by
  simp only [fzS] at hz;cases h5:fzS ss ts with
  | none=>rw [h5] at hz; cases hz
  | some r0=>
   rw [h5] at hz;simp only [ac8] at hz;subst hz;obtain ⟨v,r,f1,f2,h1,h2,h3,h4⟩:=h;refine ⟨v,r,f1,f2,h1,h2,?_,NT (fun b=>by have:=hf b; have:=h2 b; omega) h5 h4⟩;rw [oy];refine ⟨fun b=>by have:=hf b; have:=h2 b; omega,?_⟩;cases t with
   | d x=>exact h3.2
   | nil=>obtain ⟨_,rfl⟩:=h3; exact qQ
   | _=>exact ⟨0,trivial⟩
 | .ow sub::ss,.nil::ts,xs,f,vs,hf,hz,h=>by
  simp only [fzS] at hz;cases h5:fzS ss ts with
  | none=>rw [h5] at hz; cases hz
  | some r0=>
   rw [h5] at hz;simp only [ac8] at hz;subst hz;obtain ⟨v,r,f1,f2,h1,h2,h3,h4⟩:=h;refine ⟨v,r,f1,f2,h1,h2,?_,NT (fun b=>by have:=hf b; have:=h2 b; omega) h5 h4⟩;obtain ⟨_,rfl⟩:=h3;rw [iV];exact .inl ⟨rfl,rfl,fun b=>by have:=hf b; have:=h2 b; omega⟩
 | [],_::_,_,_,_,_,hz,_=>by simp [fzS] at hz
 | .fr::_,[],_,_,_,_,hz,_=>by simp [fzS] at hz
 | .ow _::_,[],_,_,_,_,hz,_=>by simp [fzS] at hz
 | .ow _::_,.d _::_,_,_,_,_,hz,_=>by simp [fzS] at hz
 | .ow _::_,.ow _ _::_,_,_,_,_,hz,_=>by simp [fzS] at hz
 | .ow _::_,.el _ _::_,_,_,_,_,hz,_=>by simp [fzS] at hz
 | .ow _::_,.pl _::_,_,_,_,_,hz,_=>by simp [fzS] at hz
 | .ow _::_,.rf _::_,_,_,_,_,hz,_=>by simp [fzS] at hz
 | .ow _::_,.any::_,_,_,_,_,hz,_=>by simp [fzS] at hz
theorem N4 (h:RX g s a w H γ F) {n:Nm} (hno:n.isOut=false) (hn:ae s.m n=none) {cs:Array Value} {ty':TypeId} {len cap:Nat} {sub:List Sh} {l:List (List D)} (hl:l.length=len) (hle:len<=cap) (hbig:len<=BIG)
  (hx:∀ x∈l,x.length=sub.length) (hsz:cs.size=cap*sub.length) (hcs:∀ k,Cs (OD w H (k+1)) (List.replicate len sub).flatten l.flatten (fun _=>0) cs.toList) :
  ∃ γ' F',RX g (s.root n ⟨false,[.ow sub l]⟩) a (w.alloc (.cells cs ty')) H γ' F'/\γ' n=.gh (.slice (some ⟨w.heap.size,0,none⟩) len cap):=by
 obtain ⟨hm,hf,hK,hH⟩:=xd h.mem cs ty' false;simp only [adB,false_and,if_false] at hm hf hK hH;have hX:RX g s a (w.alloc (.cells cs ty')) H γ F:=iM h hm hf (fun i=>dv hK (fun _ _ _ h=>h) (h.t i)) (fun _=>rfl)
 have hz:tot F s.m w.heap.size=0:=by
  rcases aeL (tot F s.m w.heap.size) with h' | h'
  ·exact h'
  ·have:=h.mem.lt w.heap.size (by omega); omega
 have hHz:∀ o,H w.heap.size o=none:=by
  intro o;cases hc:H w.heap.size o with
  | none=>rfl
  | some y=>have:=World.block_lt_of_cell? _ _ (h.mem.agree _ _ _ hc); simp at this
 have hcs':∀ k,Cs (OD (w.alloc (.cells cs ty')) H (k+1)) (List.replicate len sub).flatten l.flatten (fun _=>0) cs.toList:=by
  intro k;refine nI _ _ _ _ (fun s x g v hg hod=>?_) (hcs k);exact fx (fun _ _ _ h=>h) (k+1) (k+1) _ _ _ _ (adH _) (fun b hb=>absurd (Nat.le_zero.1 (hg b)) hb) hod
 subst hl;have hod:TR (w.alloc (.cells cs ty')) H γ s.m (.ow sub l) (fun b=>0+if b=w.heap.size then 1 else 0) (.slice (some ⟨w.heap.size,0,none⟩) l.length cap):=
  ⟨2,G3 (eQ) rfl hsz hle hbig hx (hcs' 0)⟩
 exact lZ hX hno hn hod (fun b=>by
   by_cases hb:b=w.heap.size
   ·subst hb; rw [hz]; simp
   ·rw [if_neg hb]; have:=h.mem.le1 b; omega)
  (fun b hb=>by
   have hb':b=w.heap.size:=by
    by_cases hb':b=w.heap.size
    ·exact hb'
    ·rw [if_neg hb'] at hb; simp at hb
   subst hb';exact ⟨by simp,hHz⟩)
  (fun b hb=>by
   have hb':b=w.heap.size:=by
    by_cases hb':b=w.heap.size
    ·exact hb'
    ·rw [if_neg hb'] at hb; simp at hb
   right; have:=h.fr.size; omega)
def jJ (P:Program) (s0:S) (t:TypeId) (len:Nat) (sub:List Sh) (ps:Array (Nat×Operand)) (d:Tmp) (k:S->Prop):Prop:=
 match (ty P t).k with
 | .sl e=>(ty P e).ok=true/\(zcells P e).isSome=true/\len*(ty P e).size<=16777216/\len<=16777216/\sub.length=(ty P e).size /\
  let s:=(jt s0 (ps.toList.map fun x=>ev s0 x.2)).fresh (.gh d)
  match jr (fun i=>some (i*(ty P e).size,(ty P e).size)) (List.replicate (len*(ty P e).size) .any) (kH s ps) with
  | some ts=>match fzS (List.replicate len sub).flatten ts with
   | some xs=>k ((s.root (.gh d) ⟨false,[.ow sub (chunk (ty P e).size len xs)]⟩).put (some d) (.one (.c (.rf ⟨.gh d,0,[]⟩))))
   | none=>False
  | none=>False
 | _=>False
theorem yV (h:RX g s a w H γ F) {t:TypeId} {len:Nat} {ps:Array (Nat×Operand)} {d:Tmp} {sub:List Sh} {k:S->Prop} (hd:okD g.nt (some d)=true) (hp:(ps.toList.all fun x=>bh x.2)=true) (hK:jJ P s t len sub ps d k) :
  ∃ s' y w' H' γ' F',(Instr.buildSlice t len (ps.map fun (i,x)=>(i,a.eval x))).run P w=.ok y w'/\k s'/\RX g s' (a.put (some d) y) w' H' γ' F':=by
 unfold jJ at hK;cases hk:(ty P t).k with
 | sl e=>
  rw [hk] at hK;obtain ⟨hok,hzc,hsmall,hlb,hsl,hK⟩:=hK;obtain ⟨_,td,hit,hud,htk,_⟩:=dt hk (by simp);have:=tP htk
  subst this;obtain ⟨ie,de,hie,_⟩:=ij hok;have hsize:(ty P e).size=ie.size:=by
   obtain ⟨ie',_,hie',_,_,hs,_⟩:=ij hok;rw [hie] at hie';obtain rfl:ie=ie':=by simpa using hie'
   exact hs
  obtain ⟨zs,hzs⟩:=agL.1 hzc;obtain ⟨it',z,hi',hz,_⟩:=mh hzs;rw [hie] at hi';obtain rfl:ie=it':=by simpa using hi'
  obtain ⟨H1,F1,h1⟩:=ky (ps.toList.map fun x=>ev s x.2) s H F h;have h2:=jj h1 (.gh d)
  have hn:=iy h1 (.gh d)
  dsimp only at hK;generalize (jt s (ps.toList.map fun x=>ev s x.2)).fresh (.gh d)=s2 at hK h2 hn;cases hf:jr (fun i=>some (i*(ty P e).size,(ty P e).size)) (List.replicate (len*(ty P e).size) .any) (kH s2 ps) with
  | none=>rw [hf] at hK; exact hK.elim
  | some ts=>
   rw [hf] at hK;dsimp only at hK;rw [hsize] at hf hK hsmall hsl;have hpr:PR w H1 γ s2.m (kH s2 ps) (ps.map fun (i,x)=>(i,a.eval x)).toList:=by
    rw [Array.toList_map];exact vz (m:=s2.m) h2 hp
   have hfill:∀ us:Array Value,us.size=len*ie.size->∃ cs,Instr.fill (fun i=>some (i*ie.size,ie.size)) us (ps.map fun (i,x)=>(i,a.eval x)).toList=some cs/\cs.size=ts.length/\Ts (TR w H1 γ s2.m) ts (fun _=>0) cs.toList:=by
    intro us hus;refine zd h2.mem _ _ _ us ts hpr (by simpa using hus) ?_ hf;have:=No (w:=w) (H:=H1) (γ:=γ) (m:=s2.m) (vs:=us.toList)
    rw [show us.toList.length=len*ie.size from by simpa using hus] at this;exact this
   have hlen:ts.length=len*ie.size:=by rw [m9 hf]; simp
   obtain ⟨us,cs,u1,u2,u3⟩:=oA (P:=P) (w:=w) (t:=t) (e:=e) (len:=len) (vs:=ps.map fun (i,x)=>(i,a.eval x)) (cells:=#[]) hud hie hz (by omega) (fun us hus=>by
    obtain ⟨cs,c1,c2,_⟩:=hfill us hus;exact ⟨cs,c1,by rw [c2,hlen],.inr trivial⟩)
   obtain ⟨cs',c1,c2,c3⟩:=hfill us u1;rw [u2] at c1;obtain rfl:cs=cs':=by simpa using c1
   cases hz2:fzS (List.replicate len sub).flatten ts with
   | none=>rw [hz2] at hK; exact hK.elim
   | some xs=>
    rw [hz2] at hK;dsimp only at hK;have hcs:∀ k,Cs (OD w H1 (k+1)) (List.replicate len sub).flatten xs (fun _=>0) cs.toList:=fun k=>NT (fun _=>rfl) hz2 c3
    have hmap:xs.length=len*ie.size:=by
     have h5:=(DQ _ _ _ _ (hcs 0)).1
     rw [<- h5,dc sub.length _ (fun x hx=>by rw [(List.mem_replicate.1 hx).2]),agT,hsl]
    obtain ⟨γ',F',hX,hγ⟩:=N4 h2 (n:=.gh d) rfl hn (cs:=cs) (ty':=e) (len:=len) (cap:=len) (sub:=sub) (l:=chunk ie.size len xs) nC (adH _) (by
      show len<=2 ^ 62
      omega) (by rw [hsl]; exact wO hmap) (by rw [c2,hlen,hsl]) (fun k=>by
       rw [sD hmap];exact hcs k)
    refine ⟨_,_,_,H1,γ',F',u3,hK,RX.put hX hd (tY (sub:=sub) (l:=chunk ie.size len xs) ?_ hγ)⟩;simp [S.root,ae]
 | _=>rw [hk] at hK; exact hK.elim
end
end Go.Am
end

section
namespace Go.Am
abbrev upS (k:St->Prop):S->Prop:=fun s'=>∃ t:St,SEq s' t.toS/\k t
theorem M7 {P:Program} {t:TypeId} {zs:List Value} (h:zcells P t=some zs):zs.all okT=true:=by
 unfold zcells at h;split at h
 ·split at h
  ·split at h
   ·rename_i hz;simp only [ac8] at h;subst h;simpa using hz
   ·cases h
  ·cases h
 ·cases h
section
variable {P:Program} {s:St} {k:St->Prop}
theorem SG {t:TypeId} {d:Tmp} (hn:ND s.m) (h:wA P s t d k):wM P s.toS t d (upS k):=by
 unfold wA at h;split at h
 ·rename_i z zs hz;split at h
  ·rename_i hd;unfold wM;rw [hz];refine ⟨by simp,adN hd,_,?_,h⟩;have e:((s.fresh (nz t d)).root (nz t d) ⟨true,(z::zs).map uB,none⟩).toS=(s.toS.fresh (nz t d)).root (nz t d) ⟨true,(z::zs).map ro⟩:=by
    rw [<- fN hn,<- OZ (M7 hz)]; rfl
   rw [<- e];exact cN ((s.fresh (nz t d)).root (nz t d) ⟨true,(z::zs).map uB,none⟩) (some d) (.one (.c (.pl ⟨nz t d,0,[]⟩)))
  ·exact h.elim
 ·exact h.elim
theorem YB {x:Operand} {d:Tmp} (hn:ND s.m) (hx:bh x=true) (h:RU s x d k):Ra s.toS x d (upS k):=by
 unfold RU at h;split at h
 ·rename_i t ts hc;split at h
  ·rename_i hd;simp only [ac9] at hd;unfold Ra;rw [<- fN hn,aF hx,sB,hc];dsimp only [Option.map_some];refine ⟨by simp,?_,adN hd.2,_,?_,h⟩
   ·rw [agB,<- hd.1]; congr 1; funext t; exact Io t
   ·exact cN ((s.fresh (.loc d)).root (.loc d) ⟨true,t::ts,none⟩) (some d) (.one (.c (.pl ⟨.loc d,0,[]⟩)))
  ·exact h.elim
 ·exact h.elim
theorem OS {u:U} {t:Tt} {x:El u} (h:L6 u t=some x):t.toT.fz=(jo u x).toD:=by
 unfold L6 at h;split at h
 ·rename_i c; rw [mB h];rfl
 ·split at h
  ·simp only [ac8] at h; subst h; rfl
  ·cases h
 ·cases h
theorem Lu:∀ {us:List U} {ts:List Tt} {x:Fl us},kW us ts=some x->ts.map (fun t=>t.toT.fz)=(fH us x).map C.toD
 | [],[],_,_=>rfl
 | u::r,c::cs,x,h=>by
  simp only [kW] at h;cases h1:L6 u c with
  | none=>rw [h1] at h; cases h
  | some y=>
   cases h2:kW r cs with
   | none=>rw [h1,h2] at h; cases h
   | some z=>
    rw [h1,h2] at h;simp only [ac8] at h;subst h;rw [fH,kZ,ll,List.map_cons,List.map_cons,OS h1,Lu h2]
 | [],_::_,_,h=>by simp [kW] at h
 | _::_,[],_,h=>by simp [kW] at h
theorem Yi {u:U} {ts:List Tt} {x:El u} (h:kN u ts=some x):ts.map (fun t=>t.toT.fz)=aE u x:=by
 rw [<- bS];cases u with
 | st n=>
  simp only [kN] at h;cases h1:kW (sd n).fs ts with
  | none=>rw [h1] at h; cases h
  | some y=>
   rw [h1] at h;have:=Option.some.inj h
   subst this;show _=(fH (sd n).fs ((sd n).un ((sd n).mkF y))).map C.toD
   rw [(sd n).l2,Lu h1]
 | _=>
  cases ts with
  | nil=>cases h
  | cons t r=>cases r with
   | nil=>rw [mv rfl]; simp only [List.map_cons,List.map_nil]; rw [OS h]
   | cons _ _=>cases h
theorem sv {u:U}:∀ {rows:List (List Tt)} {l:List (El u)},nV u rows=some l->rows.map (fun r=>r.map fun t=>t.toT.fz)=l.map (aE u)
 | [],l,h=>by simp only [nV,ac8] at h; subst h; rfl
 | r::rs,l,h=>by
  simp only [nV] at h;cases h1:kN u r with
  | none=>rw [h1] at h; cases h
  | some x=>
   cases h2:nV u rs with
   | none=>rw [h1,h2] at h; cases h
   | some xs=>
    rw [h1,h2] at h;simp only [ac8] at h;subst h;rw [List.map_cons,List.map_cons,Yi h1,sv h2]
theorem xg {α β:Type} (f:α->β) (size:Nat):∀ (n:Nat) (l:List α),chunk size n (l.map f)=(chunk size n l).map (·.map f)
 | 0,_=>rfl
 | n+1,l=>by simp only [chunk,List.map_cons,af7]; rw [<- af8,xg f size n]
theorem JQ {ps:Array (Nat×Operand)} (h:(nJ s ps).all (fun x=>x.2.noRf)=true):(ps.toList.map fun x=>evA s x.2).all At.noRf=true:=by
 unfold nJ at h;rw [agB] at h ⊢;exact h
theorem PC {xs:List (Nat×Operand)} (h:(xs.all fun x=>bh x.2)=true):(xs.map fun x=>ev s.toS x.2)=(xs.map fun x=>evA s x.2).map At.toV:=by
 rw [adV];exact adU fun x hx=>aF (adI.1 h x hx)
theorem Bo {E:Ut} {t:TypeId} {len:Nat} {ps:Array (Nat×Operand)} {d:Tmp} (hps:(ps.toList.all fun x=>bh x.2)=true)
  (hn:ND (cT s (ps.toList.map fun x=>evA s x.2)).m) (h:gm P E s t len ps d k):gp P (cT s (ps.toList.map fun x=>evA s x.2)).toS t len ps d (upS k):=by
 unfold gm at h;split at h
 ·rename_i e ht;split at h
  ·rename_i u z he hz;split at h
   ·rename_i hc;simp only [ac9] at hc;obtain ⟨⟨⟨c1,c2⟩,c3⟩,c4⟩:=hc;have hsz:=adO c2
    dsimp only at h;generalize hs1:cT s (ps.toList.map fun x=>evA s x.2)=s1 at h hn;split at h
    ·rename_i ts hf hno;split at h
     ·rename_i l hl;unfold gp;rw [ht];dsimp only;refine ⟨c1,by rw [hz]; rfl,by rw [<- hsz]; exact adN c3,adN c4,?_⟩;rw [PC hps,ip (JQ hno),<- fN hn,wW hps,<- hsz];have hf':=qs hf
      rw [List.map_replicate] at hf';have e0:Tt.any.toT=T.any:=rfl
      rw [e0] at hf';rw [hf'];dsimp only;refine ⟨_,?_,h⟩;have er:(⟨false,[.ow (List.replicate (nc u) .fr) u l],none⟩:Rt).toR=⟨false,[.ow (List.replicate (nc u) .fr) (chunk (nc u) len ((ts.map Tt.toT).map T.fz))]⟩:=by
       have e2:chunk (nc u) len ((ts.map Tt.toT).map T.fz)=l.map (aE u):=by rw [adV,xg]; exact sv hl
       rw [e2]; rfl
      rw [<- er];exact cN ((s1.fresh (.gh d)).root (.gh d) ⟨false,[.ow (List.replicate (nc u) .fr) u l],none⟩) (some d) (.one (.c (.rf ⟨.gh d,0,[]⟩)))
     ·exact h.elim
    ·exact h.elim
   ·exact h.elim
  ·exact h.elim
 ·exact h.elim
theorem zE:∀ {ss:List Sh} {ts:List Tt},rM ss ts=true->fzS ss (ts.map Tt.toT)=some (ts.map fun t=>t.toT.fz)
 | [],[],_=>rfl
 | .fr::r,t::ts,h=>by
  simp only [List.map_cons,fzS];rw [zE (show rM r ts=true from h)]
 | .ow sub::r,t::ts,h=>by
  cases t with
  | nil=>
   simp only [List.map_cons,Tt.toT,fzS];rw [zE (show rM r ts=true from h)]; rfl
  | _=>simp [rM] at h
 | [],_::_,h=>by simp [rM] at h
 | .fr::_,[],h=>by simp [rM] at h
 | .ow _::_,[],h=>by simp [rM] at h
theorem yv {E:Ut} {sub:List Sh} {t:TypeId} {len:Nat} {ps:Array (Nat×Operand)} {d:Tmp} (hps:(ps.toList.all fun x=>bh x.2)=true)
  (hn:ND (cT s (ps.toList.map fun x=>evA s x.2)).m) (h:fV P E sub s t len ps d k):jJ P (cT s (ps.toList.map fun x=>evA s x.2)).toS t len sub ps d (upS k):=by
 unfold fV at h;split at h
 ·rename_i e ht;split at h
  ·rename_i u z he hz;split at h
   ·rename_i hc;simp only [ac9] at hc;obtain ⟨⟨⟨⟨c1,c2⟩,c3⟩,c4⟩,c5⟩:=hc;have hsz:=adO c2
    dsimp only at h;generalize hs1:cT s (ps.toList.map fun x=>evA s x.2)=s1 at h hn;split at h
    ·rename_i ts hf hno;split at h
     ·rename_i l hl hsub;unfold jJ;rw [ht];dsimp only;refine ⟨c1,by rw [hz]; rfl,by rw [<- hsz]; exact adN c3,adN c4,by rw [<- hsz]; exact adO c5,?_⟩;rw [PC hps,ip (JQ hno),<- fN hn,wW hps,<- hsz];have hf':=qs hf
      rw [List.map_replicate] at hf';have e0:Tt.any.toT=T.any:=rfl
      rw [e0] at hf';rw [hf'];dsimp only;rw [zE hsub];dsimp only;refine ⟨_,?_,h⟩;have er:(⟨false,[.ow sub u l],none⟩:Rt).toR=⟨false,[.ow sub (chunk (nc u) len (ts.map fun t=>t.toT.fz))]⟩:=by
       have e2:chunk (nc u) len (ts.map fun t=>t.toT.fz)=l.map (aE u):=by rw [xg]; exact sv hl
       rw [e2]; rfl
      rw [<- er];exact cN ((s1.fresh (.gh d)).root (.gh d) ⟨false,[.ow sub u l],none⟩) (some d) (.one (.c (.rf ⟨.gh d,0,[]⟩)))
     ·exact h.elim
    ·exact h.elim
   ·exact h.elim
  ·exact h.elim
 ·exact h.elim
theorem Bu {m:List (Nm×Nat×Rt)} {n:Nm} {i:Nat} {r:Rt} (h:ND m):ND (iC m n i r):=by
 unfold ND; rw [Ea]; exact h
theorem Ri (t:Tt):t.toT.owned=t.owned:=by cases t <;> rfl
theorem Qr {p:Pl} {t:Tt} (h:Je s p t k) (hn:ND s.m):∃ m',(∀ K:Mm->Prop,K m'->rX s.toS.m p t.toT K)/\∃ s':St,s'.toS=⟨s.toS.t,m'⟩/\ND s'.m/\k s':=by
 unfold Je at h;split at h
 ·exact h.elim
 ·rename_i r hr;split at h
  ·rename_i t0 hpath hh hc;split at h
   ·rename_i ho;have ec:r.toR.cells=r.cells.map Tt.toT:=by show holed _ r.hole=_; rw [hh]; rfl
    refine ⟨dD s.toS.m p.root ⟨r.blk,(r.cells.map Tt.toT).set p.off t.toT⟩,fun K hK=>?_,_,?_,Bu hn,h⟩
    ·unfold rX;rw [show ae s.toS.m p.root=some r.toR from bF hr];dsimp only;rw [hpath,ec,adG,hc];exact ⟨by rw [Ri]; exact ho,hK⟩
    refine bI.S_ext rfl ?_;show toM (iC s.m p.root s.nx _)=_
    rw [gQ]
    congr 1
    simp only [Rt.toR,hh,holed,aeP]
   ·exact h.elim
  ·rename_i st q sub u l hpath hh hc;split at h
   ·rename_i l' hl;have ec:r.toR.cells=r.cells.map Tt.toT:=by show holed _ r.hole=_; rw [hh]; rfl
    refine ⟨dD s.toS.m p.root ⟨r.blk,(r.cells.map Tt.toT).set p.off (.ow sub (l'.map (aE u)))⟩,fun K hK=>?_,_,?_,Bu hn,GN h⟩
    ·unfold rX;rw [show ae s.toS.m p.root=some r.toR from bF hr];dsimp only;rw [hpath,ec,adG,hc];exact Kf h hl hK
    refine bI.S_ext rfl ?_;show toM (iC s.m p.root s.nx _)=_
    rw [gQ]
    congr 1
    simp only [Rt.toR,hh,holed,aeP,Tt.toT]
   ·exact h.elim
  ·rename_i st q off st' q' sub u l hpath hh hc;split at h
   ·rename_i sh v lv hb;split at h
    ·rename_i l' hl;have hoff:off=p.off:=adO hb
     subst hoff;obtain ⟨epath,hk⟩:=ES (GN h);have hlt:p.off < (r.cells.map Tt.toT).length:=by rw [adE]; exact aj hc
     simp only [List.cons.injEq] at epath;obtain ⟨rfl,rfl⟩:=epath;have ec:r.toR.cells=(r.cells.map Tt.toT).set p.off (.ow sub (bW sub (l.map (aE u)) .any (st'::q'))):=by
      show holed _ r.hole=_
      rw [hh]; exact LB _ _ hc
     refine ⟨dD s.toS.m p.root ⟨r.blk,(r.cells.map Tt.toT).set p.off (.ow sub (l'.map (aE u)))⟩,fun K hK=>?_,_,?_,Bu hn,hk⟩
     ·unfold rX;rw [show ae s.toS.m p.root=some r.toR from bF hr];dsimp only;rw [hpath,ec,ad1 hlt];refine Lb h hl ?_;rw [afU];exact hK
     refine bI.S_ext rfl ?_;show toM (iC s.m p.root s.nx _)=_
     rw [gQ]
     congr 1
     simp only [Rt.toR,holed,aeP,Tt.toT]
    ·exact h.elim
   ·exact h.elim
  ·exact h.elim
theorem V7 (n:Nm) (t:Tt):t.toT.ment n=t.ment n:=by cases t <;> rfl
theorem sx {K:S->Prop} (hK:∀ t:St,k t->K t.toS):∀ {ts:List Tt} {s:St} {p:Pl},ND s.m->jy s p ts k->dF s.toS p (ts.map Tt.toT) K
 | [],s,p,hn,h=>hK s h
 | t::ts,s,p,hn,h=>by
  have gen:∀ t:Tt,(∀ q,t≠.rf q)->t≠.any->t≠.d .any->Je s p t (fun s'=>jy s' (p.add 1) ts k)->dF s.toS p (t.toT::ts.map Tt.toT) K:=by
   intro t h1 h2 h3 h;obtain ⟨m',hp,s',e,hn',hk⟩:=Qr h hn;have key:dF s.toS p (t.toT::ts.map Tt.toT) K=rX s.toS.m p t.toT fun m'=>dF ⟨s.toS.t,m'⟩ (p.add 1) (ts.map Tt.toT) K:=by
    cases t with
    | rf q=>exact (h1 q rfl).elim
    | any=>exact (h2 rfl).elim
    | d c=>cases c with
     | any=>exact (h3 rfl).elim
     | _=>rfl
    | _=>rfl
   rw [key];refine hp _ ?_;rw [<- e];exact sx hK hn' hk
  cases t with
  | rf q=>
   simp only [jy] at h;split at h
   ·rename_i sub u l hr;split at h
    ·rename_i hpath hroot hall;simp only [List.map_cons,Tt.toT,dF];rw [show ae s.toS.m q.root=some (⟨false,[.ow sub u l],none⟩:Rt).toR from bF hr];refine ⟨hpath,by simpa using hroot,?_,?_⟩
     ·rw [agB,<- hall]; congr 1; funext t; simp only [Function.comp,V7]
     ·rw [<- bI hn];obtain ⟨m',hp,s',e,hn',hk⟩:=Qr h (Qm hn);refine hp _ ?_;rw [<- e];exact sx hK hn' hk
    ·exact h.elim
   ·exact h.elim
  | any=>exact h.elim
  | d c=>cases c with
   | any=>exact h.elim
   | _=>exact gen _ (fun _ h=>by cases h) (fun h=>by cases h) (fun h=>by cases h) h
  | _=>exact gen _ (fun _ h=>by cases h) (fun h=>by cases h) (fun h=>by cases h) h
theorem MZ {K:S->Prop} (hK:∀ t:St,k t->K t.toS) {p:Pl} {ts:List Tt} (hne:ts≠[]) (h:re s p ts k):dF s.toS p (ts.map Tt.toT) K:=by
 unfold re at h;split at h
 ·exact h.elim
 ·rename_i r hr;split at h
  ·rename_i st q sub u l hpath hh hc;split at h
   ·rename_i l' hl;have ec:r.toR.cells=r.cells.map Tt.toT:=by show holed _ r.hole=_; rw [hh]; rfl
    obtain ⟨a1,a2⟩:=EC hl;refine xH (bF hr) hpath (sub:=sub) (l:=l.map (aE u)) (by rw [ec,adG,hc]; rfl) a2 a1 (Ly hne h hl ?_);have hk:=hK _ (GN h)
    have e:(⟨s.nx+1,s.t,iC s.m p.root s.nx { r with cells:=r.cells.set p.off (.ow sub u l') }⟩:St).toS=⟨s.toS.t,dD s.toS.m p.root { r.toR with cells:=r.toR.cells.set p.off (.ow sub (l'.map (aE u))) }⟩:=by
     refine bI.S_ext rfl ?_;show toM (iC s.m p.root s.nx _)=_
     rw [gQ]
     congr 1
     simp only [Rt.toR,hh,holed,aeP,Tt.toT]
    rw [e] at hk;exact hk
   ·exact h.elim
  ·exact h.elim
theorem Rb {K:S->Prop} (hK:∀ t:St,k t->K t.toS) {t:TypeId} {x v:At} (hn:ND s.m) (h:we P s t x v k):wQ P s.toS t x.toV v.toV K:=by
 unfold we at h;split at h
 ·rename_i p ts hv;split at h
  ·rename_i hc;simp only [ac9] at hc;unfold wQ;rw [sB,hv];refine ⟨hc.1.1,by rw [adE]; exact adO hc.1.2,by rw [adE]; exact pc hc.2,?_⟩;split at h
   ·rename_i hrow;refine MZ hK (fun e=>?_) h;subst e;simp [Ze,Nat.blt] at hrow
   ·exact sx hK hn h
  ·exact h.elim
 ·exact h.elim
theorem XO {u:U} {v:At} {l:List (El u)} {size:Nat} (hs:nc u=size) (h:ZY u v=some l):jF size v.toV=some (l.map (aE u))/\v.noRf=true:=by
 unfold ZY at h;split at h
 ·simp only [ac8] at h; subst h; exact ⟨rfl,rfl⟩
 ·rename_i u' l';obtain ⟨e,rfl⟩:=mo h;subst e;exact ⟨rfl,rfl⟩
 ·rename_i b;split at h
  ·simp only [ac8] at h;subst h;have:size=1:=hs.symm
   simp only [At.toV,A1.toV,Tt.toT,C.toD,jF];rw [if_pos this];exact ⟨rfl,rfl⟩
  ·cases h
 ·cases h
theorem Lc {m:List (Nm×Nat×Rt)} {q:Pl} {r:Rt} {t:Tt} (hr:cg m q.root=some r) (hp:q.path=[]) (h:atT m q 1=some [t]):r.cells[q.off]? = some t:=by
 unfold atT at h;rw [hr] at h;dsimp only at h;rw [hp] at h;dsimp only at h;split at h
 ·rename_i hb;simp only [ac8] at h;have:=congrArg (·[0]?) h
  simpa [agN,adW] using this
 ·cases h
theorem A6 {u:U} {v:At} {s':St} {sub:List Sh} {l:List (El u)} {size:Nat} (hs:nc u=size) (hn:ND s.m) (hop:∀ q,v=.one (.c (.rf q))->okP (toM s.m) q) (h:ye s u v=some (s',sub,l)) :
  jc s.toS size v.toV=some (s'.toS,sub,l.map (aE u))/\ND s'.m/\Ext s s':=by
 unfold ye at h;split at h
 ·simp only [ac8,Prod.mk.injEq] at h;obtain ⟨rfl,rfl,rfl⟩:=h;exact ⟨by rw [<- hs]; rfl,hn,Ext.refl _⟩
 ·rename_i q;split at h
  ·rename_i sub' u' l' hsl;split at h
   ·rename_i l2 s2 hcast hlen htake;simp only [ac8,Prod.mk.injEq] at h;obtain ⟨rfl,rfl,rfl⟩:=h;obtain ⟨e,rfl⟩:=mo hcast;subst e;unfold VO at htake;split at htake
    ·cases htake
    ·rename_i r hr;split at htake
     ·rename_i hpath hh;simp only [ac8] at htake;have ht:atT s.m q 1=some [.ow sub' u' l']:=by
       unfold sliceAt at hsl;split at hsl
       ·rename_i a b c hat; cases hsl; exact hat
       ·cases hsl
      have hc:=Lc hr hpath ht
      have egr:ae s.toS.m q.root=some r.toR:=bF hr
      have ecs:r.toR.cells=r.cells.map Tt.toT:=by show holed _ r.hole=_; rw [hh]; rfl
      have egp:be s.toS.m q=some (.ow sub' (l'.map (aE u'))):=by
       unfold be;rw [egr,hpath];dsimp only;rw [ecs,adG,hc]; rfl
      refine ⟨?_,?_,?_⟩
      ·simp only [At.toV,A1.toV,Tt.toT,jc];rw [egp];dsimp only;rw [if_pos (by rw [<- hs]; exact adO hlen)]
       congr 2
       rw [<- htake];refine bI.S_ext (jT _ _ _).symm ?_;show _=toM (bO (thr q) s.nx (iC s.m q.root s.nx _))
       rw [fF,gQ]
       congr 1
       unfold bi;rw [egr,hpath];dsimp only;show dD (toM s.m) q.root _=_
       congr 1
       simp only [Rt.toR,hh,holed,aeP,Tt.toT]
      ·rw [<- htake]; exact FI.2 (Bu hn)
      ·rw [<- htake];exact ⟨aeW _,gz (adH _),(fJ _ _ (adH _) s.m).trans (fQ (adH _))⟩
     ·rename_i st pa hpath hh;simp only [ac8] at htake;have ht:atT s.m q 1=some [.ow sub' u' l']:=by
       unfold sliceAt at hsl;split at hsl
       ·rename_i a b c hat; cases hsl; exact hat
       ·cases hsl
      have egr:ae s.toS.m q.root=some r.toR:=bF hr
      have ecs:r.toR.cells=r.cells.map Tt.toT:=by show holed _ r.hole=_; rw [hh]; rfl
      have hq:=hop q rfl
      unfold okP at hq;rw [hpath] at hq;obtain ⟨r2,sub2,l2,g1,g2,g3⟩:=hq;have er2:r2=r.toR:=Option.some.inj (g1.symm.trans egr)
      subst er2;unfold atT at ht;rw [hr] at ht;dsimp only at ht;rw [hpath] at ht;dsimp only at ht;split at ht
      ·rename_i sub0 u0 l0 _ hc;rw [ecs,adG,hc] at g2;simp only [Option.map_some,ac8,Tt.toT,T.ow.injEq] at g2;obtain ⟨rfl,rfl⟩:=g2;have hlk:=IT g3 ht
       have egp:be s.toS.m q=some (.ow sub' (l'.map (aE u'))):=by
        unfold be;rw [egr];dsimp only;rw [hpath];dsimp only;rw [ecs,adG,hc];simp only [Option.map_some,Tt.toT];rw [hlk]
       refine ⟨?_,?_,?_⟩
       ·simp only [At.toV,A1.toV,Tt.toT,jc];rw [egp];dsimp only;rw [if_pos (by rw [<- hs]; exact adO hlen)]
        congr 2
        rw [<- htake];refine bI.S_ext (jT _ _ _).symm ?_;show _=toM (bO (thr q) s.nx (iC s.m q.root s.nx _))
        rw [fF,gQ]
        congr 1
        unfold bi;rw [egr];dsimp only;rw [hpath];dsimp only;rw [ecs,adG,hc];show dD (toM s.m) q.root _=_
        congr 1
        simp only [Rt.toR,Option.map_some,Tt.toT,T.toD];rw [LB _ _ hc]
       ·rw [<- htake]; exact FI.2 (Bu hn)
       ·rw [<- htake];exact ⟨aeW _,gz (adH _),(fJ _ _ (adH _) s.m).trans (fQ (adH _))⟩
      ·cases ht
     ·cases htake
   ·cases h
  ·cases h
 ·cases h
theorem XY:∀ n:Sn,(sd n).fs.all leaf=true:=by intro n; cases n <;> rfl
theorem EX {u:U} (h:leaf u=true) (x:El u):(jo u x).toD.sure=true:=by
 cases u with
 | st n=>cases h
 | _=>rfl
theorem Cg:∀ {us:List U} (_:us.all leaf=true) (x:Fl us),∀ d∈(fH us x).map C.toD,d.sure=true
 | [],_,_,d,hd=>by simp [fH] at hd
 | u::r,h,x,d,hd=>by
  simp only [adQ,ac9] at h;simp only [fH,List.map_cons,adK] at hd;rcases hd with rfl | hd
  ·exact EX h.1 _
  ·exact Cg h.2 _ d hd
theorem IW {u:U} (x:El u):∀ d∈aE u x,d.sure=true:=by
 rw [<- bS];cases u with
 | st n=>exact Cg (XY n) _
 | _=>intro d hd; rw [mv rfl] at hd; simp only [List.map_cons,List.map_nil,adM] at hd; subst hd; exact EX rfl _
theorem Mg {E:Ut} {t u0:TypeId} {x y:Operand} {d:Tmp} (hx:bh x=true) (hy:bh y=true) (hn:ND (lm s (evA s y)).m) (hop:∀ q,evA (lm s (evA s y)) x=.one (.c (.rf q))->okP (toM (lm s (evA s y)).m) q) (h:qW P E s t u0 x y d k):qt P (lm s (evA s y)).toS t u0 x y d (upS k):=by
 unfold qW at h;dsimp only at h;generalize hs1:lm s (evA s y)=s1 at h hn hop;split at h
 ·rename_i e ht;split at h
  ·rename_i u z he hz;split at h
   ·rename_i hc;simp only [ac9] at hc;obtain ⟨⟨⟨c1,c2⟩,c3⟩,c4⟩:=hc;have hsz:=adO c4
    split at h
    ·rename_i ys s2 sub l hsrc hbase;split at h
     ·rename_i hsub;obtain ⟨⟨h1,h2⟩,h3⟩:=h;obtain ⟨k1,k2⟩:=XO hsz hsrc;obtain ⟨b1,b2,_⟩:=A6 hsz hn hop hbase;unfold qt;dsimp only;rw [aF hy,wv k2,ht];dsimp only;refine ⟨c1,c2,by rw [hz]; simp only [Option.map_some]; rw [adO c3],?_⟩;rw [aF hy,aF hx,k1,b1];dsimp only;refine ⟨hsub,?_,by rw [adE,adE]; exact h1,by rw [adE,adE]; exact h2,_,?_,h3⟩
      ·intro r hr;obtain ⟨z',_,rfl⟩:=ad0.1 hr;exact ⟨by rw [kV]; exact hsz,IW z'⟩
      ·rw [<- fN b2];have er:(⟨false,[.ow sub u (l++ys)],none⟩:Rt).toR=⟨false,[.ow sub (l.map (aE u)++ys.map (aE u))]⟩:=by
        rw [<- ad5]; rfl
       rw [<- er];exact cN ((s2.fresh (.gh d)).root (.gh d) ⟨false,[.ow sub u (l++ys)],none⟩) (some d) (.one (.c (.rf ⟨.gh d,0,[]⟩)))
     ·exact h.elim
    ·exact h.elim
   ·exact h.elim
  ·exact h.elim
 ·exact h.elim
theorem JR {E:Ut} {t u0:TypeId} {x y:Operand} {d:Tmp} (hx:bh x=true) (hy:bh y=true) (hn:ND s.m) (hopy:∀ q,evA s y=.one (.c (.rf q))->okP (toM s.m) q)
  (hopx:∀ (size:Nat) (s1:St) (sub:List Sh) (l:List (List D)) q,ND s1.m->jc s.toS size (evA s y).toV=some (s1.toS,sub,l)->evA s1 x=.one (.c (.rf q))->okP (toM s1.m) q) (h:mH P E s t u0 x y d k):vh P s.toS t u0 x y d (upS k):=by
 unfold mH at h;split at h
 ·rename_i e ht;split at h
  ·rename_i u z he hz;split at h
   ·rename_i hc;simp only [ac9] at hc;obtain ⟨⟨⟨c1,c2⟩,c3⟩,c4⟩:=hc;have hsz:=adO c4
    split at h
    ·rename_i s1 sub1 ys hby;split at h
     ·rename_i s2 sub l hbx;split at h
      ·rename_i hsub;obtain ⟨⟨h1,h2⟩,h3⟩:=h;obtain ⟨a1,a2,_⟩:=A6 hsz hn hopy hby;obtain ⟨b1,b2,_⟩:=A6 hsz a2 (fun q hq=>hopx _ s1 _ _ q a2 a1 hq) hbx;unfold vh;rw [ht];dsimp only;refine ⟨c1,c2,by rw [hz]; simp only [Option.map_some]; rw [adO c3],?_⟩;rw [aF hy,a1];dsimp only;rw [aF hx,b1];dsimp only;have hlen:sub1.length=nc u:=by
        unfold ye at hby;split at hby
        ·simp only [ac8,Prod.mk.injEq] at hby;obtain ⟨_,rfl,_⟩:=hby; simp
        ·split at hby
         ·split at hby
          ·rename_i hb _;simp only [ac8,Prod.mk.injEq] at hby;obtain ⟨_,rfl,_⟩:=hby;exact adO hb
          ·cases hby
         ·cases hby
        ·cases hby
       refine ⟨qM hsub,?_,by rw [adE,adE]; exact h1,by rw [adE,adE]; exact h2,_,?_,h3⟩
       ·intro r hr;obtain ⟨z',_,rfl⟩:=ad0.1 hr;exact ⟨by rw [kV,hlen],IW z'⟩
       ·rw [<- fN b2];have er:(⟨false,[.ow sub u (l++ys)],none⟩:Rt).toR=⟨false,[.ow sub (l.map (aE u)++ys.map (aE u))]⟩:=by
         rw [<- ad5]; rfl
        rw [<- er];exact cN ((s2.fresh (.gh d)).root (.gh d) ⟨false,[.ow sub u (l++ys)],none⟩) (some d) (.one (.c (.rf ⟨.gh d,0,[]⟩)))
      ·exact h.elim
     ·exact h.elim
    ·exact h.elim
   ·exact h.elim
  ·exact h.elim
 ·exact h.elim
end
end Go.Am
end
