/-
  Part 13: AmY11 · AmZ1 · AmJoinW · AmE3 · AmE3b · AmE3c · AmE3d · AmE20 · AmAppTwo · AmBuildTwo · AmE3e · AmE5 · AmE6 · AmE7.
-/
import Derived.Test.YtlikflolhhlgjaaGreatDoorPa12
import Derived.Lib.Split
set_option linter.unusedSimpArgs false
set_option linter.unusedVariables false
set_option linter.unusedSectionVars false
set_option linter.unnecessarySimpa false
section
namespace Go.Am
open Go
set_option linter.unusedVariables false
set_option linter.unusedSimpArgs false
theorem law_blank (c:UInt8) (KK:Bool->Prop) (h:KK (Lt.blank c)):F_blank c KK:=by
 unfold F_blank
 unfold Lt.blank at h
 simp only [dec_byte]
 cases h1:decide (c=32) <;> simpa [h1] using h
theorem law_lWords (s:List UInt8) (hp:Lt.preLWords s) (KK:List (List UInt8)×Bool->Prop) (h:KK (Lt.lWords s)):F_lWords s KK:=by
 have hp:s.length<=1099511627776:=hp
 unfold F_lWords; dsimp only
 unfold Lt.lWords at h
 refine nat_loop _ (s.length+1) (fun i x=>(i<=s.length/\∃ out f w,x=(out,f,(i:Int))/\((f=-1/\w=[])\/∃ j:Nat,f=(j:Int)/\j<i/\w=(s.drop j).take (i-j))/\out.length<=i/\KK (Lt.lWordsG (s.drop i) w out))\/(i=s.length+1/\∃ out f,x=(out,f,(i:Int))/\KK (out,true))) (fun R i x hi hx hR=>?_) (fun R x hx=>?_) _ (Or.inl ⟨Nat.zero_le _,[],-1,[],rfl,.inl ⟨rfl,rfl⟩,Nat.le_refl _,h⟩)
 ·rcases hx with ⟨hi,out,f,w,rfl,hw,ho,hk⟩ | ⟨e,_⟩
  ·simp only [show decide ((i:Int)<=(s.length:Int))=true by simpa using hi,if_true,Int.toNat_natCast]
   refine fun _ J3 hJ3=>?_
   have w1:IntKind.i64.wrap ((i:Int)+1)=((i+1:Nat):Int):=wrap_succ (by omega)
   rw [w1] at hJ3
   have push:∀ B:List (List UInt8)->Prop,B (if w=[] then out else out++[w])->joinP (α:=List (List UInt8)) (fun J7=>if (decide (0<=f))=true then ((0:Int)<=f/\(0:Int)<=(i:Int)/\(f.toNat<=i/\i<=s.length)/\(out.length+[(s.drop f.toNat).take (i-f.toNat)].length<=4611686018427387904/\(out.length+[(s.drop f.toNat).take (i-f.toNat)].length)*16<=140737488355328)/\J7 (out++[(s.drop f.toNat).take (i-f.toNat)])) else (J7 out)) B:=by
    intro B hB J hJ
    rcases hw with ⟨rfl,rfl⟩ | ⟨j,rfl,hj,rfl⟩
    ·exact hJ _ hB
    ·rw [if_pos (by simp),Int.toNat_natCast]
     have hne:¬ (s.drop j).take (i-j)=[]:=by
      intro e
      have:=congrArg List.length e
      simp only [List.length_take,List.length_drop,List.length_nil] at this; omega
     rw [if_neg hne] at hB
     refine ⟨by omega,by omega,⟨by omega,hi⟩,⟨?_,?_⟩,hJ _ hB⟩ <;> rw [List.length_singleton] <;> omega
   have hol:(if w=[] then out else out++[w]).length<=i+1:=by
    split
    ·omega
    ·rw [List.length_append,List.length_singleton]; omega
   by_cases he:i=s.length
   ·refine fun J5 hJ5=>?_
    rw [show decide ((i:Int)=(s.length:Int))=true from decide_eq_true (by omega)]
    refine fun _=>(hJ5 true ?_)
    simp only [if_true]
    refine push _ (hJ3 _ (hR _ (.inr ⟨by omega,_,_,rfl,?_⟩)))
    rw [he,List.drop_length] at hk
    exact hk
   have hlt:i<s.length:=by omega
   have hd:s.drop i=s.getD i 0::s.drop (i+1):=by
    rw [List.drop_eq_getElem_cons hlt,List.getD,List.getElem?_eq_getElem hlt]; rfl
   have et:∀ j,j<=i->(s.drop j).take (i+1-j)=(s.drop j).take (i-j)++[s.getD i 0]:=by
    intro j hj
    have:=take_snoc (s.drop j) (i:=i-j) (by rw [List.length_drop]; omega)
    rw [show i+1-j=i-j+1 by omega,this]
    congr 2
    rw [List.getD,List.getElem?_drop,show j+(i-j)=i by omega]; rfl
   rw [hd,Lt.lWordsG] at hk
   rw [show decide ((i:Int)=(s.length:Int))=false from decide_eq_false (by omega)]
   refine fun J5 hJ5=>fun _=>⟨⟨by omega,hlt⟩,hJ5 _ ?_⟩
   refine ifk (fun hb=>?_) (fun hb=>?_)
   ·rw [if_pos hb] at hk
    refine push _ (hJ3 _ (hR _ (.inl ⟨by omega,_,_,_,rfl,.inl ⟨rfl,rfl⟩,hol,hk⟩)))
   ·rw [if_neg hb] at hk
    have e32:(32:UInt8).toNat=32:=rfl
    have e126:(126:UInt8).toNat=126:=rfl
    have bad:(s.getD i 0).toNat<=32\/126 < (s.getD i 0).toNat->KK ([],false):=fun hc=>by rw [if_pos hc] at hk; exact hk
    simp only [jn_and,jn_ite,jn_app,jval,e32,e126]
    refine ⟨⟨by omega,hlt⟩,ifk (fun c1=>?_) (fun c1=>⟨⟨by omega,hlt⟩,ifk (fun c2=>?_) (fun c2=>?_)⟩)⟩
    ·exact bad (by rw [decide_eq_true_eq] at c1; omega)
    ·exact bad (by rw [decide_eq_true_eq] at c2; omega)
    rw [decide_eq_true_eq] at c1 c2
    rw [if_neg (by omega)] at hk
    have fin:∀ f:Int,(∃ j:Nat,f=(j:Int)/\j<i+1/\w++[s.getD i 0]=(s.drop j).take (i+1-j))->J3 (out,f):=fun f hf=>hJ3 _ (hR _ (.inl ⟨by omega,_,_,_,rfl,.inr hf,by show out.length<=i+1; omega,hk⟩))
    rcases hw with ⟨rfl,rfl⟩ | ⟨j,rfl,hj,rfl⟩
    ·rw [if_pos (by simp)]
     exact fin _ ⟨i,rfl,by omega,by rw [et i (Nat.le_refl _)]; simp⟩
    ·rw [if_neg (by simp)]
     exact fin _ ⟨j,rfl,by omega,(et j (by omega)).symm⟩
  ·omega
 ·rcases hx with ⟨hi,_⟩ | ⟨_,out,f,rfl,hk⟩
  ·omega
  ·simp only [show decide (((s.length+1:Nat):Int)<=(s.length:Int))=false by simp; omega,Bool.false_eq_true,if_false]
   exact fun _=>hk
theorem one_pre (c b:UInt8) (s:List UInt8):([c]:List UInt8).isPrefixOf (b::s)=(c==b):=by
 simp [List.isPrefixOf]
theorem index_mid (c:UInt8):∀ a b:List UInt8,(∀ x∈a,x≠c)->Go.Lib.index (a++c::b) [c]=(a.length:Int)
 | [],b,_=>by rw [List.nil_append,Go.Lib.index]; simp [List.isPrefixOf]
 | x::a,b,h=>by
  have ih:=index_mid c a b (fun y hy=>h y (by simp [hy]))
  rw [List.cons_append,Go.Lib.index,one_pre,show (c==x)=false from beq_eq_false_iff_ne.2 (fun e=>h x (by simp) e.symm),ih]
  have:¬ ((a.length:Int) == -1)=true:=by simp
  simp only [Bool.false_eq_true,if_false,this]
  rfl
theorem index_no (c:UInt8):∀ a:List UInt8,(∀ x∈a,x≠c)->Go.Lib.index a [c]=-1
 | [],_=>by rw [Go.Lib.index]; simp
 | x::a,h=>by
  have ih:=index_no c a (fun y hy=>h y (by simp [hy]))
  rw [Go.Lib.index,one_pre,show (c==x)=false from beq_eq_false_iff_ne.2 (fun e=>h x (by simp) e.symm),ih]
  simp
theorem cut_at (c:UInt8):∀ s:List UInt8,(∀ x∈s,x≠c)\/∃ a b,s=a++c::b/\∀ x∈a,x≠c
 | []=>.inl (by simp)
 | x::s=>by
  by_cases hx:x=c
  ·subst hx; exact .inr ⟨[],s,rfl,by simp⟩
  ·have go:∀ a:List UInt8,(∀ y∈a,y≠c)->∀ y∈x::a,y≠c:=fun a h y hy=>(List.mem_cons.1 hy).elim (fun e=>e ▸ hx) (h y)
   rcases cut_at c s with h | ⟨a,b,rfl,h⟩
   ·exact .inl (go s h)
   ·exact .inr ⟨x::a,b,rfl,go a h⟩
theorem gSplit_no {s:List UInt8} {c:UInt8} (h:∀ x∈s,x≠c):Lt.gSplit s [c]=[s]:=by
 unfold Lt.gSplit
 rw [Go.Lib.splitB_data]
 have:Go.Lib.countB ⟨s.toArray⟩ ⟨[c].toArray⟩=0:=Go.Lib.count_miss (by simpa using index_no c s h)
 rw [this]; rfl
theorem gSplit_mid {a b:List UInt8} {c:UInt8} (h:∀ x∈a,x≠c):Lt.gSplit (a++c::b) [c]=a::Lt.gSplit b [c]:=by
 unfold Lt.gSplit
 rw [Go.Lib.splitB_data,Go.Lib.splitB_data]
 have hi:Go.Lib.index (a++c::b) [c]=(a.length:Int):=index_mid c a b h
 have hc:Go.Lib.countB ⟨(a++c::b).toArray⟩ ⟨[c].toArray⟩=1+Go.Lib.countB ⟨b.toArray⟩ ⟨[c].toArray⟩:=by
  have:=Go.Lib.count_hit (s:=a++c::b) (sub:=[c]) (i:=a.length) (by simp) hi
  have e:(a++c::b).drop (a.length+[c].length)=b:=by simp
  rw [e] at this
  exact this
 rw [hc,Nat.add_comm,Go.Lib.splitK]
 show (if Go.Lib.index (a++c::b) [c] == -1 then _ else _)=_
 have:¬ ((a.length:Int) == -1)=true:=by simp
 rw [hi,if_neg this]
 show (a++c::b).take ((a.length:Int).toNat+0)::Go.Lib.splitK [c] 0 _ ((a++c::b).drop ((a.length:Int).toNat+1))=_
 rw [Int.toNat_natCast]
 congr 1
 ·simp
 ·congr 1; simp
abbrev front (l:List UInt8):List UInt8:=(Lt.gCut l [59]).1
theorem front_no {l:List UInt8} (h:∀ x∈l,x≠59):front l=l:=by
 unfold front Lt.gCut Go.Lib.cut
 rw [index_no 59 l h]; simp
theorem front_mid {a b:List UInt8} (h:∀ x∈a,x≠59):front (a++59::b)=a:=by
 unfold front Lt.gCut Go.Lib.cut
 rw [index_mid 59 a b h]; simp
theorem bytes_bad:∀ (l:List UInt8) (k:Lt.Cut),k.bad=true->(l.foldl Lt.Cut.byte k).bad=true
 | [],k,h=>h
 | c::l,k,h=>by
  refine bytes_bad l _ ?_
  unfold Lt.Cut.byte Lt.Cut.word
  split
  ·exact h
  ·split
   ·exact h
   ·simp [h]
theorem bytes_out:∀ (l:List UInt8) (k:Lt.Cut),(l.foldl Lt.Cut.byte k).out=k.out/\(l.foldl Lt.Cut.byte k).n=k.n
 | [],k=>⟨rfl,rfl⟩
 | c::l,k=>by
  have ih:=bytes_out l (k.byte c)
  rw [List.foldl_cons,ih.1,ih.2]
  unfold Lt.Cut.byte Lt.Cut.word
  split
  ·exact ⟨rfl,rfl⟩
  ·split <;> exact ⟨rfl,rfl⟩
theorem bytes_remark:∀ (l:List UInt8) (k:Lt.Cut),k.remark=true->k.w=[]->(l.foldl Lt.Cut.byte k).word.l=k.l/\(l.foldl Lt.Cut.byte k).bad=k.bad
 | [],k,h,hw=>⟨by unfold Lt.Cut.word; simp [hw],rfl⟩
 | c::l,k,h,hw=>by
  have e:k.byte c=k:=by
   obtain ⟨o,L,w,n,r,b⟩:=k
   have h:r=true:=h
   have hw:w=[]:=hw
   subst h; subst hw
   unfold Lt.Cut.byte Lt.Cut.word
   split
   ·rfl
   ·rfl
  rw [List.foldl_cons,e]; exact bytes_remark l k h hw
theorem bytes_words:∀ (l:List UInt8) (k:Lt.Cut),(∀ x∈l,x≠59)->k.remark=false->k.bad=false ->
  (l.foldl Lt.Cut.byte k).remark=false/\(l.foldl Lt.Cut.byte k).bad=!(Lt.lWordsG l k.w k.l).2/\((Lt.lWordsG l k.w k.l).2=true->(l.foldl Lt.Cut.byte k).word.l=(Lt.lWordsG l k.w k.l).1)
 | [],k,_,hr,hb=>by
  refine ⟨hr,by rw [Lt.lWordsG]; exact hb,fun _=>?_⟩
  rw [Lt.lWordsG]; rfl
 | c::l,k,h,hr,hb=>by
  have h59:¬ c=59:=h c (by simp)
  have h':∀ x∈l,x≠59:=fun x hx=>h x (by simp [hx])
  rw [List.foldl_cons,Lt.lWordsG]
  by_cases hbl:Lt.blank c=true
  ·rw [if_pos hbl]
   have e:k.byte c=k.word:=by
    unfold Lt.Cut.byte
    rw [if_neg h59,if_pos]
    unfold Lt.blank at hbl
    rw [hr]
    simpa using hbl
   rw [e]
   exact bytes_words l k.word h' hr hb
  ·rw [if_neg hbl]
   have e:k.byte c={ k with bad:=k.bad||(decide (c.toNat < 33)||decide (126<c.toNat)),w:=k.w++[c] }:=by
    unfold Lt.Cut.byte
    rw [if_neg h59,if_neg]
    unfold Lt.blank at hbl
    rw [hr]
    simpa using hbl
   rw [e]
   by_cases hc:c.toNat<=32\/126<c.toNat
   ·rw [if_pos hc]
    have hbad:(decide (c.toNat < 33)||decide (126<c.toNat))=true:=by simp; omega
    rw [hb,hbad]
    refine ⟨?_,?_,fun h=>by simp at h⟩
    ·have hrr:∀ (l:List UInt8) (k:Lt.Cut),(∀ x∈l,x≠59)->k.remark=false->(l.foldl Lt.Cut.byte k).remark=false:=by
      intro l
      induction l with
      | nil=>intro k _ h; exact h
      | cons d l ih=>
       intro k h1 h2
       refine ih _ (fun x hx=>h1 x (by simp [hx])) ?_
       unfold Lt.Cut.byte Lt.Cut.word
       rw [if_neg (h1 d (by simp))]
       split <;> exact h2
     exact hrr l _ h' hr
    ·rw [bytes_bad l _ rfl]; rfl
   ·rw [if_neg hc]
    have hbad:(decide (c.toNat < 33)||decide (126<c.toNat))=false:=by simp; omega
    rw [hb,hbad]
    exact bytes_words l ⟨k.out,k.l,k.w++[c],k.n,k.remark,false⟩ h' hr rfl
theorem bytes_line (l:List UInt8) (out:List Lt.RLine) (n:Int):(l.foldl Lt.Cut.byte ⟨out,[],[],n,false,false⟩).bad=!(Lt.lWords (front l)).2 /\
  ((Lt.lWords (front l)).2=true->(l.foldl Lt.Cut.byte ⟨out,[],[],n,false,false⟩).line=⟨if (Lt.lWords (front l)).1=[] then out else out++[⟨n,(Lt.lWords (front l)).1⟩],[],[],n+1,false,false⟩):=by
 have fin:∀ k:Lt.Cut,k.out=out->k.n=n->k.bad=!(Lt.lWords (front l)).2->((Lt.lWords (front l)).2=true->k.word.l=(Lt.lWords (front l)).1)->k.bad=!(Lt.lWords (front l)).2/\((Lt.lWords (front l)).2=true->k.line=⟨if (Lt.lWords (front l)).1=[] then out else out++[⟨n,(Lt.lWords (front l)).1⟩],[],[],n+1,false,false⟩):=by
  intro k h1 h2 h3 h4
  refine ⟨h3,fun hok=>?_⟩
  unfold Lt.Cut.line
  rw [h4 hok,h1,h2,h3,hok]; rfl
 have ho:=bytes_out l ⟨out,[],[],n,false,false⟩
 refine fin _ ho.1 ho.2 ?_ ?_
 ·rcases cut_at 59 l with h | ⟨a,b,rfl,h⟩
  ·rw [front_no h]; exact (bytes_words l ⟨out,[],[],n,false,false⟩ h rfl rfl).2.1
  ·rw [front_mid h,List.foldl_append,List.foldl_cons]
   obtain ⟨h1,h2,h3⟩:=bytes_words a ⟨out,[],[],n,false,false⟩ h rfl rfl
   have e:(a.foldl Lt.Cut.byte ⟨out,[],[],n,false,false⟩).byte 59={ (a.foldl Lt.Cut.byte ⟨out,[],[],n,false,false⟩).word with remark:=true }:=by
    unfold Lt.Cut.byte; rw [if_pos rfl]
   rw [e,(bytes_remark b _ rfl rfl).2]
   exact h2
 ·rcases cut_at 59 l with h | ⟨a,b,rfl,h⟩
  ·rw [front_no h]; exact (bytes_words l ⟨out,[],[],n,false,false⟩ h rfl rfl).2.2
  ·rw [front_mid h,List.foldl_append,List.foldl_cons]
   obtain ⟨h1,h2,h3⟩:=bytes_words a ⟨out,[],[],n,false,false⟩ h rfl rfl
   have e:(a.foldl Lt.Cut.byte ⟨out,[],[],n,false,false⟩).byte 59={ (a.foldl Lt.Cut.byte ⟨out,[],[],n,false,false⟩).word with remark:=true }:=by
    unfold Lt.Cut.byte; rw [if_pos rfl]
   rw [e,(bytes_remark b _ rfl rfl).1]
   exact h3
theorem byte_line:∀ (l r:List UInt8) (k:Lt.Cut),(∀ x∈l,x≠10)->Lt.sSplitG (l++r) k=Lt.sSplitG r (l.foldl Lt.Cut.byte k)
 | [],r,k,_=>rfl
 | c::l,r,k,h=>by
  rw [List.cons_append,Lt.sSplitG,if_neg (h c (by simp)),byte_line l r _ (fun x hx=>h x (by simp [hx]))]; rfl
def linesG:List (List UInt8)->Int->List Lt.RLine->List Lt.RLine×Int×Int
 | [],_,out=>(out,0,0)
 | l::r,n,out=>if (Lt.lWords (front l)).2 then linesG r (n+1) (if (Lt.lWords (front l)).1=[] then out else out++[⟨n,(Lt.lWords (front l)).1⟩]) else ([],n,3)
theorem byte_lines:∀ (m:Nat) (s:List UInt8) (n:Int) (out:List Lt.RLine),s.length<=m->Lt.sSplitG s ⟨out,[],[],n,false,false⟩=linesG (Lt.gSplit s [10]) n out:=by
 intro m
 induction m with
 | zero=>
  intro s n out hs
  have:s=[]:=List.length_eq_zero_iff.1 (by omega)
  subst this
  rw [gSplit_no (by simp)]
  rfl
 | succ m ih=>
  intro s n out hs
  rcases cut_at 10 s with h | ⟨a,b,rfl,h⟩
  ·rw [gSplit_no h]
   have:=byte_line s [] ⟨out,[],[],n,false,false⟩ h
   rw [List.append_nil] at this
   rw [this,Lt.sSplitG,linesG]
   obtain ⟨h1,h2⟩:=bytes_line s out n
   rw [h1]
   cases hok:(Lt.lWords (front s)).2 with
   | false=>simp [(bytes_out s ⟨out,[],[],n,false,false⟩).2]
   | true=>simp [h2 hok,linesG]
  ·rw [gSplit_mid h,byte_line a _ _ h,Lt.sSplitG,if_pos rfl,linesG]
   obtain ⟨h1,h2⟩:=bytes_line a out n
   rw [h1]
   cases hok:(Lt.lWords (front a)).2 with
   | false=>simp [(bytes_out a ⟨out,[],[],n,false,false⟩).2]
   | true=>
    simp only [Bool.not_true,Bool.false_eq_true,if_false,if_true]
    rw [h2 hok]
    exact ih b _ _ (by simp only [List.length_append,List.length_cons] at hs; omega)
theorem gSplit_len:∀ (m:Nat) (s:List UInt8),s.length<=m->(Lt.gSplit s [10]).length<=s.length+1/\∀ l∈Lt.gSplit s [10],l.length<=s.length:=by
 intro m
 induction m with
 | zero=>
  intro s hs
  have:s=[]:=List.length_eq_zero_iff.1 (by omega)
  subst this
  rw [gSplit_no (by simp)]; simp
 | succ m ih=>
  intro s hs
  rcases cut_at 10 s with h | ⟨a,b,rfl,h⟩
  ·rw [gSplit_no h]; simp
  ·rw [gSplit_mid h]
   have hl:(a++10::b).length=a.length+(b.length+1):=by simp
   obtain ⟨h1,h2⟩:=ih b (by omega)
   refine ⟨by rw [List.length_cons,hl]; omega,fun l hm=>?_⟩
   rcases List.mem_cons.1 hm with rfl | hm
   ·omega
   ·have:=h2 l hm; omega
theorem front_len (l:List UInt8):(front l).length<=l.length:=by
 rcases cut_at 59 l with h | ⟨a,b,rfl,h⟩
 ·rw [front_no h]; exact Nat.le_refl _
 ·rw [front_mid h]; simp
theorem law_lSplit (s:List UInt8) (KK:List Lt.Line×Int×Int->Prop) (h:KK (Lt.lSplit s)):F_lSplit s KK:=by
 unfold F_lSplit; dsimp only
 unfold Lt.lSplit Lt.sSplit at h
 refine fun _=>ifk (fun hc=>?_) (fun hc=>?_)
 ·rw [if_pos (by simp at hc; omega)] at h; exact h
 have hs:s.length<=4194304:=by simp at hc; omega
 rw [if_neg (by omega),byte_lines _ s 1 [] (Nat.le_refl _)] at h
 obtain ⟨hl1,hl2⟩:=gSplit_len _ s (Nat.le_refl _)
 generalize Lt.gSplit s [10]=L at h hl1 hl2 ⊢
 refine ⟨⟨by omega,by decide⟩,fun _=>?_⟩
 refine nat_loop _ L.length (fun i x=>∃ out:List Lt.RLine,x=(out.map fun l=>(⟨l.N,l.Words⟩:Lt.Line),(i:Int))/\out.length<=i/\KK ((linesG (L.drop i) ((i:Int)+1) out).1.map fun l=>(⟨l.N,l.Words⟩:Lt.Line),(linesG (L.drop i) ((i:Int)+1) out).2.1,(linesG (L.drop i) ((i:Int)+1) out).2.2)) (fun R i x hi hx hR=>?_) (fun R x hx=>?_) _ ⟨[],rfl,Nat.le_refl _,by simpa using h⟩
 ·obtain ⟨out,rfl,ho,hk⟩:=hx
  simp only [lt_t hi,if_true,Int.toNat_natCast]
  have hlen:=hl2 _ (mem_getD L hi)
  have hd:L.drop i=L.getD i default::L.drop (i+1):=by
   rw [List.drop_eq_getElem_cons hi,List.getD,List.getElem?_eq_getElem hi]; rfl
  rw [hd,linesG] at hk
  have hfl:=front_len (L.getD i default)
  simp only [show IntKind.i64.wrap ((i:Int)+1)=((i:Int)+1) from wrap_i64 (by omega) (by omega),jn_and,jn_ite,jn_imp,jn_app,jn_const]
  refine ⟨⟨by omega,hi⟩,by show (L.getD i default).length < 4294967281; omega,by show (front (L.getD i default)).length<=1099511627776; omega,?_⟩
  by_cases hok:(Lt.lWords (front (L.getD i default))).2=true
  ·rw [if_pos hok] at hk
   refine ifk (fun hc=>by rw [hok] at hc; simp at hc) (fun _=>fun _=>?_)
   refine ifk (fun hc=>?_) (fun hc=>?_)
   ·have hne:¬ (Lt.lWords (front (L.getD i default))).1=[]:=by intro e; rw [decide_eq_true_eq,e] at hc; simp at hc
    rw [if_neg hne] at hk
    refine ⟨⟨by simp; omega,by simp; omega⟩,hR _ ⟨out++[⟨(i:Int)+1,(Lt.lWords (front (L.getD i default))).1⟩],?_,by simp; omega,by rw [show ((i+1:Nat):Int)=(i:Int)+1 from rfl]; exact hk⟩⟩
    rw [List.map_append]; rfl
   ·have hne:(Lt.lWords (front (L.getD i default))).1=[]:=by
     cases hh:(Lt.lWords (front (L.getD i default))).1 with
     | nil=>rfl
     | cons a b=>rw [decide_eq_true_eq,hh] at hc; simp at hc
    rw [if_pos hne] at hk
    exact hR _ ⟨out,rfl,by omega,by rw [show ((i+1:Nat):Int)=(i:Int)+1 from rfl]; exact hk⟩
  ·rw [if_neg hok] at hk
   exact ifk (fun _=>hk) (fun hc=>absurd (by rw [Bool.eq_false_iff.2 hok]; rfl) hc)
 ·obtain ⟨out,rfl,ho,hk⟩:=hx
  rw [List.drop_length,linesG] at hk
  simp only [lt_f,Bool.false_eq_true,if_false]
  exact hk
end Go.Am
end

section
namespace Go.Am
open Go
set_option linter.unusedVariables false
set_option linter.unusedSimpArgs false
def ex1:List UInt8:=[102,117,110,99,32,102,32,105,110,116,10,98,108,111,99,107,32,98,10,120,32,61,32,97,100,100,32,49,32,121,10,114,101,116,32,120,10]
theorem ex1_eq:Lt.yParse ex1=(⟨false,[],[],[],[⟨[102],[105,110,116],[],[],[⟨[98],[],[⟨1,[120],[],[⟨2,[],1⟩,⟨1,[121],0⟩],[],[]⟩],⟨3,⟨1,[120],0⟩,[],0⟩⟩]⟩]⟩,0,0):=by decide +kernel
theorem ex2_eq:(Lt.yParse [120,32,61,32,97,100,100,32,49,32,50]).2=(1,3):=by decide +kernel
theorem ex3_eq:(Lt.yParse [102,117,110,99,32,102,32,105,110,116,10]).2=(0,3):=by decide +kernel
theorem law_awake5 (KK:Bool->Prop) (h:KK Lt.awake5):F_awake5 KK:=by
 unfold F_awake5; dsimp only
 have e1:=ex1_eq
 unfold ex1 at e1
 simp only [e1,ex2_eq,ex3_eq]
 simp [jn_app]
 exact h
theorem law_SyntaxParses (s:List UInt8) (KK:Bool->Prop) (h:KK (Lt.SyntaxParses s)):F_SyntaxParses s KK:=by
 have h:KK true:=h
 unfold F_SyntaxParses Lt.yParse Lt.awake5
 have:∀ p:Lt.Program,Lt.Same p p=true:=fun p=>by simp [Lt.Same]
 simp only [this,decide_true,if_true,jn_app]
 exact h
end Go.Am
end

section
namespace Go.Am
open Go.RowKit Go.Proofs
set_option linter.unusedSimpArgs false
set_option linter.unusedVariables false
abbrev bp (b:Nat):AV:=.one (.c (.d (.v (.pointer (some ⟨b,0,none⟩)))))
def ii (n:Nat):AV:=.one (.c (.d (.int .i64 (n:Int))))
def jst (b:Nat) (ls:List Lt.Line) (i:Nat):S:=⟨[(3,bp b),(8,.one (.c (.d (.li (ls.map Lt.Line.enc))))),(9,ii ls.length),(10,ii i)],[]⟩
def jst2 (b:Nat) (ls:List Lt.Line) (i:Nat) (ws:List (List UInt8)) (j:Nat):S:=⟨[(3,bp b),(8,.one (.c (.d (.li (ls.map Lt.Line.enc))))),(9,ii ls.length),(10,ii i),(15,.one (.c (.d (.li (ws.map rS.enc))))),(16,ii ws.length),(17,ii j)],[]⟩
attribute [push_cast] bp ii jst jst2
def C_join:CK1:=pureC (fn1 (cL Lt.Line.rw) (o1 cS) (fun ls=>(Lt.joinB ls).length<=140737488355328) Lt.joinB)
attribute [push_cast] C_join
end Go.Am
end

section
namespace Go.Am
theorem toA_sct (c:C):(sct c).toV=sc c.toD:=rfl
theorem byte_toNat {n:Int} (h:0<=n/\n < 256):(((UInt8.ofNat n.toNat).toNat:Nat):Int)=n:=by
 have:n.toNat < 256:=by omega
 simp only [UInt8.toNat_ofNat',Nat.reducePow]
 omega
theorem byte_lt (x:UInt8):0<=((x.toNat:Nat):Int)/\((x.toNat:Nat):Int) < 256:=by
 have:=x.toNat_lt
 omega
theorem mkC_toD {k:IntKind} {n:Int} (h:k=.u8->0<=n/\n < 256):(mkC k n).toD=.int k n:=by
 cases k with
 | u8=>show D.int .u8 _=_; rw [byte_toNat (h rfl)]
 | _=>rfl
theorem wrap8 (n:Int):0<=IntKind.u8.wrap n/\IntKind.u8.wrap n < 256:=by
 have:=wf_wrap (k:=.u8) n
 simp only [Lit.wf,Bool.and_eq_true,decide_eq_true_eq] at this
 have h1:IntKind.u8.min=0:=by decide
 have h2:IntKind.u8.max=255:=by decide
 rw [h1,h2] at this
 omega
theorem mkC_wrap {k:IntKind} {n:Int}:(mkC k (k.wrap n)).toD=.int k (k.wrap n):=mkC_toD fun h=>by subst h; exact wrap8 n
theorem intOf_toD {c:C} {k:IntKind} {n:Int} (h:intOf c=some (k,n)):c.toD=.int k n/\(k=.u8->0<=n/\n < 256):=by
 unfold intOf at h
 split at h
 ·rename_i k' n'
  cases k' <;> simp only [Option.some.injEq,Prod.mk.injEq,reduceCtorEq] at h <;> (obtain ⟨rfl,rfl⟩:=h; exact ⟨rfl,fun h=>by cases h⟩)
 ·rename_i x
  simp only [Option.some.injEq,Prod.mk.injEq] at h
  obtain ⟨rfl,rfl⟩:=h
  exact ⟨rfl,fun _=>byte_lt x⟩
 ·cases h
theorem globT_gw {k:Nat} {row:List D} (h:globT k=some row):row=gw.map D.str:=by
 unfold globT at h
 split at h
 ·first | (cases h; done) | (simp only [Option.some.injEq] at h; exact h.symm)
 ·cases h
theorem cstTt_toT {v:Value} (h:okT v=true):(cstTt v).toT=cstT v:=by
 cases v with
 | int k n=>
  simp only [cstTt,cstT]
  cases k with
  | u8=>
   simp only [okT,Lit.wf,Bool.and_eq_true,decide_eq_true_eq] at h
   have h1:IntKind.u8.min=0:=by decide
   have h2:IntKind.u8.max=255:=by decide
   rw [h1,h2] at h
   have h':0<=n/\n < 256:=by omega
   simp only [h',and_self,if_true,Tt.toT,C.toD,byte_toNat h']
  | _=>rfl
 | slice a l c=>cases a with
  | none=>match l,c with
   | 0,0=>rfl
   | 0,_+1=>rfl
   | _+1,_=>rfl
  | some _=>rfl
 | pointer p=>cases p <;> rfl
 | map p=>cases p <;> rfl
 | _=>rfl
theorem evA_toV {s:St} {x:Operand} (h:okOp x=true):ev s.toS x=(evA s x).toV:=by
 cases x with
 | tmp t=>exact gtA_toS t s.t
 | const v=>
  simp only [okOp] at h
  cases v with
  | agg cs=>
   simp only [ev,evA,cst,cstA,At.toV,A1.toV]
   congr 2
   rw [List.map_map]
   refine List.map_congr_left fun x hx=>?_
   simp only [okC] at h
   exact (cstTt_toT (Array.all_eq_true_iff_forall_mem.1 h x (by simpa using hx))).symm
  | _=>
   simp only [ev,evA,cst,cstA,At.toV,A1.toV]
   rw [cstTt_toT (by simpa [okC] using h)]
 | func f=>rfl
 | global g=>
  simp only [okOp] at h
  simp only [ev,evA,globC]
  cases hg:globT g with
  | none=>rw [hg] at h; cases h
  | some row=>
   simp only [At.toV,A1.toV,Tt.toT,globT_gw hg]
   rfl
section
variable {k:At->Prop}
abbrev up (k:At->Prop):AV->Prop:=fun v=>∃ v',v=v'.toV/\k v'
theorem up_sct {c:C} {d:D} (h:k (sct c)) (e:c.toD=d):up k (sc d):=⟨sct c,by rw [toA_sct,e],h⟩
theorem pickT_ok {c x y:At} (h:pickT c x y k):pickK c.toV x.toV y.toV (up k):=by
 unfold pickT at h
 split at h
 ·rename_i b
  cases b
  ·rw [if_neg (by simp)] at h; exact ⟨y,rfl,h⟩
  ·rw [if_pos rfl] at h; exact ⟨x,rfl,h⟩
 ·exact h.elim
theorem tmod8 {a b:Int} (ha:0<=a/\a < 256):0<=a.tmod b/\a.tmod b < 256:=by
 refine ⟨Int.tmod_nonneg _ ha.1,?_⟩
 rcases Int.lt_or_le b 0 with h | h
 ·rw [<- Int.tmod_neg]
  rcases Int.lt_or_le a (-b) with h' | h'
  ·rw [Int.tmod_eq_of_lt ha.1 h']; exact ha.2
  ·have:=Int.tmod_lt_of_pos a (show 0 < -b by omega); omega
 ·rcases Int.lt_or_le a b with h' | h'
  ·rw [Int.tmod_eq_of_lt ha.1 h']; exact ha.2
  ·rcases Int.lt_or_eq_of_le h with h'' | h''
   ·have:=Int.tmod_lt_of_pos a h''; omega
   ·subst h''; rw [Int.tmod_zero]; exact ha.2
theorem fdiv8 {a:Int} {m:Nat} (ha:0<=a/\a < 256):0<=a.fdiv (2 ^ m)/\a.fdiv (2 ^ m) < 256:=by
 have hp:(0:Int) < 2 ^ m:=Int.pow_pos (by decide)
 rw [Int.fdiv_eq_ediv_of_nonneg _ (by omega)]
 refine ⟨Int.ediv_nonneg ha.1 (by omega),?_⟩
 have:=Int.ediv_le_self (2 ^ m) ha.1
 omega
theorem binC_ok {op:BinOp} {x y:C} {K:C->Prop} (h:binC op x y K):binD op x.toD y.toD (fun d=>∃ c:C,c.toD=d/\K c):=by
 unfold binC at h
 split at h
 ·rename_i a b
  cases op <;> first | exact h.elim | exact ⟨_,rfl,h⟩ | exact ⟨h.1,_,rfl,h.2⟩
 ·split at h
  ·rename_i k a k' b hx hy
   obtain ⟨ex,rx⟩:=intOf_toD hx
   obtain ⟨ey,ry⟩:=intOf_toD hy
   rw [ex,ey]
   split at h
   ·rename_i hk
    unfold numT at h
    cases op <;> simp only [isSh,Bool.false_eq_true,false_or,true_or] at hk <;> simp only [binD]
    case add=>exact ⟨hk,_,mkC_wrap,h⟩
    case sub=>exact ⟨hk,_,mkC_wrap,h⟩
    case mul=>exact ⟨hk,_,mkC_wrap,h⟩
    case quo=>exact ⟨hk,h.1,_,mkC_wrap,h.2⟩
    case rem=>exact ⟨hk,h.1,_,mkC_toD fun e=>tmod8 (rx e),h.2⟩
    case and=>exact ⟨hk,_,mkC_wrap,h⟩
    case or=>exact ⟨hk,_,mkC_wrap,h⟩
    case xor=>exact ⟨hk,_,mkC_wrap,h⟩
    case andNot=>exact ⟨hk,_,mkC_wrap,h⟩
    case shl=>exact ⟨h.1,_,mkC_wrap,h.2⟩
    case shr=>exact ⟨h.1,_,mkC_toD fun e=>fdiv8 (rx e),h.2⟩
    case eql=>exact ⟨hk,_,rfl,h⟩
    case neq=>exact ⟨hk,_,rfl,h⟩
    case lss=>exact ⟨hk,_,rfl,h⟩
    case leq=>exact ⟨hk,_,rfl,h⟩
    case gtr=>exact ⟨hk,_,rfl,h⟩
    case geq=>exact ⟨hk,_,rfl,h⟩
   ·exact h.elim
  ·exact h.elim
theorem binD_mono' {op:BinOp} {x y:D} {K K':D->Prop} (hk:∀ d,K d->K' d) (h:binD op x y K):binD op x y K':=by
 cases x <;> cases y <;> try exact h.elim
 ·cases op <;> simp only [binD] at h ⊢ <;> first | exact ⟨h.1,h.2.1,hk _ h.2.2⟩ | exact ⟨h.1,hk _ h.2⟩
 ·cases op <;> simp only [binD] at h ⊢ <;> first | exact ⟨h.1,hk _ h.2⟩ | exact hk _ h | exact h.elim
theorem eqC_ok {ck:CK} {x y:C} {b:Bool} (h:eqC ck x y=some b):eqD ck x.toD y.toD=some b:=by
 unfold eqC at h
 cases ck with
 | i=>
  dsimp only at h
  split at h
  ·rename_i k a k' b' hx hy
   rw [(intOf_toD hx).1,(intOf_toD hy).1]; exact h
  ·cases h
 | s=>
  dsimp only at h
  split at h
  ·exact h
  ·cases h
 | b=>
  dsimp only at h
  split at h
  ·exact h
  ·cases h
theorem eqCs_ok:∀ {l:List (Nat×CK)} {xs ys:List C} {b:Bool},eqCs l xs ys=some b->eqDs l (xs.map C.toD) (ys.map C.toD)=some b
 | [],_,_,_,h=>h
 | (o,ck)::l,xs,ys,b,h=>by
  unfold eqCs at h
  unfold eqDs
  rw [List.getElem?_map,List.getElem?_map]
  cases hx:xs[o]? with
  | none=>rw [hx] at h; cases h
  | some x=>
   cases hy:ys[o]? with
   | none=>rw [hx,hy] at h; cases h
   | some y=>
    rw [hx,hy] at h
    dsimp only [Option.map_some] at h ⊢
    cases he:eqC ck x y with
    | none=>rw [he] at h; cases h
    | some c=>
     rw [he] at h
     rw [eqC_ok he]
     cases l with
     | nil=>exact h
     | cons z l=>
      dsimp only at h ⊢
      cases hr:eqCs (z::l) xs ys with
      | none=>rw [hr] at h; cases h
      | some r=>rw [hr] at h; rw [eqCs_ok hr]; exact h
theorem TC_toD (t:Tt) (h:TD t.toT≠.any\/True):(TC t).toD=TD t.toT:=by
 cases t <;> rfl
theorem binT_ok {P:Program} {op:BinOp} {t:TypeId} {x y:At} (h:binT P op t x y k):binK P op t x.toV y.toV (up k):=by
 unfold binT at h
 split at h
 ·rename_i a b
  split at h
  ·rename_i ht
   refine ⟨ht,?_⟩
   cases op <;> first | exact h.elim | exact ⟨_,rfl,h⟩
  ·exact h.elim
 ·rename_i a b hne
  have h':=binC_ok h
  have key:binD op a.toD b.toD (fun d=>up k (sc d)):=by
   refine binD_mono' ?_ h'
   rintro d ⟨c,rfl,hc⟩
   exact ⟨sct c,rfl,hc⟩
  cases a with
  | bo a=>cases b with
   | bo b=>exact (hne a b rfl rfl).elim
   | _=>exact key
  | _=>exact key
 ·rename_i xs ys
  split at h
  ·rename_i l hl
   have e1:(xs.map Tt.toT).map TD=(xs.map TC).map C.toD:=by
    rw [List.map_map,List.map_map]; exact List.map_congr_left fun t _=>(TC_toD t (.inr trivial)).symm
   have e2:(ys.map Tt.toT).map TD=(ys.map TC).map C.toD:=by
    rw [List.map_map,List.map_map]; exact List.map_congr_left fun t _=>(TC_toD t (.inr trivial)).symm
   simp only [At.toV,A1.toV,binK]
   rw [hl,e1,e2]
   dsimp only
   split at h
   ·rename_i b hb
    rw [eqCs_ok hb]; exact ⟨_,rfl,h⟩
   ·rename_i b hb
    rw [eqCs_ok hb]; exact ⟨_,rfl,h⟩
   ·exact h.elim
  ·exact h.elim
 ·exact h.elim
theorem unT_ok {op:UnOp} {x:At} (h:unT op x k):unK op x.toV (up k):=by
 unfold unT at h
 split at h
 ·exact ⟨_,rfl,h⟩
 ·rename_i c
  split at h
  ·rename_i κ n hc
   simp only [At.toV,A1.toV,Tt.toT,(intOf_toD hc).1]
   exact up_sct h mkC_wrap
  ·exact h.elim
 ·rename_i c
  split at h
  ·rename_i κ n hc
   simp only [At.toV,A1.toV,Tt.toT,(intOf_toD hc).1]
   exact up_sct h mkC_wrap
  ·exact h.elim
 ·exact h.elim
theorem extractT_ok {x:At} {i:Nat} (h:extractT x i k):extractK x.toV i (up k):=by
 unfold extractT at h
 split at h
 ·rename_i vs
  split at h
  ·rename_i v hv
   simp only [At.toV,extractK,List.getElem?_map,hv,Option.map_some]
   exact ⟨.one v,rfl,h⟩
  ·exact h.elim
 ·exact h.elim
theorem strAtT_ok {x i:At} (h:strAtT x i k):strAtK x.toV i.toV (up k):=by
 unfold strAtT at h
 split at h
 ·rename_i l κ n
  obtain ⟨⟨h1,h2⟩,h3⟩:=h
  simp only [At.toV,A1.toV,Tt.toT,C.toD,strAtK]
  refine ⟨h1,?_⟩
  rw [List.getElem?_eq_getElem h2]
  dsimp only
  refine ⟨_,?_,h3⟩
  rw [toA_sct]
  simp only [C.toD]
  rw [List.getD,List.getElem?_eq_getElem h2]; rfl
 ·exact h.elim
theorem nilCheckT_ok {x:At} (h:nilCheckT x k):nilCheckK x.toV (up k):=by
 unfold nilCheckT at h
 split at h
 ·exact ⟨_,rfl,h⟩
 ·exact ⟨_,rfl,h⟩
 ·exact ⟨_,rfl,h⟩
 ·exact h.elim
theorem fieldT_ok {P:Program} {t:TypeId} {x:At} {i:Nat} (h:fieldT P t x i k):fieldK P t x.toV i (up k):=by
 unfold fieldT at h
 split at h
 ·rename_i fs ts hk
  simp only [At.toV,A1.toV,fieldK]
  rw [hk]
  dsimp only
  cases hf:fs[i]? with
  | none=>rw [hf] at h; exact h.elim
  | some f=>
   obtain ⟨off,size,ag⟩:=f
   rw [hf] at h
   match ag,h with
   | some false,h=>
    dsimp only at h ⊢
    rw [List.getElem?_map]
    cases ht:ts[off]? with
    | none=>rw [ht] at h; exact h.elim
    | some t'=>rw [ht] at h; exact ⟨_,rfl,h⟩
   | some true,h=>
    dsimp only at h ⊢
    split at h
    ·rename_i hb
     refine ⟨by rw [List.length_map]; exact Nat.le_of_ble_eq_true hb,.one (.agg ((ts.drop off).take size)),?_,h⟩
     simp only [At.toV,A1.toV,List.map_take,List.map_drop]
    ·exact h.elim
   | none,h=>exact h.elim
 ·exact h.elim
theorem convT_ok {P:Program} {su du:TypeId} {x:At} (h:convT P su du x k):convK P su du x.toV (up k):=by
 unfold convT at h
 split at h
 ·rename_i κ0 κ h1 h2
  split at h
  ·rename_i c
   split at h
   ·rename_i κ1 n hc
    simp only [At.toV,A1.toV,Tt.toT,(intOf_toD hc).1,convK,h1,h2]
    exact up_sct h mkC_wrap
   ·exact h.elim
  ·exact h.elim
 ·rename_i e h1 h2
  split at h
  ·rename_i h3
   split at h
   ·rename_i l
    simp only [At.toV,A1.toV,Tt.toT,C.toD,convK,h1,h2]
    refine ⟨h3,?_⟩
    have:∀ l:List UInt8,decBy (l.map (encU .b8))=some l:=by
     intro l
     induction l with
     | nil=>rfl
     | cons a l ih=>
      simp only [List.map_cons,encU,decBy]
      have ih':decBy (l.map (encU .b8))=some l:=ih
      simp only [encU] at ih'
      first
       | rw [ih']
       | (show (decBy (l.map (encU .b8))).map _=_; rw [ih])
      simp
    rw [this l]
    exact ⟨_,rfl,h⟩
   ·simp only [At.toV,A1.toV,Tt.toT,convK,h1,h2]
    exact ⟨h3,_,rfl,h⟩
   ·exact h.elim
  ·exact h.elim
 ·exact h.elim
end
end Go.Am
end

section
namespace Go.Am
theorem sure_toT (t:Tt):t.toT.sure=t.sure:=by
 cases t with
 | d c=>cases c <;> rfl
 | _=>rfl
def RH (t:Tt) (t':T):Prop:=t'=t.toT\/∃ sh u l,∃ l':List (List D),t=.ow sh u l/\t'=.ow sh l'/\l'.length=l.length
structure HL (ts:List Tt) (ts':List T):Prop where
 len:ts'.length=ts.length
 nth:∀ (i:Nat) (t:Tt) (t':T),ts[i]? = some t->ts'[i]? = some t'->RH t t'
theorem HL_map (ts:List Tt):HL ts (ts.map Tt.toT):=by
 refine ⟨by simp,fun i t t' h h'=>?_⟩
 rw [List.getElem?_map,h] at h'
 exact .inl (Option.some.inj h').symm
theorem HL.drop {ts:List Tt} {ts':List T} (h:HL ts ts') (n:Nat):HL (ts.drop n) (ts'.drop n):=
 ⟨by simp [h.len],fun i t t' h1 h2=>by rw [List.getElem?_drop] at h1 h2; exact h.nth _ t t' h1 h2⟩
theorem HL.take {ts:List Tt} {ts':List T} (h:HL ts ts') (n:Nat):HL (ts.take n) (ts'.take n):=
 ⟨by simp [h.len],fun i t t' h1 h2=>by
  rw [List.getElem?_take] at h1 h2
  split at h1
  ·rename_i hi; rw [if_pos hi] at h2; exact h.nth _ t t' h1 h2
  ·cases h1⟩
theorem length_setO:∀ (q:List Step) (sub:List Sh) (l:List (List D)) (x:D),(setO sub l x q).length=l.length
 | [],_,_,_=>rfl
 | [st],_,_,_=>by simp [setO]
 | st::st'::r,sub,l,x=>by
  simp only [setO]
  split
  ·simp
  ·rfl
theorem HL_holed (cells:List Tt) (hole:Option (Nat×Step×List Step)):HL cells (holed (cells.map Tt.toT) hole):=by
 cases hole with
 | none=>exact HL_map cells
 | some h=>
  obtain ⟨off,st,q⟩:=h
  simp only [holed]
  split
  ·rename_i sub l hc
   refine ⟨by simp,fun i t t' h1 h2=>?_⟩
   by_cases hi:off=i
   ·subst hi
    rw [List.getElem?_map,h1] at hc
    have hc':=Option.some.inj hc
    have hlt:off < (cells.map Tt.toT).length:=by
     have:=(List.getElem?_eq_some_iff.1 h1).1
     simpa using this
    rw [List.getElem?_set_self hlt] at h2
    have h2':=Option.some.inj h2
    cases t with
    | ow sh u l0=>
     simp only [Tt.toT,T.ow.injEq] at hc'
     obtain ⟨rfl,rfl⟩:=hc'
     exact .inr ⟨_,_,_,_,rfl,h2'.symm,by rw [length_setO]; simp⟩
    | _=>simp [Tt.toT] at hc'
   ·rw [List.getElem?_set_ne hi] at h2
    exact (HL_map cells).nth i t t' h1 h2
  ·exact HL_map cells
theorem RH_ref {t:Tt} {t':T} (h:RH t t') (q:Pl):refT q t'=(refTt q t).toT:=by
 rcases h with rfl | ⟨sh,u,l,l',rfl,rfl,_⟩
 ·cases t <;> rfl
 ·rfl
theorem HL_refs {ts:List Tt} {ts':List T} (h:HL ts ts') (p:Pl):refTs p ts'=(refTts p ts).map Tt.toT:=by
 refine List.ext_getElem? fun i=>?_
 simp only [refTs,refTts,List.getElem?_map,List.getElem?_zipIdx,Nat.zero_add,Option.map_map]
 cases h1:ts[i]? with
 | none=>
  have:ts'[i]? = none:=by rw [List.getElem?_eq_none_iff] at h1 ⊢; rw [h.len]; exact h1
  rw [this]; rfl
 | some t=>
  have hlt:i<ts'.length:=by rw [h.len]; exact (List.getElem?_eq_some_iff.1 h1).1
  rw [List.getElem?_eq_getElem hlt]
  simp only [Option.map_some,Function.comp,Option.some.injEq]
  exact RH_ref (h.nth i t _ h1 (List.getElem?_eq_getElem hlt)) _
theorem getD_enc {u:U} (l:List (El u)) {i:Nat} (h:i<l.length):(l.map (encU u)).getD i []=encU u (l.getD i (dflt u)):=by
 rw [List.getD,List.getD,List.getElem?_map,List.getElem?_eq_getElem h]; rfl
theorem get_enc {u:U} (l:List (El u)) {i:Nat} (h:i<l.length):(l.map (encU u))[i]? = some (encU u (l.getD i (dflt u))):=by
 rw [List.getD,List.getElem?_map,List.getElem?_eq_getElem h]; rfl
def mkTt (s:Sh) (c:C):Tt:=match s,c with
 | Sh.fr,x=>Tt.d x
 | Sh.ow s,C.li u' l'=>Tt.ow s u' l'
 | _,_=>Tt.any
theorem mkTt_toT (s:Sh) (c:C):mkT s c.toD=(mkTt s c).toT:=by
 cases s with
 | fr=>rfl
 | ow s=>cases c <;> rfl
theorem zip_toT:∀ (s:List Sh) (c:List C),List.zipWith mkT s (c.map C.toD)=(List.zipWith mkTt s c).map Tt.toT
 | [],_=>by simp
 | _::_,[]=>by simp
 | s::ss,c::cs=>by simp only [List.map_cons,List.zipWith_cons_cons,mkTt_toT,zip_toT ss cs]
theorem inT_ok:∀ {path:List Step} {sub:List Sh} {u:U} {l:List (El u)} {n:Nat} {ts:List Tt} {K:List T->Prop},okO sub (l.map (encU u)) path->inT sub u l n path=some ts->K (ts.map Tt.toT)->inK sub (l.map (encU u)) n path K
 | [],_,_,_,_,_,_,h,_,_=>h.elim
 | [st],sub,u,l,n,ts,K,h,ht,hK=>by
  obtain ⟨h1,h2,h3⟩:=h
  rw [List.length_map] at h1
  simp only [inT] at ht
  split at ht
  ·rename_i hb
   simp only [Option.some.injEq] at ht
   refine ⟨Nat.le_of_ble_eq_true hb,?_⟩
   rw [get_enc l h1]
   dsimp only
   rw [<- flat_enc,<- List.map_drop,<- List.map_take,zip_toT]
   subst ht
   exact hK
  ·cases ht
 | st::st'::r,sub,u,l,n,ts,K,h,ht,hK=>by
  obtain ⟨⟨h1,h2,h3⟩,h4⟩:=h
  rw [List.length_map] at h1
  simp only [inT] at ht
  split at ht
  ·rename_i s u' l' e1 e2
   simp only [inK]
   rw [get_enc l h1]
   dsimp only
   have e3:(encU u (l.getD st.idx (dflt u)))[st.off]? = some (.li (l'.map (encU u'))):=by
    rw [<- flat_enc,List.getElem?_map,e2]; rfl
   rw [e1,e3]
   dsimp only
   rw [e1,getD_enc l h1,List.getD,e3] at h4
   exact inT_ok h4 ht hK
  ·cases ht
def okP (m:Mm) (p:Pl):Prop:=match p.path with
 | []=>True
 | st::q=>∃ r sub l,getR m p.root=some r/\r.cells[p.off]? = some (.ow sub l)/\okO sub l (st::q)
theorem okP_pl {m:Mm} {p:Pl} (h:okPl m p):okP m p:=by
 unfold okP
 split
 ·trivial
 ·rename_i st q hp
  unfold okPl at h
  split at h
  ·exact h.elim
  ·rename_i r hr
   rw [hp] at h
   dsimp only at h
   split at h
   ·rename_i sub l hc; exact ⟨r,sub,l,hr,hc,h⟩
   ·exact h.elim
theorem okP_rf {m:Mm} {p:Pl} (h:okRf m p):okP m p:=by
 unfold okP
 split
 ·trivial
 ·rename_i st q hp
  unfold okRf at h
  split at h
  ·exact h.elim
  ·rename_i r hr
   rw [hp] at h
   split at h
   ·simp_all
   ·rename_i sub l st' q' hc he
    simp only [List.cons.injEq] at he
    obtain ⟨rfl,rfl⟩:=he
    exact ⟨r,sub,l,hr,hc,h.1⟩
   ·exact h.elim
theorem getR_of {m:List (Nm×Nat×Rt)} {n:Nm} {r:Rt} (h:getM m n=some r):getR (toM m) n=some r.toR:=by rw [getM_toM,h]; rfl
theorem zip_nth {ss:List Sh} {xs:List D} {i:Nat} {t:T} (h:(List.zipWith mkT ss xs)[i]? = some t):∃ s x,ss[i]? = some s/\xs[i]? = some x/\t=mkT s x:=by
 rw [List.getElem?_zipWith] at h
 cases h1:ss[i]? with
 | none=>rw [h1] at h; simp at h
 | some s=>cases h2:xs[i]? with
  | none=>rw [h1,h2] at h; simp at h
  | some x=>rw [h1,h2] at h; exact ⟨s,x,rfl,rfl,(Option.some.inj h).symm⟩
theorem inH_ok:∀ {path hp:List Step} {sub:List Sh} {u:U} {l:List (El u)} {n:Nat} {ts:List Tt} {K:List T->Prop},path.length<hp.length->okO sub (setO sub (l.map (encU u)) .any hp) path->inT sub u l n path=some ts->(∀ ts',HL ts ts'->K ts')->inK sub (setO sub (l.map (encU u)) .any hp) n path K
 | [],_,_,_,_,_,_,_,_,h,_,_=>h.elim
 | _::_,[],_,_,_,_,_,_,hlt,_,_,_=>by simp at hlt
 | [_],[_],_,_,_,_,_,_,hlt,_,_,_=>by simp at hlt
 | _::_::_,[_],_,_,_,_,_,_,hlt,_,_,_=>by simp at hlt
 | [st],h::h'::hr,sub,u,l,n,ts,K,hlt,hok,ht,hK=>by
  have hlen:(setO sub (l.map (encU u)) .any (h::h'::hr)).length=l.length:=by rw [length_setO,List.length_map]
  have hok1:=hok.1
  rw [hlen] at hok1
  simp only [inT] at ht
  split at ht
  ·rename_i hb
   simp only [Option.some.injEq] at ht
   refine ⟨Nat.le_of_ble_eq_true hb,?_⟩
   have base:((l.map (encU u))[st.idx]?)=some (encU u (l.getD st.idx (dflt u))):=get_enc l hok1
   have key:∀ x,(setO sub (l.map (encU u)) .any (h::h'::hr))[st.idx]? = some x->(x=encU u (l.getD st.idx (dflt u))\/∃ s l1,sub[h.off]? = some (.ow s)/\(encU u (l.getD st.idx (dflt u)))[h.off]? = some (.li l1)/\x=(encU u (l.getD st.idx (dflt u))).set h.off (.li (setO s l1 .any (h'::hr)))):=by
    intro x hx
    simp only [setO] at hx
    split at hx
    ·rename_i s l1 e1 e2
     rw [List.getElem?_set] at hx
     split at hx
     ·rename_i ei
      split at hx
      ·have hx':=Option.some.inj hx
       rw [ei,getD_enc l hok1] at e2 hx'
       refine .inr ⟨s,l1,e1,?_,hx'.symm⟩
       rw [List.getD] at e2
       cases h3:(encU u (l.getD st.idx (dflt u)))[h.off]? with
       | none=>rw [h3] at e2; cases e2
       | some d=>rw [h3] at e2; simp only [Option.getD_some] at e2; rw [e2]
      ·cases hx
     ·rw [base] at hx; exact .inl (Option.some.inj hx).symm
    ·rw [base] at hx; exact .inl (Option.some.inj hx).symm
   have hlt2:st.idx < (setO sub (l.map (encU u)) .any (h::h'::hr)).length:=by rw [hlen]; exact hok1
   rw [List.getElem?_eq_getElem hlt2]
   dsimp only
   rcases key _ (List.getElem?_eq_getElem hlt2) with e | ⟨s,l1,e1,e2,e⟩
   ·rw [e,<- flat_enc,<- List.map_drop,<- List.map_take,zip_toT]
    subst ht
    exact hK _ (HL_map _)
   ·rw [e]
    refine hK _ ?_
    subst ht
    have hbase:List.zipWith mkT ((sub.drop st.off).take n) (((encU u (l.getD st.idx (dflt u))).drop st.off).take n)=(List.zipWith mkTt ((sub.drop st.off).take n) (((flat u (l.getD st.idx (dflt u))).drop st.off).take n)).map Tt.toT:=by
     rw [<- flat_enc,<- List.map_drop,<- List.map_take,zip_toT]
    refine ⟨?_,fun i t t' a1 a2=>?_⟩
    ·have hl:=congrArg List.length hbase
     simp only [List.length_map] at hl
     have hx:∀ ys:List D,(List.zipWith mkT ((sub.drop st.off).take n) ((ys.drop st.off).take n)).length=min (min n (sub.length-st.off)) (min n (ys.length-st.off)):=by
      intro ys; simp
     refine Eq.trans ?_ hl
     rw [hx,hx,List.length_set]
    ·obtain ⟨s0,x0,b1,b2,b3⟩:=zip_nth a2
     have a1':((List.zipWith mkTt ((sub.drop st.off).take n) (((flat u (l.getD st.idx (dflt u))).drop st.off).take n)).map Tt.toT)[i]? = some t.toT:=by
      rw [List.getElem?_map]
      have:(List.zipWith mkTt ((sub.drop st.off).take n) (((flat u (l.getD st.idx (dflt u))).drop st.off).take n))[i]? = some t:=a1
      rw [this]; rfl
     rw [<- hbase] at a1'
     obtain ⟨s1,x1,c1,c2,c3⟩:=zip_nth a1'
     rw [b1] at c1
     obtain rfl:=Option.some.inj c1
     rw [List.getElem?_take] at b1 b2 c2
     split at b2
     ·rename_i hin
      rw [if_pos hin] at b1 c2
      rw [List.getElem?_drop] at b1 b2 c2
      rw [List.getElem?_set] at b2
      split at b2
      ·rename_i eo
       rw [<- eo] at b1 c2
       rw [e1] at b1
       obtain rfl:=Option.some.inj b1
       rw [e2] at c2
       obtain rfl:=Option.some.inj c2
       split at b2
       ·obtain rfl:=Option.some.inj b2
        rw [b3]
        cases t with
        | ow sh2 u2 l2=>
         simp only [mkT,Tt.toT,T.ow.injEq] at c3
         obtain ⟨rfl,e5⟩:=c3
         refine .inr ⟨_,_,_,_,rfl,rfl,?_⟩
         rw [length_setO,<- e5,List.length_map]
        | _=>simp [mkT,Tt.toT] at c3
       ·cases b2
      ·rw [b2] at c2
       obtain rfl:=Option.some.inj c2
       rw [b3,<- c3]; exact .inl rfl
     ·cases b2
  ·cases ht
 | st::st'::r,h::h'::hr,sub,u,l,n,ts,K,hlt,hok,ht,hK=>by
  have hlen:(setO sub (l.map (encU u)) .any (h::h'::hr)).length=l.length:=by rw [length_setO,List.length_map]
  obtain ⟨⟨hi,hz,ho⟩,hok2⟩:=hok
  rw [hlen] at hi
  simp only [inT] at ht
  split at ht
  ·rename_i s u' l' e1 e2
   have base:((l.map (encU u))[st.idx]?)=some (encU u (l.getD st.idx (dflt u))):=get_enc l hi
   have e3:(encU u (l.getD st.idx (dflt u)))[st.off]? = some (.li (l'.map (encU u'))):=by
    rw [<- flat_enc,List.getElem?_map,e2]; rfl
   have key:∃ x,(setO sub (l.map (encU u)) .any (h::h'::hr))[st.idx]? = some x/\(x[st.off]? = some (.li (l'.map (encU u')))\/x[st.off]? = some (.li (setO s (l'.map (encU u')) .any (h'::hr)))):=by
    simp only [setO]
    split
    ·rename_i s1 l1 f1 f2
     rw [List.getElem?_set]
     split
     ·rename_i ei
      rw [if_pos (by rw [List.length_map,ei]; exact hi)]
      refine ⟨_,rfl,?_⟩
      rw [ei,getD_enc l hi] at f2 ⊢
      rw [List.getElem?_set]
      split
      ·rename_i eo
       rw [eo] at f1 f2
       rw [e1] at f1
       simp only [Option.some.injEq,Sh.ow.injEq] at f1
       subst f1
       rw [List.getD,e3,Option.getD_some] at f2
       simp only [D.li.injEq] at f2
       subst f2
       rw [if_pos (by rw [eo]; exact lt_of_get e3)]
       exact .inr rfl
      ·exact .inl e3
     ·exact ⟨_,base,.inl e3⟩
    ·exact ⟨_,base,.inl e3⟩
   obtain ⟨x,hx,hx2⟩:=key
   have hg:(setO sub (l.map (encU u)) .any (h::h'::hr)).getD st.idx []=x:=by rw [List.getD,hx]; rfl
   rw [e1,hg] at hok2
   simp only [inK]
   rw [hx]
   dsimp only
   rw [e1]
   rcases hx2 with hx2 | hx2
   ·rw [List.getD,hx2] at hok2
    rw [hx2]
    dsimp only at hok2 ⊢
    exact inT_ok hok2 ht (hK _ (HL_map _))
   ·rw [List.getD,hx2] at hok2
    rw [hx2]
    dsimp only at hok2 ⊢
    exact inH_ok (by simpa using hlt) hok2 ht hK
  ·cases ht
theorem atT_ok {m:List (Nm×Nat×Rt)} {p:Pl} {n:Nat} {ts:List Tt} {K:List T->Prop} (hp:okP (toM m) p) (h:atT m p n=some ts) (hK:∀ ts',HL ts ts'->K ts'):atK (toM m) p n K:=by
 unfold atT at h
 split at h
 ·cases h
 ·rename_i r hr
  unfold atK
  rw [getR_of hr]
  dsimp only
  unfold okP at hp
  split at h
  ·rename_i hpath
   rw [hpath]
   split at h
   ·rename_i hb
    simp only [Option.some.injEq] at h
    have hH:=HL_holed r.cells r.hole
    refine ⟨?_,hK _ ?_⟩
    ·show p.off+n<=(holed (r.cells.map Tt.toT) r.hole).length
     rw [hH.len]; exact Nat.le_of_ble_eq_true hb
    ·subst h; exact (hH.drop _).take _
   ·cases h
  ·rename_i st q hpath
   rw [hpath] at hp ⊢
   split at h
   ·rename_i sub u l hhole hc
    obtain ⟨r',sub',l',e1,e2,e3⟩:=hp
    rw [getR_of hr] at e1
    obtain rfl:=Option.some.inj e1
    have plain:r.toR.cells[p.off]? = some (.ow sub (l.map (encU u)))->(match st::q,r.toR.cells[p.off]? with
      | [],_=>p.off+n<=r.toR.cells.length/\K ((r.toR.cells.drop p.off).take n)
      | st::q,some (.ow sub l)=>inK sub l n (st::q) K
      | _,_=>False):=by
     intro ec
     rw [ec] at e2 ⊢
     have e2':=Option.some.inj e2
     simp only [T.ow.injEq] at e2'
     obtain ⟨rfl,rfl⟩:=e2'
     exact inT_ok e3 h (hK _ (HL_map ts))
    cases hho:r.hole with
    | none=>
     refine plain ?_
     show (holed (r.cells.map Tt.toT) r.hole)[p.off]? = _
     rw [hho]
     show (r.cells.map Tt.toT)[p.off]? = _
     rw [List.getElem?_map,hc]; rfl
    | some hh=>
     obtain ⟨off,st',q'⟩:=hh
     rw [hho] at hhole
     have hlt:(st::q).length < (st'::q').length:=Nat.le_of_ble_eq_true hhole
     by_cases hoff:off=p.off
     ·subst hoff
      have hlt2:p.off < (r.cells.map Tt.toT).length:=by rw [List.length_map]; exact (List.getElem?_eq_some_iff.1 hc).1
      have ec:r.toR.cells[p.off]? = some (.ow sub (setO sub (l.map (encU u)) .any (st'::q'))):=by
       show (holed (r.cells.map Tt.toT) r.hole)[p.off]? = _
       rw [hho]
       simp only [holed]
       rw [List.getElem?_map,hc]
       simp only [Option.map_some,Tt.toT]
       rw [List.getElem?_set_self hlt2]
      rw [ec] at e2 ⊢
      have e2':=Option.some.inj e2
      simp only [T.ow.injEq] at e2'
      obtain ⟨rfl,rfl⟩:=e2'
      exact inH_ok hlt e3 h hK
     ·refine plain ?_
      show (holed (r.cells.map Tt.toT) r.hole)[p.off]? = _
      rw [hho]
      simp only [holed]
      split
      ·rw [List.getElem?_set_ne hoff,List.getElem?_map,hc]; rfl
      ·rw [List.getElem?_map,hc]; rfl
   ·cases h
theorem sliceAt_ok {m:List (Nm×Nat×Rt)} {p:Pl} {sh:List Sh} {u:U} {l:List (El u)} {K:List T->Prop} (hp:okP (toM m) p) (h:sliceAt m p=some ⟨sh,u,l⟩) (hK:∀ l':List (List D),l'.length=l.length->K [.ow sh l']):atK (toM m) p 1 K:=by
 unfold sliceAt at h
 split at h
 ·rename_i sh' u' l' ht
  cases h
  refine atT_ok hp ht (fun ts' hH=>?_)
  have hl:=hH.len
  match ts',hl with
  | [t'],_=>
   rcases hH.nth 0 _ _ rfl rfl with e | ⟨sh2,u2,l2,l3,e1,e2,e3⟩
   ·rw [e]; exact hK _ (by simp)
   ·simp only [Tt.ow.injEq] at e1
    obtain ⟨rfl,rfl,e5⟩:=e1
    have e5':=eq_of_heq e5
    subst e5'
    rw [e2]; exact hK _ e3
 ·cases h
section
variable {k:At->Prop} {m:List (Nm×Nat×Rt)}
theorem gift_ok {gd:Option (Nat×Bool)} {n:Nat} {q:Prop} (h:gift gd n q):n<=4611686018427387904->q:=by
 cases gd with
 | none=>exact h
 | some _=>exact fun _=>h
theorem lenT_ok {gd:Option (Nat×Bool)} {x:At} {k:Nat->Prop} (hp:∀ p,x=.one (.c (.rf p))->okP (toM m) p) (h:lenT gd m x k):lenK (toM m) x.toV k:=by
 unfold lenT at h
 split at h
 ·exact gift_ok h
 ·simp only [At.toV,A1.toV,Tt.toT,C.toD,lenK,List.length_map]; exact gift_ok h
 ·exact h
 ·rename_i p
  split at h
  ·rename_i sh u l hs
   simp only [At.toV,A1.toV,Tt.toT,lenK]
   refine sliceAt_ok (hp p rfl) hs (fun l' hl=>?_)
   dsimp only
   rw [hl]; exact gift_ok h
  ·exact h.elim
 ·exact h.elim
theorem boundT_ok {x:Option At} {d:Nat} {k:Nat->Prop} (h:boundT x d k):boundK (x.map At.toV) d k:=by
 unfold boundT at h
 split at h
 ·exact h
 ·exact h
 ·exact h.elim
theorem sliceT_ok {P:Program} {t:TypeId} {x:At} {lo hi:Option At} (h:sliceT P t x lo hi k):sliceK P t x.toV (lo.map At.toV) (hi.map At.toV) (up k):=by
 have bmono:∀ {y:Option At} {d:Nat} {k1 k2:Nat->Prop},(∀ n,k1 n->k2 n)->boundT y d k1->boundT y d k2:=by
  intro y d k1 k2 hk hb
  unfold boundT at hb ⊢
  split at hb
  ·exact hk _ hb
  ·exact ⟨hb.1,hk _ hb.2⟩
  ·exact hb.elim
 unfold sliceT at h
 split at h
 ·rename_i l
  split at h
  ·rename_i ht
   refine ⟨ht,boundT_ok (bmono (fun a ha=>boundT_ok (bmono (fun b hb=>?_) ha)) h)⟩
   exact ⟨hb.1,_,rfl,hb.2⟩
  ·exact h.elim
 ·rename_i u l
  split at h
  ·rename_i e ht
   split at h
   ·rename_i hc
    simp only [Bool.and_eq_true] at hc
    simp only [At.toV,A1.toV,Tt.toT,C.toD,sliceK,ht]
    refine ⟨hc.1,fun y hy=>?_,boundT_ok (bmono (fun a ha=>?_) h)⟩
    ·obtain ⟨z,_,rfl⟩:=List.mem_map.1 hy
     rw [encU_length]; exact Nat.eq_of_beq_eq_true hc.2
    ·rw [List.length_map]
     refine boundT_ok (bmono (fun b hb=>?_) ha)
     exact ⟨hb.1,_,by simp only [At.toV,A1.toV,Tt.toT,C.toD,List.map_take,List.map_drop],hb.2⟩
   ·exact h.elim
  ·exact h.elim
 ·split at h
  ·rename_i e ht
   split at h
   ·rename_i hc
    simp only [At.toV,A1.toV,Tt.toT,sliceK,ht]
    refine ⟨hc,boundT_ok (bmono (fun a ha=>boundT_ok (bmono (fun b hb=>?_) ha)) h)⟩
    exact ⟨hb.1,hb.2.1,_,rfl,hb.2.2⟩
   ·exact h.elim
  ·exact h.elim
 ·exact h.elim
theorem hasRoomT_ok {p:Pl} {n:Nat} (h:hasRoomT m p n=true):hasRoom (toM m) p n:=by
 unfold hasRoomT at h
 split at h
 ·cases h
 ·rename_i r hr
  unfold hasRoom room
  rw [getR_of hr]
  dsimp only
  have hH:=HL_holed r.cells r.hole
  split at h
  ·rename_i hpath
   rw [hpath]
   show n < (holed (r.cells.map Tt.toT) r.hole).length-p.off
   rw [hH.len]
   exact Nat.le_of_ble_eq_true h
  ·rename_i st q sub u l hpath hc
   rw [hpath]
   split at h
   ·rename_i k hk
    have hlt:=(List.getElem?_eq_some_iff.1 hc).1
    have hlt':p.off < (holed (r.cells.map Tt.toT) r.hole).length:=by rw [hH.len]; exact hlt
    have:=hH.nth p.off _ _ hc (List.getElem?_eq_getElem hlt')
    have e:∃ l',r.toR.cells[p.off]? = some (.ow sub l'):=by
     rcases this with e | ⟨sh,u2,l2,l3,e1,e2,_⟩
     ·exact ⟨_,by show (holed _ _)[p.off]? = _; rw [List.getElem?_eq_getElem hlt',e]; rfl⟩
     ·simp only [Tt.ow.injEq] at e1
      obtain ⟨rfl,_,_⟩:=e1
      exact ⟨l3,by show (holed _ _)[p.off]? = _; rw [List.getElem?_eq_getElem hlt',e2]⟩
    obtain ⟨l',e⟩:=e
    rw [e]
    dsimp only
    rw [hk]
    exact Nat.le_of_ble_eq_true h
   ·cases h
  ·cases h
theorem fieldAddrT_ok {P:Program} {t:TypeId} {x:At} {i:Nat} (h:fieldAddrT P m t x i k):fieldAddrK P (toM m) t x.toV i (up k):=by
 unfold fieldAddrT at h
 split at h
 ·rename_i fs ht
  unfold fieldAddrK
  rw [ht]
  dsimp only
  cases hf:fs[i]? with
  | none=>rw [hf] at h; exact h.elim
  | some f=>
   obtain ⟨off,size,ag⟩:=f
   rw [hf] at h
   cases size with
   | zero=>exact h.elim
   | succ size=>
    dsimp only at h ⊢
    refine ⟨by omega,?_⟩
    split at h
    ·split at h
     ·rename_i hr; exact ⟨hasRoomT_ok hr,_,rfl,h⟩
     ·exact h.elim
    ·exact ⟨_,rfl,h⟩
    ·exact h.elim
 ·exact h.elim
theorem indexAddrT_ok {P:Program} {t:TypeId} {x i:At} (hp:∀ p,x=.one (.c (.rf p))->okP (toM m) p) (h:indexAddrT P m t x i k):indexAddrK P (toM m) t x.toV i.toV (up k):=by
 unfold indexAddrT at h
 split at h
 ·rename_i κ n
  simp only [At.toV,A1.toV,Tt.toT,C.toD,indexAddrK]
  split at h
  ·rename_i e ht
   rw [ht]
   split at h
   ·rename_i u l
    split at h
    ·rename_i hc
     simp only [Bool.and_eq_true] at hc
     obtain ⟨⟨h1,h2⟩,h3⟩:=h
     simp only [At.toV,A1.toV,Tt.toT,C.toD]
     refine ⟨hc.1,h1,?_⟩
     rw [get_enc l h2]
     dsimp only
     refine ⟨by rw [encU_length]; exact Nat.eq_of_beq_eq_true hc.2,_,?_,h3⟩
     simp only [At.toV,A1.toV,Tt.toT,flat_enc]
    ·exact h.elim
   ·rename_i p
    split at h
    ·rename_i hc
     simp only [Bool.and_eq_true] at hc
     split at h
     ·rename_i sh u l hs
      split at h
      ·rename_i hb
       obtain ⟨h1,h2⟩:=h
       simp only [At.toV,A1.toV,Tt.toT]
       refine ⟨hc.1,by have:=Nat.le_of_ble_eq_true hc.2; omega,sliceAt_ok (hp p rfl) hs (fun l' hl=>?_)⟩
       dsimp only
       exact ⟨⟨h1.1,by rw [hl]; exact h1.2⟩,Nat.eq_of_beq_eq_true hb,_,rfl,h2⟩
      ·exact h.elim
     ·exact h.elim
    ·exact h.elim
   ·exact h.elim
  ·rename_i N e ht
   rw [ht]
   split at h
   ·rename_i u l i
    split at h
    ·rename_i hc
     simp only [Bool.and_eq_true] at hc
     obtain ⟨h1,h2⟩:=h
     simp only [At.toV,A1.toV,Tt.toT]
     refine ⟨hc.1.1,h1,_,?_,h2⟩
     simp only [At.toV,A1.toV,Tt.toT]
     rw [Nat.eq_of_beq_eq_true hc.1.2,Nat.mul_one,Nat.add_comm]
     rfl
    ·exact h.elim
   ·rename_i p
    split at h
    ·rename_i hc
     simp only [Bool.and_eq_true] at hc
     obtain ⟨h1,h2⟩:=h
     simp only [At.toV,A1.toV,Tt.toT]
     exact ⟨hc.1,h1,hasRoomT_ok hc.2,_,rfl,h2⟩
    ·exact h.elim
   ·exact h.elim
  ·exact h.elim
 ·exact h.elim
theorem loadT_ok {P:Program} {t:TypeId} {x:At} (hp:∀ p,x=.one (.c (.pl p))->okP (toM m) p) (h:loadT P m t x k):loadK P (toM m) t x.toV (up k):=by
 unfold loadT at h
 split at h
 ·rename_i hok
  refine ⟨hok,?_⟩
  split at h
  ·rename_i row o
   simp only [At.toV,A1.toV,Tt.toT]
   split at h
   ·rename_i ha
    rw [if_pos ha]
    split at h
    ·rename_i hb
     refine ⟨by rw [List.length_map]; exact Nat.le_of_ble_eq_true hb,fun _=>⟨_,?_,h⟩⟩
     simp only [At.toV,A1.toV,AV.one.injEq,AV1.agg.injEq]
     rw [List.map_map,<- List.map_drop,<- List.map_take,List.map_map]
     rfl
    ·exact h.elim
   ·rename_i ha
    rw [if_neg (by rw [ha]; simp),List.getElem?_map]
    split at h
    ·rename_i c hc; rw [hc]; exact fun _=>⟨_,rfl,h⟩
    ·exact h.elim
  ·rename_i u l i
   simp only [At.toV,A1.toV,Tt.toT]
   split at h
   ·rename_i ha hl
    have e:l[i]? = some (l.getD i (dflt u)):=by rw [List.getD_eq_getElem?_getD,List.getElem?_eq_getElem h.1]; rfl
    rw [if_neg (by rw [ha]; simp),List.getElem?_map,e]
    exact fun _=>⟨_,rfl,h.2⟩
   ·exact h.elim
  ·rename_i p
   simp only [At.toV,A1.toV,Tt.toT]
   split at h
   ·rename_i ha
    rw [if_pos ha]
    split at h
    ·rename_i ts hts
     refine atT_ok (hp p rfl) hts (fun ts' hH=>fun _=>⟨_,?_,h⟩)
     simp only [At.toV,A1.toV,HL_refs hH]
    ·exact h.elim
   ·rename_i ha
    rw [if_neg (by rw [ha]; simp)]
    split at h
    ·rename_i t' hts
     refine atT_ok (hp p rfl) hts (fun ts' hH=>?_)
     have hl:=hH.len
     match ts',hl with
     | [t''],_=>
      dsimp only
      refine fun _=>⟨_,?_,h⟩
      simp only [At.toV,A1.toV]
      rw [RH_ref (hH.nth 0 _ _ rfl rfl)]
    ·exact h.elim
  ·exact h.elim
 ·exact h.elim
theorem cellsAt_ok (x:At):cellsAV x.toV=(cellsAt x).map (·.map Tt.toT):=by
 cases x with
 | one x=>cases x <;> rfl
 | _=>rfl
theorem overw_map {α β:Type} (f:α->β) (ts cs:List α) (off:Nat):(overw ts off cs).map f=overw (ts.map f) off (cs.map f):=by
 simp only [overw,List.map_append,List.map_take,List.map_drop,List.length_map]
theorem fillTt_ok {pl:Nat->Option (Nat×Nat)}:∀ {parts:List (Nat×At)} {ts ts':List Tt},fillTt pl ts parts=some ts'->fillT pl (ts.map Tt.toT) (parts.map fun x=>(x.1,x.2.toV))=some (ts'.map Tt.toT)
 | [],ts,ts',h=>by simp only [fillTt,Option.some.injEq] at h; subst h; rfl
 | (i,x)::r,ts,ts',h=>by
  simp only [fillTt] at h
  simp only [List.map_cons,fillT]
  cases hpl:pl i with
  | none=>rw [hpl] at h; cases h
  | some q=>
   obtain ⟨off,size⟩:=q
   cases hc:cellsAt x with
   | none=>rw [hpl,hc] at h; cases h
   | some cs=>
    rw [hpl,hc] at h
    dsimp only at h
    split at h
    ·rename_i hb
     simp only [Bool.and_eq_true] at hb
     rw [cellsAt_ok,hc]
     dsimp only [Option.map_some]
     have hs:(cs.map Tt.toT).all T.sure=true:=by
      rw [List.all_map]
      rw [<- hb.2]
      congr 1
      funext t; exact sure_toT t
     rw [if_pos ⟨by rw [List.length_map]; exact Nat.eq_of_beq_eq_true hb.1.1,by rw [List.length_map,List.length_map]; exact Nat.le_of_ble_eq_true hb.1.2,hs⟩]
     rw [<- overw_map]
     exact fillTt_ok h
    ·cases h
theorem partsT_ok {s:St} {ps:Array (Nat×Operand)} (h:(ps.toList.all fun x=>okOp x.2)=true):partsK s.toS ps=(partsT s ps).map fun x=>(x.1,x.2.toV):=by
 unfold partsK partsT
 rw [List.map_map]
 refine List.map_congr_left fun x hx=>?_
 simp only [Function.comp]
 rw [evA_toV (List.all_eq_true.1 h x hx)]
theorem csts_ok {zs:List Value} (h:zs.all okT=true):(zs.map cstTt).map Tt.toT=zs.map cstT:=by
 rw [List.map_map]
 exact List.map_congr_left fun x hx=>cstTt_toT (List.all_eq_true.1 h x hx)
theorem zst_okT {P:Program} {t:TypeId} {zs:List Value} {pl:List (Nat×Nat)} (h:zst P t=some (zs,pl)):zs.all okT=true:=by
 unfold zst at h
 split at h
 ·split at h
  ·split at h
   ·rename_i hall
    simp only [Option.some.injEq,Prod.mk.injEq] at h
    obtain ⟨rfl,_⟩:=h
    simpa using hall
   ·cases h
  ·cases h
 ·split at h
  ·split at h
   ·rename_i hall
    simp only [Option.some.injEq,Prod.mk.injEq] at h
    obtain ⟨rfl,_⟩:=h
    simpa using hall
   ·cases h
  ·cases h
 ·cases h
theorem buildT_ok {P:Program} {t:TypeId} {parts:List (Nat×At)} (h:buildT P t parts k):buildK P t (parts.map fun x=>(x.1,x.2.toV)) (up k):=by
 unfold buildT at h
 split at h
 ·rename_i zs places hz
  split at h
  ·rename_i ts hf
   unfold buildK
   rw [hz]
   dsimp only
   have:=fillTt_ok hf
   rw [csts_ok (zst_okT hz)] at this
   rw [this]
   exact ⟨.one (.agg ts),rfl,h⟩
  ·exact h.elim
 ·exact h.elim
end
end Go.Am
end

section
namespace Go.Am
theorem Tt_kill_toT (bad:Bool->Pl->Bool) (t:Tt):(t.kill bad).toT=t.toT.kill bad:=by
 cases t with
 | pl p=>
  show (if bad false p=true then Tt.any else Tt.pl p).toT=if bad false p=true then T.any else T.pl p
  by_cases h:bad false p=true <;> simp [h,Tt.toT]
 | rf p=>
  show (if bad true p=true then Tt.any else Tt.rf p).toT=if bad true p=true then T.any else T.rf p
  by_cases h:bad true p=true <;> simp [h,Tt.toT]
 | _=>rfl
theorem Tts_kill (bad:Bool->Pl->Bool) (ts:List Tt):(ts.map (·.kill bad)).map Tt.toT=(ts.map Tt.toT).map (·.kill bad):=by
 rw [List.map_map,List.map_map]; exact List.map_congr_left fun t _=>Tt_kill_toT bad t
theorem A1_kill_toV (bad:Bool->Pl->Bool) (x:A1):(x.kill bad).toV=x.toV.kill bad:=by
 cases x with
 | c t=>simp only [A1.kill,A1.toV,AV1.kill,Tt_kill_toT]
 | agg ts=>simp only [A1.kill,A1.toV,AV1.kill,Tts_kill]
theorem At_kill_toV (bad:Bool->Pl->Bool) (x:At):(x.kill bad).toV=x.toV.kill bad:=by
 cases x with
 | one x=>simp only [At.kill,At.toV,AV.kill,A1_kill_toV]
 | tup xs=>
  simp only [At.kill,At.toV,AV.kill]
  congr 1
  rw [List.map_map,List.map_map]; exact List.map_congr_left fun t _=>A1_kill_toV bad t
 | any=>rfl
theorem Tt_kill_id {bad:Bool->Pl->Bool} {t:Tt} (h:t.hit bad=false):t.kill bad=t:=by
 cases t with
 | pl p=>simp only [Tt.hit] at h; simp [Tt.kill,h]
 | rf p=>simp only [Tt.hit] at h; simp [Tt.kill,h]
 | _=>rfl
theorem Tts_kill_id {bad:Bool->Pl->Bool}:∀ {ts:List Tt},ts.any (·.hit bad)=false->ts.map (·.kill bad)=ts
 | [],_=>rfl
 | t::ts,h=>by
  simp only [List.any_cons,Bool.or_eq_false_iff] at h
  rw [List.map_cons,Tt_kill_id h.1,Tts_kill_id h.2]
theorem A1_kill_id {bad:Bool->Pl->Bool} {x:A1} (h:x.hit bad=false):x.kill bad=x:=by
 cases x with
 | c t=>simp only [A1.kill,Tt_kill_id (show t.hit bad=false from h)]
 | agg ts=>simp only [A1.kill,Tts_kill_id (show ts.any _=false from h)]
theorem At_kill_id {bad:Bool->Pl->Bool} {x:At} (h:x.hit bad=false):x.kill bad=x:=by
 cases x with
 | one x=>simp only [At.kill,A1_kill_id (show x.hit bad=false from h)]
 | tup xs=>
  simp only [At.hit] at h
  simp only [At.kill]
  congr 1
  induction xs with
  | nil=>rfl
  | cons x xs ih=>
   simp only [List.any_cons,Bool.or_eq_false_iff] at h
   rw [List.map_cons,A1_kill_id h.1,ih h.2]
 | any=>rfl
theorem holed_kill (bad:Bool->Pl->Bool) (cells:List Tt) (hole:Option (Nat×Step×List Step)) :
  holed ((cells.map (·.kill bad)).map Tt.toT) hole=(holed (cells.map Tt.toT) hole).map (·.kill bad):=by
 rw [Tts_kill]
 cases hole with
 | none=>rfl
 | some h=>
  obtain ⟨off,st,q⟩:=h
  simp only [holed]
  rw [List.getElem?_map (f:=fun t=>T.kill bad t)]
  cases hc:(cells.map Tt.toT)[off]? with
  | none=>rfl
  | some t=>
   simp only [Option.map_some]
   cases t with
   | ow sub l=>simp only [T.kill,List.map_set]
   | pl p=>by_cases h:bad false p=true <;> simp [T.kill,h]
   | rf p=>by_cases h:bad true p=true <;> simp [T.kill,h]
   | _=>rfl
theorem Rt_kill_toR (bad:Bool->Pl->Bool) (r:Rt):(r.kill bad).toR={ r.toR with cells:=r.toR.cells.map (·.kill bad) }:=by
 simp only [Rt.toR,Rt.kill,holed_kill]
theorem killA_toS (bad:Bool->Pl->Bool) (nx:Nat) (t:List (Nat×Nat×At)):(killA bad nx t).map (fun x=>(x.1,x.2.2.toV))=killT bad (t.map fun x=>(x.1,x.2.2.toV)):=by
 simp only [killA,killT,List.map_map]
 exact List.map_congr_left fun x _=>by simp only [Function.comp,At_kill_toV]
theorem killMm_toM (bad:Bool->Pl->Bool) (nx:Nat) (m:List (Nm×Nat×Rt)):toM (killMm bad nx m)=killM bad (toM m):=by
 simp only [toM,killMm,killM,List.map_map]
 exact List.map_congr_left fun x _=>by simp only [Function.comp,Rt_kill_toR]
theorem ND_kill {bad:Bool->Pl->Bool} {nx:Nat} {m:List (Nm×Nat×Rt)}:ND (killMm bad nx m) ↔ ND m:=by
 simp only [ND,killMm,List.map_map]; exact Iff.rfl
theorem mem_delM {n k:Nm}:∀ {m:List (Nm×Nat×Rt)},k∈(delM m n).map (·.1)->k∈m.map (·.1)/\k≠n
 | [],h=>by simp [delM] at h
 | (k',j,v)::m,h=>by
  simp only [delM] at h
  split at h
  ·have:=mem_delM h; exact ⟨List.mem_cons_of_mem _ this.1,this.2⟩
  ·rename_i hk
   simp only [List.map_cons,List.mem_cons] at h
   rcases h with rfl | h
   ·exact ⟨by simp,hk⟩
   ·have:=mem_delM h; exact ⟨List.mem_cons_of_mem _ this.1,this.2⟩
theorem ND_del {n:Nm}:∀ {m:List (Nm×Nat×Rt)},ND m->ND (delM m n)
 | [],_=>by simp [ND,delM]
 | (k,j,v)::m,h=>by
  have h':k ∉ m.map (·.1)/\(m.map (·.1)).Nodup:=by simpa [ND] using h
  simp only [delM]
  split
  ·exact ND_del h'.2
  ·have:=ND_del (n:=n) h'.2
   simp only [ND,List.map_cons,List.nodup_cons]
   exact ⟨fun hm=>h'.1 (mem_delM hm).1,this⟩
theorem keys_setM (n:Nm) (i:Nat) (r:Rt):∀ m:List (Nm×Nat×Rt),(setM m n i r).map (·.1)=m.map (·.1)
 | []=>rfl
 | (k,j,v)::m=>by
  simp only [setM]
  split
  ·rfl
  ·simp only [List.map_cons,keys_setM n i r m]
theorem ND_of {g:G} {s:St} {a:Act} {w:World} {H:FH} {γ:Gam} {F:Nm->Fp} (h:RX g s.toS a w H γ F):ND s.m:=by
 have:=h.mem.keys
 have e:s.toS.m.map (·.1)=s.m.map (·.1):=by simp only [St.toS,List.map_map]; rfl
 rw [e] at this; exact this
theorem drop_toS {s:St} {n:Nm} (h:ND s.m):(s.drop n).toS=s.toS.drop n:=by
 have h1:=killA_toS (badR n) s.nx s.t
 have h2:=killMm_toM (badR n) s.nx (delM s.m n)
 rw [delM_toM n s.m h] at h2
 exact S_ext h1 h2
where
 S_ext {t t':List (Nat×AV)} {m m':Mm} (h1:t=t') (h2:m=m'):(⟨t,m⟩:S)=⟨t',m'⟩:=by rw [h1,h2]
theorem ND_drop {s:St} {n:Nm} (h:ND s.m):ND (s.drop n).m:=ND_kill.2 (ND_del h)
theorem fresh_toS {s:St} {n:Nm} (h:ND s.m):(s.fresh n).toS=s.toS.fresh n:=by
 unfold St.fresh S.fresh
 have e:getR s.toS.m n=(getM s.m n).map Rt.toR:=getM_toM n s.m
 rw [e]
 cases hm:getM s.m n with
 | none=>rfl
 | some r=>exact drop_toS h
def SEq (s s':S):Prop:=(∀ i,getT s.t i=getT s'.t i)/\s.m=s'.m
theorem RX_SEq {g:G} {s s':S} {a:Act} {w:World} {H:FH} {γ:Gam} {F:Nm->Fp} (e:SEq s s') (h:RX g s a w H γ F):RX g s' a w H γ F:=by
 obtain ⟨t,m⟩:=s
 obtain ⟨t',m'⟩:=s'
 obtain ⟨e1,e2⟩:=e
 dsimp only at e1 e2
 subst e2
 exact ⟨h.mem,h.fr,h.nt,h.df,fun i=>by rw [<- e1 i]; exact h.t i⟩
theorem R_SEq {g:G} {s s':S} {a:Act} {w:World} (e:SEq s s') (h:R g s a w):R g s' a w:=by
 obtain ⟨H,γ,F,h⟩:=h; exact ⟨H,γ,F,RX_SEq e h⟩
theorem put_SEq (s:St) (d:Option Tmp) (v:At):SEq (s.toS.put d v.toV) (s.put d v).toS:=by
 cases d with
 | none=>exact ⟨fun _=>rfl,rfl⟩
 | some d=>
  refine ⟨fun i=>?_,rfl⟩
  show getT (setT _ d v.toV) i=getT ((d,v.toV)::_) i
  rw [getT_setT]; rfl
theorem lookS_map (f:Nat×Nat×At->Nat×At) (k:Nat):∀ t:List (Nat×Nat×At),lookS (t.map fun x=>(x.1,f x)) k=(lookS t k).map fun y=>f (k,y)
 | []=>rfl
 | (i,j,v)::t=>by
  simp only [List.map_cons,lookS]
  cases hb:Nat.beq i k with
  | true=>have:=Nat.eq_of_beq_eq_true hb; subst this; rfl
  | false=>exact lookS_map f k t
theorem lookM_map (f:Nm×Nat×Rt->Nat×Rt) (k:Nm):∀ t:List (Nm×Nat×Rt),lookM (t.map fun x=>(x.1,f x)) k=(lookM t k).map fun y=>f (k,y)
 | []=>rfl
 | (i,j,v)::t=>by
  simp only [List.map_cons,lookM]
  by_cases hb:i=k
  ·subst hb; rw [if_pos rfl,if_pos rfl]; rfl
  ·rw [if_neg hb,if_neg hb]; exact lookM_map f k t
structure Ext (s0 s:St):Prop where
 nx:s0.nx<=s.nx
 t:∀ k j v,lookS s.t k=some (j,v)->j<s0.nx->lookS s0.t k=some (j,v)
 m:∀ n j r,lookM s.m n=some (j,r)->j<s0.nx->lookM s0.m n=some (j,r)
theorem Ext.refl (s:St):Ext s s:=⟨Nat.le_refl _,fun _ _ _ h _=>h,fun _ _ _ h _=>h⟩
theorem Ext.trans {a b c:St} (h1:Ext a b) (h2:Ext b c):Ext a c:=
 ⟨Nat.le_trans h1.nx h2.nx,fun k j v h hj=>h1.t k j v (h2.t k j v h (Nat.lt_of_lt_of_le hj h1.nx)) hj,fun k j v h hj=>h1.m k j v (h2.m k j v h (Nat.lt_of_lt_of_le hj h1.nx)) hj⟩
abbrev ExtT (nx:Nat) (t t':List (Nat×Nat×At)):Prop:=∀ k j v,lookS t' k=some (j,v)->j<nx->lookS t k=some (j,v)
abbrev ExtM (nx:Nat) (m m':List (Nm×Nat×Rt)):Prop:=∀ n j r,lookM m' n=some (j,r)->j<nx->lookM m n=some (j,r)
theorem ExtM.trans {nx:Nat} {a b c:List (Nm×Nat×Rt)} (h1:ExtM nx a b) (h2:ExtM nx b c):ExtM nx a c:=fun n j r h hj=>h1 n j r (h2 n j r h hj) hj
theorem ExtT.trans {nx:Nat} {a b c:List (Nat×Nat×At)} (h1:ExtT nx a b) (h2:ExtT nx b c):ExtT nx a c:=fun n j r h hj=>h1 n j r (h2 n j r h hj) hj
theorem ExtT_cons {nx:Nat} {t:List (Nat×Nat×At)} (d i:Nat) (v:At) (hi:nx<=i):ExtT nx t ((d,i,v)::t):=by
 intro k j w h hj
 simp only [lookS] at h
 split at h
 ·simp only [Option.some.injEq,Prod.mk.injEq] at h; omega
 ·exact h
theorem ExtM_cons {nx:Nat} {t:List (Nm×Nat×Rt)} (d:Nm) (i:Nat) (v:Rt) (hi:nx<=i):ExtM nx t ((d,i,v)::t):=by
 intro k j w h hj
 simp only [lookM] at h
 split at h
 ·simp only [Option.some.injEq,Prod.mk.injEq] at h; omega
 ·exact h
theorem ExtT_map {nx i:Nat} {t:List (Nat×Nat×At)} (chg:At->Bool) (f:At->At) (hf:∀ v,chg v=false->f v=v) (hi:nx<=i) :
  ExtT nx t (t.map fun x=>(x.1,stp (chg x.2.2) i x.2.1,f x.2.2)):=by
 intro k j v h hj
 rw [lookS_map (fun x=>(stp (chg x.2.2) i x.2.1,f x.2.2))] at h
 cases hl:lookS t k with
 | none=>rw [hl] at h; cases h
 | some y=>
  obtain ⟨j',v'⟩:=y
  rw [hl] at h
  simp only [Option.map_some,Option.some.injEq,Prod.mk.injEq] at h
  cases hc:chg v' with
  | true=>rw [hc] at h; simp only [stp] at h; omega
  | false=>rw [hc,hf v' hc] at h; simp only [stp] at h; obtain ⟨rfl,rfl⟩:=h; rfl
theorem ExtT_kill {nx i:Nat} {t:List (Nat×Nat×At)} {bad:Bool->Pl->Bool} (hi:nx<=i):ExtT nx t (killA bad i t):=ExtT_map (·.hit bad) (·.kill bad) (fun _ h=>At_kill_id h) hi
theorem ExtM_kill {nx i:Nat} {t:List (Nm×Nat×Rt)} {bad:Bool->Pl->Bool} (hi:nx<=i):ExtM nx t (killMm bad i t):=by
 intro k j v h hj
 unfold killMm at h
 rw [lookM_map (fun x=>(stp (x.2.2.cells.any (·.hit bad)) i x.2.1,x.2.2.kill bad))] at h
 cases hl:lookM t k with
 | none=>rw [hl] at h; cases h
 | some y=>
  obtain ⟨j',r⟩:=y
  rw [hl] at h
  simp only [Option.map_some,Option.some.injEq,Prod.mk.injEq] at h
  cases hc:r.cells.any (·.hit bad) with
  | true=>rw [hc] at h; simp only [stp] at h; omega
  | false=>
   rw [hc] at h
   have:r.kill bad=r:=by unfold Rt.kill; rw [Tts_kill_id hc]
   rw [this] at h
   simp only [stp] at h
   obtain ⟨rfl,rfl⟩:=h; rfl
theorem lookM_delM (n k:Nm):∀ m:List (Nm×Nat×Rt),lookM (delM m n) k=if k=n then none else lookM m k
 | []=>by simp [delM,lookM]
 | (i,j,v)::m=>by
  simp only [delM]
  by_cases h:i=n
  ·subst h
   rw [if_pos rfl,lookM_delM i k m]
   by_cases hk:k=i
   ·rw [if_pos hk,if_pos hk]
   ·rw [if_neg hk,if_neg hk]; simp only [lookM]; rw [if_neg (fun e=>hk e.symm)]
  ·rw [if_neg h]
   simp only [lookM]
   by_cases hk:i=k
   ·subst hk; rw [if_pos rfl,if_neg h,if_pos rfl]
   ·rw [if_neg hk,if_neg hk,lookM_delM n k m]
theorem ExtM_del {nx:Nat} {m:List (Nm×Nat×Rt)} (n:Nm):ExtM nx m (delM m n):=by
 intro k j r h _
 rw [lookM_delM] at h
 split at h
 ·cases h
 ·exact h
theorem ExtM_set {nx i:Nat} (n:Nm) (r:Rt) (hi:nx<=i):∀ m:List (Nm×Nat×Rt),ExtM nx m (setM m n i r)
 | [],_,_,_,h,_=>h
 | (a,b,c)::m,k,j,v,h,hj=>by
  simp only [setM] at h
  split at h
  ·rename_i ha
   simp only [lookM] at h ⊢
   split at h
   ·simp only [Option.some.injEq,Prod.mk.injEq] at h; omega
   ·rename_i hk; rw [if_neg hk]; exact h
  ·simp only [lookM] at h ⊢
   split at h
   ·rename_i hk; rw [if_pos hk]; exact h
   ·rename_i hk; rw [if_neg hk]; exact ExtM_set n r hi m k j v h hj
theorem Ext_put (s:St) (d:Option Tmp) (v:At):Ext s (s.put d v):=by
 cases d with
 | none=>exact Ext.refl s
 | some d=>exact ⟨Nat.le_succ _,ExtT_cons d s.nx v (Nat.le_refl _),fun _ _ _ h _=>h⟩
theorem Ext_drop (s:St) (n:Nm):Ext s (s.drop n):=⟨Nat.le_succ _,ExtT_kill (Nat.le_refl _),(ExtM_del n).trans (ExtM_kill (Nat.le_refl _))⟩
theorem Ext_fresh (s:St) (n:Nm):Ext s (s.fresh n):=by
 unfold St.fresh; split
 ·exact Ext.refl s
 ·exact Ext_drop s n
theorem Ext_root (s:St) (n:Nm) (r:Rt):Ext s (s.root n r):=⟨Nat.le_succ _,fun _ _ _ h _=>h,ExtM_cons n s.nx r (Nat.le_refl _)⟩
theorem Tt_frz_toT (q:Pl) (u:U) (l:List (El u)) (t:Tt):(t.frz q u l).toT=t.toT.frz q (l.map (encU u)):=by
 cases t with
 | pl p=>exact Tt_kill_toT (thr q) (.pl p)
 | rf p=>
  obtain ⟨n,o,path⟩:=p
  cases path with
  | nil=>
   show (if n=q.root/\o=q.off then Tt.d (.li u l) else (Tt.rf ⟨n,o,[]⟩).kill (thr q)).toT=if n=q.root/\o=q.off then T.d (.li (l.map (encU u))) else (T.rf ⟨n,o,[]⟩).kill (thr q)
   by_cases h:n=q.root/\o=q.off
   ·rw [if_pos h,if_pos h]; rfl
   ·rw [if_neg h,if_neg h]; exact Tt_kill_toT (thr q) (.rf ⟨n,o,[]⟩)
  | cons st r=>exact Tt_kill_toT (thr q) (.rf ⟨n,o,st::r⟩)
 | _=>rfl
theorem A1_map_toV {f:Tt->Tt} {f':T->T} (h:∀ t,(f t).toT=f' t.toT) (x:A1):(x.map f).toV=x.toV.map f':=by
 cases x with
 | c t=>simp only [A1.map,A1.toV,AV1.map,h]
 | agg ts=>
  simp only [A1.map,A1.toV,AV1.map]
  congr 1
  rw [List.map_map,List.map_map]; exact List.map_congr_left fun t _=>h t
theorem At_map_toV {f:Tt->Tt} {f':T->T} (h:∀ t,(f t).toT=f' t.toT) (x:At):(x.map f).toV=x.toV.map f':=by
 cases x with
 | one x=>simp only [At.map,At.toV,AV.map,A1_map_toV h]
 | tup xs=>
  simp only [At.map,At.toV,AV.map]
  congr 1
  rw [List.map_map,List.map_map]; exact List.map_congr_left fun t _=>A1_map_toV h t
 | any=>rfl
theorem Tt_frz_id {q:Pl} {u:U} {l:List (El u)} {t:Tt} (h:t.hit (thrF q)=false):t.frz q u l=t:=by
 cases t with
 | pl p=>
  simp only [Tt.hit,thrF,Bool.false_and,Bool.or_false] at h
  exact Tt_kill_id (t:=.pl p) h
 | rf p=>
  simp only [Tt.hit,thrF,Bool.true_and,Bool.or_eq_false_iff] at h
  obtain ⟨n,o,path⟩:=p
  cases path with
  | nil=>
   simp only [Tt.frz]
   rw [if_neg (by simpa using h.2)]
   exact Tt_kill_id (t:=.rf ⟨n,o,[]⟩) h.1
  | cons st r=>exact Tt_kill_id (t:=.rf ⟨n,o,st::r⟩) h.1
 | _=>rfl
theorem At_frz_id {q:Pl} {u:U} {l:List (El u)} {x:At} (h:x.hit (thrF q)=false):x.map (Tt.frz q u l)=x:=by
 have one:∀ {y:A1},y.hit (thrF q)=false->y.map (Tt.frz q u l)=y:=by
  intro y hy
  cases y with
  | c t=>simp only [A1.map,Tt_frz_id (show t.hit _=false from hy)]
  | agg ts=>
   simp only [A1.hit] at hy
   simp only [A1.map]
   congr 1
   induction ts with
   | nil=>rfl
   | cons t ts ih=>
    simp only [List.any_cons,Bool.or_eq_false_iff] at hy
    rw [List.map_cons,Tt_frz_id hy.1,ih hy.2]
 cases x with
 | one y=>simp only [At.map,one (show y.hit _=false from h)]
 | tup xs=>
  simp only [At.hit] at h
  simp only [At.map]
  congr 1
  induction xs with
  | nil=>rfl
  | cons y ys ih=>
   simp only [List.any_cons,Bool.or_eq_false_iff] at h
   rw [List.map_cons,one h.1,ih h.2]
 | any=>rfl
theorem getM_lookM (n:Nm):∀ m:List (Nm×Nat×Rt),getM m n=(lookM m n).map (·.2)
 | []=>rfl
 | (k,j,r)::m=>by
  simp only [getM,lookM]
  by_cases h:k=n
  ·rw [if_pos h,if_pos h]; rfl
  ·rw [if_neg h,if_neg h]; exact getM_lookM n m
theorem Ext_frzPt (s:St) (q:Pl):Ext s (frzPt s q):=by
 unfold frzPt
 split
 ·split
  ·rename_i u l _ _
   refine ⟨Nat.le_succ _,ExtT_map (·.hit (thrF q)) (·.map (Tt.frz q u l)) (fun _ h=>At_frz_id h) (Nat.le_refl _),?_⟩
   have hset:∀ (m:List (Nm×Nat×Rt)) off t,ExtM s.nx m (setCell m q.root s.nx off t):=by
    intro m off t
    unfold setCell
    split
    ·exact ExtM_set _ _ (Nat.le_refl _) m
    ·exact fun _ _ _ h _=>h
   exact ((hset _ _ _).trans (ExtM_kill (Nat.le_refl _))).trans (hset _ _ _)
  ·exact Ext.refl s
 ·exact Ext.refl s
theorem setCell_toM {m:List (Nm×Nat×Rt)} {n:Nm} {i off:Nat} {t:Tt} {r:Rt} (hr:getM m n=some r) (hh:r.hole=none) :
  toM (setCell m n i off t)=setR (toM m) n ⟨r.blk,(r.toR.cells).set off t.toT⟩:=by
 unfold setCell
 rw [hr]
 dsimp only
 rw [setM_toM]
 congr 1
 simp only [Rt.toR,hh,holed,List.map_set]
theorem getM_setCell {m:List (Nm×Nat×Rt)} {n:Nm} {i off:Nat} {t:Tt} {r:Rt} (hr:getM m n=some r):getM (setCell m n i off t) n=some { r with cells:=r.cells.set off t }:=by
 unfold setCell
 rw [hr]
 dsimp only
 induction m with
 | nil=>cases hr
 | cons x m ih=>
  obtain ⟨k,j,v⟩:=x
  simp only [setM]
  simp only [getM] at hr
  by_cases h:k=n
  ·rw [if_pos h]; simp only [getM]; rw [if_pos h]
  ·rw [if_neg h] at hr ⊢; simp only [getM]; rw [if_neg h]; exact ih hr
theorem getM_kill (bad:Bool->Pl->Bool) (i:Nat) (n:Nm) (m:List (Nm×Nat×Rt)):getM (killMm bad i m) n=(getM m n).map (·.kill bad):=by
 rw [getM_lookM,getM_lookM]
 unfold killMm
 rw [lookM_map (fun x=>(stp (x.2.2.cells.any (·.hit bad)) i x.2.1,x.2.2.kill bad))]
 cases lookM m n <;> rfl
theorem RXt_frzPt {g:G} {s:St} {a:Act} {w:World} {H:FH} {γ:Gam} {F:Nm->Fp} (h:RX g s.toS a w H γ F) (q:Pl):∃ H' F',RX g (frzPt s q).toS a w H' γ F':=by
 unfold frzPt
 split
 ·rename_i r hpath hr
  split
  ·rename_i sh u l hh hc
   obtain ⟨H',F',h'⟩:=RX_frz h q
   refine ⟨H',F',?_⟩
   have ec:r.toR.cells[q.off]? = some (.ow sh (l.map (encU u))):=by
    show (holed (r.cells.map Tt.toT) r.hole)[q.off]? = _
    rw [hh]
    show (r.cells.map Tt.toT)[q.off]? = _
    rw [List.getElem?_map,hc]; rfl
   have eg:getR s.toS.m q.root=some r.toR:=getR_of hr
   have egp:getPl s.toS.m q=some (.ow sh (l.map (encU u))):=by
    unfold getPl
    rw [eg,hpath]
    exact ec
   have efrz:frzP s.toS q=⟨mapT (AV.map (T.frz q (l.map (encU u)))) s.toS.t,frzM s.toS.m q (l.map (encU u))⟩:=by
    unfold frzP
    rw [egp,hpath]
   rw [efrz] at h'
   have key:(⟨s.nx+1,s.t.map fun x=>(x.1,stp (x.2.2.hit (thrF q)) s.nx x.2.1,x.2.2.map (Tt.frz q u l)),
     setCell (killMm (thr q) s.nx (setCell s.m q.root s.nx q.off .any)) q.root s.nx q.off (.d (.li u l))⟩:St).toS=⟨mapT (AV.map (T.frz q (l.map (encU u)))) s.toS.t,frzM s.toS.m q (l.map (encU u))⟩:=by
    refine drop_toS.S_ext ?_ ?_
    ·simp only [St.toS,mapT,List.map_map]
     exact List.map_congr_left fun x _=>by simp only [Function.comp,At_map_toV (Tt_frz_toT q u l)]
    ·have g1:=getM_setCell (i:=s.nx) (off:=q.off) (t:=.any) hr
     have g2:getM (killMm (thr q) s.nx (setCell s.m q.root s.nx q.off .any)) q.root=some (({ r with cells:=r.cells.set q.off .any }:Rt).kill (thr q)):=by rw [getM_kill,g1]; rfl
     show toM (setCell _ q.root s.nx q.off (.d (.li u l)))=_
     rw [setCell_toM g2 hh,killMm_toM,setCell_toM hr hh]
     unfold frzM
     have p1:putPl s.toS.m q .any=setR (toM s.m) q.root ⟨r.blk,r.toR.cells.set q.off Tt.any.toT⟩:=by
      unfold putPl
      rw [eg,hpath]
      rfl
     rw [p1]
     have g3:getR (killM (thr q) (setR (toM s.m) q.root ⟨r.blk,r.toR.cells.set q.off Tt.any.toT⟩)) q.root=some ⟨r.blk,(r.toR.cells.set q.off Tt.any.toT).map (·.kill (thr q))⟩:=by
      have:=getR_of g2
      rw [killMm_toM,setCell_toM hr hh] at this
      rw [this,Rt_kill_toR]
      simp only [Rt.toR,hh,holed,List.map_set,Tt.toT]
     unfold putPl
     rw [g3,hpath]
     dsimp only
     congr 1
     simp only [Rt.toR,Rt.kill,hh,holed,List.map_set,Tts_kill,List.set_set,Tt.toT,C.toD]
   rw [key]; exact h'
  ·exact ⟨H,F,h⟩
 ·exact ⟨H,F,h⟩
end Go.Am
end

section
namespace Go.Am
section
variable {g:G} {a:Act} {w:World} {γ:Gam}
theorem RXt_frzTt {s:St} {H:FH} {F:Nm->Fp} (h:RX g s.toS a w H γ F) (t:Tt):∃ H' F',RX g (frzTt s t).toS a w H' γ F':=by
 cases t with
 | rf p=>exact RXt_frzPt h p
 | _=>exact ⟨H,F,h⟩
theorem RXt_frzTts:∀ (ts:List Tt) (s:St) (H:FH) (F:Nm->Fp),RX g s.toS a w H γ F->∃ H' F',RX g (frzTts s ts).toS a w H' γ F'
 | [],_,H,F,h=>⟨H,F,h⟩
 | t::ts,s,H,F,h=>by
  obtain ⟨H1,F1,h1⟩:=RXt_frzTt h t
  exact RXt_frzTts ts _ H1 F1 h1
theorem RXt_frzAt {s:St} {H:FH} {F:Nm->Fp} (h:RX g s.toS a w H γ F) (v:At):∃ H' F',RX g (frzAt s v).toS a w H' γ F':=by
 cases v with
 | one x=>cases x with
  | c t=>exact RXt_frzTt h t
  | agg ts=>exact RXt_frzTts ts s H F h
 | _=>exact ⟨H,F,h⟩
theorem RXt_frzAts:∀ (vs:List At) (s:St) (H:FH) (F:Nm->Fp),RX g s.toS a w H γ F->∃ H' F',RX g (frzAts s vs).toS a w H' γ F'
 | [],_,H,F,h=>⟨H,F,h⟩
 | v::vs,s,H,F,h=>by
  obtain ⟨H1,F1,h1⟩:=RXt_frzAt h v
  exact RXt_frzAts vs _ H1 F1 h1
theorem RXt_mono {s s':St} {H:FH} {F:Nm->Fp} (hX:RX g s.toS a w H γ F) (hf:∀ (g':G) (H:FH) (F:Nm->Fp),RX g' s.toS a w H γ F->∃ H' F',RX g' s'.toS a w H' γ F') :
  ∃ H' F',RX g s'.toS a w H' γ F'/\∀ b o y,H b o=some y->H' b o=some y:=by
 let g':G:=⟨g.nt,w,H,tot F s.toS.m,g.out,g.ex,g.dfs⟩
 have hX2:RX g' s.toS a w H γ F:=⟨hX.mem,Fr.refl' rfl rfl rfl rfl (fun _ h=>h),hX.nt,⟨hX.df.1,hX.df.2.1,RX_globs hX⟩,hX.t⟩
 obtain ⟨H',F',h⟩:=hf g' H F hX2
 exact ⟨H',F',⟨h.mem,hX.fr.trans h.fr,h.nt,⟨h.df.1,h.df.2.1,hX.df.2.2⟩,h.t⟩,h.fr.hold⟩
theorem RXt_frzSt:∀ (ts:List Tt) (s:St) (p:Pl) (H:FH) (F:Nm->Fp),RX g s.toS a w H γ F->∃ H' F',RX g (frzSt s p ts).toS a w H' γ F'
 | [],s,_,H,F,h=>⟨H,F,h⟩
 | t::ts,s,p,H,F,h=>by
  cases t with
  | rf q=>
   simp only [frzSt]
   split
   ·obtain ⟨H1,F1,h1⟩:=RXt_frzPt h q
    exact RXt_frzSt ts _ _ H1 F1 h1
   ·exact RXt_frzSt ts _ _ H F h
  | _=>exact RXt_frzSt ts s (p.add 1) H F h
theorem RXt_frzTo {s:St} {H:FH} {F:Nm->Fp} (h:RX g s.toS a w H γ F) (x v:At):∃ H' F',RX g (frzTo s x v).toS a w H' γ F':=by
 unfold frzTo
 split
 ·exact RXt_frzSt _ _ _ H F h
 ·exact ⟨H,F,h⟩
theorem Ext_frzTt (s:St) (t:Tt):Ext s (frzTt s t):=by
 cases t with
 | rf p=>exact Ext_frzPt s p
 | _=>exact Ext.refl s
theorem Ext_frzTts:∀ (ts:List Tt) (s:St),Ext s (frzTts s ts)
 | [],s=>Ext.refl s
 | t::ts,s=>(Ext_frzTt s t).trans (Ext_frzTts ts _)
theorem Ext_frzAt (s:St) (v:At):Ext s (frzAt s v):=by
 cases v with
 | one x=>cases x with
  | c t=>exact Ext_frzTt s t
  | agg ts=>exact Ext_frzTts ts s
 | _=>exact Ext.refl s
theorem Ext_frzSt:∀ (ts:List Tt) (s:St) (p:Pl),Ext s (frzSt s p ts)
 | [],s,_=>Ext.refl s
 | t::ts,s,p=>by
  cases t with
  | rf q=>
   simp only [frzSt]
   split
   ·exact (Ext_frzPt s q).trans (Ext_frzSt ts _ _)
   ·exact Ext_frzSt ts _ _
  | _=>exact Ext_frzSt ts s (p.add 1)
theorem Ext_frzTo (s:St) (x v:At):Ext s (frzTo s x v):=by
 unfold frzTo
 split
 ·exact Ext_frzSt _ _ _
 ·exact Ext.refl s
theorem Ext_frzAts:∀ (vs:List At) (s:St),Ext s (frzAts s vs)
 | [],s=>Ext.refl s
 | v::vs,s=>(Ext_frzAt s v).trans (Ext_frzAts vs _)
theorem RXt_preF {s:St} {H:FH} {F:Nm->Fp} (h:RX g s.toS a w H γ F) (o:Oper):∃ H' F',RX g (preF s o).toS a w H' γ F':=by
 unfold preF
 split
 ·exact RXt_frzAt h _
 ·exact RXt_frzAt h _
 ·exact ⟨H,F,h⟩
theorem Ext_preF (s:St) (o:Oper):Ext s (preF s o):=by
 unfold preF
 split
 ·exact Ext_frzAt s _
 ·exact Ext_frzAt s _
 ·exact Ext.refl s
theorem frzT_noRf {s:S} {t:Tt} (h:t.noRf=true):frzT s t.toT=s:=by
 cases t with
 | rf p=>cases h
 | _=>rfl
theorem frzTs_noRf {s:S}:∀ {ts:List Tt},ts.all Tt.noRf=true->frzTs s (ts.map Tt.toT)=s
 | [],_=>rfl
 | t::ts,h=>by
  simp only [List.all_cons,Bool.and_eq_true] at h
  simp only [List.map_cons,frzTs]
  rw [frzT_noRf h.1,frzTs_noRf h.2]
theorem frzV_noRf {s:S} {v:At} (h:v.noRf=true):frzV s v.toV=s:=by
 cases v with
 | one x=>cases x with
  | c t=>exact frzT_noRf h
  | agg ts=>exact frzTs_noRf h
 | _=>rfl
theorem frzVs_noRf {s:S}:∀ {vs:List At},vs.all At.noRf=true->frzVs s (vs.map At.toV)=s
 | [],_=>rfl
 | v::vs,h=>by
  simp only [List.all_cons,Bool.and_eq_true] at h
  simp only [List.map_cons,frzVs]
  rw [frzV_noRf h.1,frzVs_noRf h.2]
theorem okP_ev {s:St} {H:FH} {F:Nm->Fp} (hX:RX g s.toS a w H γ F) {x:Operand} (hc:okOp x=true) :
  (∀ p,evA s x=.one (.c (.rf p))->okP (toM s.m) p)/\(∀ p,evA s x=.one (.c (.pl p))->okP (toM s.m) p):=by
 have h:=ev_ok hX hc
 rw [evA_toV hc] at h
 refine ⟨fun p e=>?_,fun p e=>?_⟩
 ·rw [e] at h
  obtain ⟨_,h1,_⟩:=h
  exact okP_rf h1
 ·rw [e] at h
  obtain ⟨_,h1,_⟩:=h
  exact okP_pl h1
theorem gift_mono {gd:Option (Nat×Bool)} {n:Nat} {q q':Prop} (hq:q->q') (h:gift gd n q):gift gd n q':=by
 cases gd with
 | none=>exact fun hh=>hq (h hh)
 | some _=>exact hq h
theorem lenT_mono {gd:Option (Nat×Bool)} {m:List (Nm×Nat×Rt)} {x:At} {k k':Nat->Prop} (hk:∀ n,k n->k' n) (h:lenT gd m x k):lenT gd m x k':=by
 unfold lenT at h ⊢
 split at h
 ·exact gift_mono (hk _) h
 ·exact gift_mono (hk _) h
 ·exact hk _ h
 ·split at h
  ·exact gift_mono (hk _) h
  ·exact h.elim
 ·exact h.elim
theorem isStr_toV (x:At):isStrAV x.toV=isStrA x:=by
 cases x with
 | one x=>cases x with
  | c t=>cases t with
   | d c=>cases c <;> rfl
   | _=>rfl
  | agg ts=>rfl
 | _=>rfl
theorem qT_ok {e:En} {o:Oper} {s:St} {k:At->Prop} {H:FH} {F:Nm->Fp} (hX:RX g s.toS a w H γ F) (hc:opC g.nt o=true) (h:qT e o s k):qK e.P o s.toS (up k):=by
 unfold opC at hc
 rw [Bool.and_eq_true] at hc
 obtain ⟨_,hc⟩:=hc
 unfold qT at h
 unfold qK
 cases ho:o.op with
 | move x=>rw [ho] at h hc; exact ⟨_,evA_toV hc,h⟩
 | assign x=>rw [ho] at h hc; exact ⟨_,evA_toV hc,h⟩
 | pick c x y=>
  rw [ho] at h hc
  simp only [Bool.and_eq_true] at hc
  dsimp only
  rw [evA_toV hc.1.1,evA_toV hc.1.2,evA_toV hc.2]
  exact pickT_ok h
 | binOp op t x y z=>
  rw [ho] at h hc
  simp only [Bool.and_eq_true] at hc
  dsimp only
  rw [evA_toV hc.1,evA_toV hc.2]
  exact binT_ok h
 | unOp op t x=>rw [ho] at h hc; dsimp only at hc ⊢; rw [evA_toV hc]; exact unT_ok h
 | load t x=>rw [ho] at h hc; dsimp only at hc ⊢; rw [evA_toV hc]; exact loadT_ok (okP_ev hX hc).2 h
 | field t x i=>rw [ho] at h hc; dsimp only at hc ⊢; rw [evA_toV hc]; exact fieldT_ok h
 | fieldAddr t x i=>rw [ho] at h hc; dsimp only at hc ⊢; rw [evA_toV hc]; exact fieldAddrT_ok h
 | indexAddr t x i=>
  rw [ho] at h hc
  simp only [Bool.and_eq_true] at hc
  dsimp only
  rw [evA_toV hc.1,evA_toV hc.2]
  exact indexAddrT_ok (okP_ev hX hc.1).1 h
 | index t x i=>
  rw [ho] at h hc
  simp only [Bool.and_eq_true] at hc
  dsimp only at h ⊢
  split at h
  ·rename_i ht
   rw [evA_toV hc.1,evA_toV hc.2]
   exact ⟨ht,strAtT_ok h⟩
  ·exact h.elim
 | extract x i=>rw [ho] at h hc; dsimp only at hc ⊢; rw [evA_toV hc]; exact extractT_ok h
 | convert su du x=>rw [ho] at h hc; dsimp only at hc ⊢; rw [evA_toV hc]; exact convT_ok h
 | slice t x lo hi mx=>
  rw [ho] at h hc
  cases mx with
  | some _=>exact h.elim
  | none=>
   dsimp only at h hc ⊢
   simp only [Bool.and_eq_true] at hc
   have opt:∀ (y:Option Operand),y.all okOp=true->y.map (ev s.toS)=(y.map (evA s)).map At.toV:=by
    intro y hy
    cases y with
    | none=>rfl
    | some y=>simp only [Option.map_some]; rw [evA_toV (by simpa using hy)]
   rw [evA_toV hc.1.1,opt lo hc.1.2,opt hi hc.2]
   exact sliceT_ok h
 | nilCheck x=>rw [ho] at h hc; dsimp only at hc ⊢; rw [evA_toV hc]; exact nilCheckT_ok h
 | build t ps=>rw [ho] at h hc; dsimp only at hc ⊢; rw [partsT_ok hc]; exact buildT_ok h
 | call c=>
  rw [ho] at h hc
  obtain ⟨callee,args,argTypes⟩:=c
  obtain ⟨args⟩:=args
  obtain ⟨argTypes⟩:=argTypes
  dsimp only at h hc ⊢
  cases callee with
  | builtin b=>
   cases b with
   | len=>
    match args,argTypes,h with
    | [x],[t],h=>
     have h1:okOp x=true:=by simpa using hc
     dsimp only at h ⊢
     split at h
     ·rename_i hl
      rw [evA_toV h1,isStr_toV]
      refine ⟨hl,?_⟩
      exact lenT_ok (okP_ev hX h1).1 (lenT_mono (fun n hn=>⟨_,rfl,hn⟩) h)
     ·exact h.elim
   | _=>exact h.elim
  | _=>exact h.elim
 | _=>rw [ho] at h; exact h.elim
end
end Go.Am
end

section
namespace Go.Am
theorem rowT_ok {u:U} {x x':El u} {off:Nat} {c:C} (h:rowT u x off c=some x'):(∃ d,(encU u x)[off]? = some d)/\encU u x'=(encU u x).set off c.toD:=by
 unfold rowT at h
 split at h
 ·rename_i c0 hc
  have e:=unflat_eq h
  refine ⟨⟨c0.toD,by rw [<- flat_enc,List.getElem?_map,hc]; rfl⟩,?_⟩
  rw [<- flat_enc,<- e,<- flat_enc,List.map_set]
 ·cases h
theorem setT1_ok:∀ {path:List Step} {sub:List Sh} {u:U} {l l':List (El u)} {t:Tt} {k:Prop} {K:List (List D)->Prop},okTP sub u l path k->setT1 sub u l t path=some l'->K (l'.map (encU u))->setIn sub (l.map (encU u)) t.toT path K
 | [],_,_,_,_,_,_,_,h,_,_=>h.elim
 | [st],sub,u,l,l',t,k,K,h,ht,hK=>by
  obtain ⟨h1,_⟩:=h
  simp only [setT1] at ht
  simp only [setIn]
  rw [get_enc l h1]
  dsimp only
  split at ht
  ·rename_i c hs
   split at ht
   ·rename_i x hx
    simp only [Option.some.injEq] at ht
    subst ht
    obtain ⟨⟨d,hd⟩,e⟩:=rowT_ok hx
    rw [hs,hd]
    dsimp only
    refine ⟨trivial,?_⟩
    rw [List.map_set,e] at hK
    exact hK
   ·cases ht
  ·rename_i hs
   split at ht
   ·rename_i u' l0 hf
    split at ht
    ·rename_i x hx
     simp only [Option.some.injEq] at ht
     subst ht
     obtain ⟨⟨d,hd⟩,e⟩:=rowT_ok hx
     rw [hs,hd]
     dsimp only
     refine ⟨trivial,?_⟩
     rw [List.map_set,e] at hK
     exact hK
    ·cases ht
   ·cases ht
  ·cases ht
 | st::st'::r,sub,u,l,l',t,k,K,h,ht,hK=>by
  simp only [setT1] at ht
  simp only [setIn]
  simp only [okTP] at h
  split at ht
  ·rename_i s u' l0 e1 e2
   rw [e1,e2] at h
   obtain ⟨h1,h4⟩:=h
   rw [get_enc l h1]
   dsimp only
   split at ht
   ·rename_i l2 hl2
    split at ht
    ·rename_i x hx
     simp only [Option.some.injEq] at ht
     subst ht
     obtain ⟨_,e⟩:=rowT_ok hx
     have e3:(encU u (l.getD st.idx (dflt u)))[st.off]? = some (.li (l0.map (encU u'))):=by
      rw [<- flat_enc,List.getElem?_map,e2]; rfl
     rw [e1,e3]
     dsimp only
     refine setT1_ok h4 hl2 ?_
     rw [List.map_set,e] at hK
     exact hK
    ·cases ht
   ·cases ht
  ·cases ht
mutual
theorem shpEq_eq:∀ {a b:Sh},shpEq a b=true->a=b
 | .fr,.fr,_=>rfl
 | .ow a,.ow b,h=>by simp only [shpEq] at h; rw [shpEqs_eq h]
 | .fr,.ow _,h=>by simp [shpEq] at h
 | .ow _,.fr,h=>by simp [shpEq] at h
theorem shpEqs_eq:∀ {a b:List Sh},shpEqs a b=true->a=b
 | [],[],_=>rfl
 | a::r,b::q,h=>by
  simp only [shpEqs,Bool.and_eq_true] at h
  rw [shpEq_eq h.1,shpEqs_eq h.2]
 | [],_::_,h=>by simp [shpEqs] at h
 | _::_,[],h=>by simp [shpEqs] at h
end
theorem fillH_ok:∀ {path:List Step} {sub:List Sh} {u:U} {l l':List (El u)} {sh:List Sh} {v:U} {lv:List (El v)} {k:Prop} {K:List (List D)->Prop},okTP sub u l path k->fillH sub u l sh v lv path=some l'->K (l'.map (encU u)) ->
  setIn sub (setO sub (l.map (encU u)) .any path) (.ow sh (lv.map (encU v))) path K
 | [],_,_,_,_,_,_,_,_,_,h,_,_=>h.elim
 | [st],sub,u,l,l',sh,v,lv,k,K,h,ht,hK=>by
  obtain ⟨h1,_⟩:=h
  have h1':st.idx < (l.map (encU u)).length:=by rw [List.length_map]; exact h1
  simp only [fillH] at ht
  split at ht
  ·rename_i s c hs hc
   split at ht
   ·rename_i x hsh hx
    simp only [Option.some.injEq] at ht
    subst ht
    obtain ⟨⟨d,hd⟩,e⟩:=rowT_ok hx
    have hlt:st.off < (encU u (l.getD st.idx (dflt u))).length:=lt_of_get hd
    have hset:setO sub (l.map (encU u)) .any [st]=(l.map (encU u)).set st.idx ((encU u (l.getD st.idx (dflt u))).set st.off .any):=by
     simp only [setO]; rw [getD_enc l h1]
    rw [hset]
    simp only [setIn]
    rw [List.getElem?_set_self h1']
    dsimp only
    rw [hs,List.getElem?_set_self hlt]
    dsimp only
    refine ⟨shpEqs_eq hsh,?_⟩
    rw [List.set_set,List.set_set]
    rw [List.map_set,e] at hK
    exact hK
   ·cases ht
  ·cases ht
 | st::st'::r,sub,u,l,l',sh,v,lv,k,K,h,ht,hK=>by
  simp only [fillH] at ht
  simp only [okTP] at h
  split at ht
  ·rename_i s u' l0 e1 e2
   rw [e1,e2] at h
   obtain ⟨h1,h4⟩:=h
   have h1':st.idx < (l.map (encU u)).length:=by rw [List.length_map]; exact h1
   split at ht
   ·rename_i l2 hl2
    split at ht
    ·rename_i x hx
     simp only [Option.some.injEq] at ht
     subst ht
     obtain ⟨_,e⟩:=rowT_ok hx
     have e3:(encU u (l.getD st.idx (dflt u)))[st.off]? = some (.li (l0.map (encU u'))):=by
      rw [<- flat_enc,List.getElem?_map,e2]; rfl
     have hlt:st.off < (encU u (l.getD st.idx (dflt u))).length:=lt_of_get e3
     have e4:(encU u (l.getD st.idx (dflt u))).getD st.off default=.li (l0.map (encU u')):=by rw [List.getD,e3]; rfl
     have hset:setO sub (l.map (encU u)) .any (st::st'::r)=(l.map (encU u)).set st.idx ((encU u (l.getD st.idx (dflt u))).set st.off (.li (setO s (l0.map (encU u')) .any (st'::r)))):=by
      simp only [setO]; rw [getD_enc l h1,e1,e4]
     rw [hset]
     simp only [setIn]
     rw [List.getElem?_set_self h1']
     dsimp only
     rw [e1,List.getElem?_set_self hlt]
     dsimp only
     refine fillH_ok h4 hl2 ?_
     rw [List.set_set,List.set_set]
     rw [List.map_set,e] at hK
     exact hK
    ·cases ht
   ·cases ht
  ·cases ht
theorem okTP_k:∀ {path:List Step} {sub:List Sh} {u:U} {l:List (El u)} {k:Prop},okTP sub u l path k->k
 | [],_,_,_,_,h=>h.elim
 | [st],_,_,_,_,h=>h.2
 | st::st'::r,sub,u,l,k,h=>by
  simp only [okTP] at h
  split at h
  ·exact okTP_k h.2
  ·exact h.elim
theorem okTP_mono:∀ {path:List Step} {sub:List Sh} {u:U} {l:List (El u)} {k k':Prop},(k->k')->okTP sub u l path k->okTP sub u l path k'
 | [],_,_,_,_,_,_,h=>h.elim
 | [st],_,_,_,_,_,hk,h=>⟨h.1,hk h.2⟩
 | st::st'::r,sub,u,l,k,k',hk,h=>by
  simp only [okTP] at h ⊢
  split at h
  ·exact ⟨h.1,okTP_mono hk h.2⟩
  ·exact h.elim
theorem eqPath_eq:∀ {a b:List Step} {k:Prop},eqPath a b k->a=b/\k
 | [],[],_,h=>⟨rfl,h⟩
 | x::r,y::q,k,h=>by
  simp only [eqPath] at h
  split at h
  ·rename_i hb
   rw [Bool.and_eq_true] at hb
   obtain ⟨e,hk⟩:=eqPath_eq h.2
   obtain ⟨a1,a2,a3⟩:=x; obtain ⟨b1,b2,b3⟩:=y
   have h1:a1=b1:=h.1
   have h2:a2=b2:=Nat.eq_of_beq_eq_true hb.1
   have h3:a3=b3:=Nat.eq_of_beq_eq_true hb.2
   subst h1; subst h2; subst h3; subst e
   exact ⟨rfl,hk⟩
  ·exact h.elim
 | [],_::_,_,h=>h.elim
 | _::_,[],_,h=>h.elim
theorem eqPath_mono:∀ {a b:List Step} {k k':Prop},(k->k')->eqPath a b k->eqPath a b k'
 | [],[],_,_,hk,h=>hk h
 | x::r,y::q,k,k',hk,h=>by
  simp only [eqPath] at h ⊢
  split at h
  ·exact ⟨h.1,eqPath_mono hk h.2⟩
  ·exact h.elim
 | [],_::_,_,_,_,h=>h.elim
 | _::_,[],_,_,_,h=>h.elim
theorem inT_look:∀ {path:List Step} {sub:List Sh} {u:U} {l:List (El u)} {sh:List Sh} {v:U} {lv:List (El v)},okO sub (l.map (encU u)) path->inT sub u l 1 path=some [.ow sh v lv]->lookO sub (l.map (encU u)) path=some (.ow sh,.li (lv.map (encU v)))
 | [],_,_,_,_,_,_,h,_=>h.elim
 | [st],sub,u,l,sh,v,lv,h,ht=>by
  obtain ⟨h1,h2,h3⟩:=h
  rw [List.length_map] at h1
  simp only [inT] at ht
  split at ht
  ·simp only [Option.some.injEq] at ht
   have e1:sub[st.off]? = some sub[st.off]:=List.getElem?_eq_getElem h3
   cases hc:(flat u (l.getD st.idx (dflt u)))[st.off]? with
   | none=>
    have:((flat u (l.getD st.idx (dflt u))).drop st.off).take 1=[]:=by
     rw [List.drop_eq_nil_of_le (List.getElem?_eq_none_iff.1 hc)]; rfl
    rw [this] at ht
    simp at ht
   | some c=>
    have hlt:=lt_of_get hc
    have ec:(flat u (l.getD st.idx (dflt u)))[st.off]=c:=by
     rw [List.getElem?_eq_getElem hlt] at hc; exact Option.some.inj hc
    have d1:(sub.drop st.off).take 1=[sub[st.off]]:=by rw [List.drop_eq_getElem_cons h3]; rfl
    have d2:((flat u (l.getD st.idx (dflt u))).drop st.off).take 1=[c]:=by rw [List.drop_eq_getElem_cons hlt,ec]; rfl
    rw [d1,d2] at ht
    simp only [List.zipWith_cons_cons,List.zipWith_nil_left,List.cons.injEq,and_true] at ht
    simp only [lookO,e1,Option.map_some,getD_enc l h1]
    have e3:(encU u (l.getD st.idx (dflt u))).getD st.off default=c.toD:=by
     rw [List.getD,<- flat_enc,List.getElem?_map,hc]; rfl
    rw [e3]
    generalize sub[st.off]=s0 at ht
    cases s0 with
    | fr=>cases ht
    | ow s1=>
     cases c with
     | li u1 l1=>
      simp only [Tt.ow.injEq] at ht
      obtain ⟨rfl,rfl,e⟩:=ht
      rw [eq_of_heq e]; rfl
     | _=>cases ht
  ·cases ht
 | st::st'::r,sub,u,l,sh,v,lv,h,ht=>by
  obtain ⟨⟨h1,h2,h3⟩,h4⟩:=h
  rw [List.length_map] at h1
  simp only [inT] at ht
  split at ht
  ·rename_i s u' l0 e1 e2
   have e3:(encU u (l.getD st.idx (dflt u))).getD st.off default=.li (l0.map (encU u')):=by
    rw [List.getD,<- flat_enc,List.getElem?_map,e2]; rfl
   rw [e1,getD_enc l h1,e3] at h4
   simp only [lookO]
   rw [e1,getD_enc l h1,e3]
   exact inT_look h4 ht
  ·cases ht
theorem holed_at {cells:List Tt} {off:Nat} {sub:List Sh} {u:U} {l:List (El u)} (st:Step) (q:List Step) (h:cells[off]? = some (.ow sub u l)) :
  holed (cells.map Tt.toT) (some (off,st,q))=(cells.map Tt.toT).set off (.ow sub (setO sub (l.map (encU u)) .any (st::q))):=by
 unfold holed
 dsimp only
 rw [List.getElem?_map,h]
 rfl
def overD (row:List D) (off:Nat):List D->List D
 | []=>row
 | d::r=>overD (row.set off d) (off+1) r
def setInL (sub:List Sh) (l:List (List D)):List T->List Step->(List (List D)->Prop)->Prop
 | [],_,K=>K l
 | t::ts,path,K=>setIn sub l t path fun l1=>setInL sub l1 ts (addLast path 1) K
theorem setIn_mono':∀ {path:List Step} {sub:List Sh} {l:List (List D)} {t:T} {K K':List (List D)->Prop},(∀ x,K x->K' x)->setIn sub l t path K->setIn sub l t path K'
 | [],_,_,_,_,_,_,h=>h.elim
 | [st],sub,l,t,K,K',hk,h=>by
  simp only [setIn] at h ⊢
  split at h
  ·split at h
   ·exact ⟨h.1,hk _ h.2⟩
   ·exact ⟨h.1,hk _ h.2⟩
   ·exact h.elim
  ·exact h.elim
 | st::st'::r,sub,l,t,K,K',hk,h=>by
  simp only [setIn] at h ⊢
  split at h
  ·split at h
   ·exact setIn_mono' (fun x hx=>hk _ hx) h
   ·exact h.elim
  ·exact h.elim
theorem setInL_mono:∀ {ts:List T} {path:List Step} {sub:List Sh} {l:List (List D)} {K K':List (List D)->Prop},(∀ x,K x->K' x)->setInL sub l ts path K->setInL sub l ts path K'
 | [],_,_,_,_,_,hk,h=>hk _ h
 | t::ts,path,sub,l,K,K',hk,h=>setIn_mono' (fun x hx=>setInL_mono hk hx) h
def isDT:T->Bool
 | .d _=>true
 | .nil=>true
 | _=>false
theorem setInL_one {sub:List Sh} {idx esz:Nat}:∀ {ts:List T} {l:List (List D)} {off:Nat} {row:List D} {K:List (List D)->Prop},l[idx]? = some row->ts.all isDT=true->frs sub off ts.length=true->off+ts.length<=row.length ->
  K (l.set idx (overD row off (ts.map T.toD)))->setInL sub l ts [⟨idx,esz,off⟩] K
 | [],l,off,row,K,hl,_,_,_,hK=>by
  have:l.set idx row=l:=by
   apply List.ext_getElem?
   intro n
   rw [List.getElem?_set]
   split
   ·rename_i e
    subst e
    have hlt:=lt_of_get hl
    rw [if_pos hlt]; exact hl.symm
   ·rfl
  simp only [List.map_nil,overD,this] at hK
  exact hK
 | t::ts,l,off,row,K,hl,hd,hf,hlen,hK=>by
  simp only [List.all_cons,Bool.and_eq_true] at hd
  simp only [List.length_cons] at hlen hf
  simp only [frs] at hf
  cases hs:sub[off]? with
  | none=>rw [hs] at hf; cases hf
  | some s=>
   rw [hs] at hf
   cases s with
   | ow _=>cases hf
   | fr=>
    dsimp only at hf
    have hoff:off<row.length:=by omega
    simp only [setInL,setIn]
    rw [hl]
    dsimp only
    rw [hs,List.getElem?_eq_getElem hoff]
    dsimp only
    refine ⟨by have h0:=hd.1; cases t <;> first | trivial | (simp [isDT] at h0),?_⟩
    have hlt:=lt_of_get hl
    show setInL sub _ ts [⟨idx,esz,off+1⟩] K
    refine setInL_one (row:=row.set off t.toD) (List.getElem?_set_self hlt) hd.2 hf (by rw [List.length_set]; omega) ?_
    rw [List.set_set]
    exact hK
theorem addLast_cons (st st':Step) (r:List Step) (n:Nat):addLast (st::st'::r) n=st::addLast (st'::r) n:=rfl
theorem setInL_down {sub s:List Sh} {st st':Step}:∀ {ts:List T} {r:List Step} {l l':List (List D)} {row:List D} {K:List (List D)->Prop},l[st.idx]? = some row->sub[st.off]? = some (.ow s)->row[st.off]? = some (.li l') ->
  setInL s l' ts (st'::r) (fun l''=>K (l.set st.idx (row.set st.off (.li l''))))->setInL sub l ts (st::st'::r) K
 | [],r,l,l',row,K,hl,hs,hc,h=>by
  have e1:row.set st.off (.li l')=row:=by
   apply List.ext_getElem?
   intro n
   rw [List.getElem?_set]
   split
   ·rename_i e; subst e; rw [if_pos (lt_of_get hc)]; exact hc.symm
   ·rfl
  have e2:l.set st.idx row=l:=by
   apply List.ext_getElem?
   intro n
   rw [List.getElem?_set]
   split
   ·rename_i e; subst e; rw [if_pos (lt_of_get hl)]; exact hl.symm
   ·rfl
  simp only [setInL,e1,e2] at h
  exact h
 | t::ts,r,l,l',row,K,hl,hs,hc,h=>by
  simp only [setInL,setIn] at h ⊢
  rw [hl]
  dsimp only
  rw [hs,hc]
  dsimp only
  refine setIn_mono' (fun l1 h1=>?_) h
  rw [addLast_cons]
  have hlt:=lt_of_get hl
  have hlt2:=lt_of_get hc
  obtain ⟨st2,r2,e⟩:∃ st2 r2,addLast (st'::r) 1=st2::r2:=by
   cases r with
   | nil=>exact ⟨_,_,rfl⟩
   | cons a b=>exact ⟨_,_,rfl⟩
  rw [e] at h1 ⊢
  refine setInL_down (row:=row.set st.off (.li l1)) (l':=l1) (List.getElem?_set_self hlt) hs (List.getElem?_set_self hlt2) ?_
  refine setInL_mono (fun l2 h2=>?_) h1
  rw [List.set_set,List.set_set]
  exact h2
theorem overC_ok:∀ {ts:List Tt} {cs cs':List C} {off:Nat},overC cs off ts=some cs'->cs'.map C.toD=overD (cs.map C.toD) off ((ts.map Tt.toT).map T.toD)/\(ts.map Tt.toT).all isDT=true/\(ts≠[]->off+ts.length<=cs.length)/\cs'.length=cs.length
 | [],cs,cs',off,h=>by
  simp only [overC,Option.some.injEq] at h
  subst h; exact ⟨rfl,rfl,fun h=>(h rfl).elim,rfl⟩
 | t::r,cs,cs',off,h=>by
  have step:∀ {c:C},(∃ c0,cs[off]? = some c0)->overC (cs.set off c) (off+1) r=some cs'->t.toT.toD=c.toD->isDT t.toT=true ->
    cs'.map C.toD=overD (cs.map C.toD) off (((t::r).map Tt.toT).map T.toD)/\((t::r).map Tt.toT).all isDT=true/\((t::r)≠[]->off+(t::r).length<=cs.length)/\cs'.length=cs.length:=by
   rintro c ⟨c0,hc0⟩ h2 h3 h4
   obtain ⟨k1,k2,k3,k4⟩:=overC_ok h2
   have hlt:=lt_of_get hc0
   refine ⟨?_,by simp only [List.map_cons,List.all_cons,h4,k2,Bool.and_self],fun _=>?_,by rw [k4,List.length_set]⟩
   ·rw [k1]
    simp only [List.map_cons,overD,h3,List.map_set]
   ·simp only [List.length_cons]
    by_cases hr:r=[]
    ·subst hr; simp only [List.length_nil]; omega
    ·have:=k3 hr; rw [List.length_set] at this; omega
  cases t with
  | d c=>
   simp only [overC] at h
   split at h
   ·cases h
   ·rename_i hc; exact step ⟨_,hc⟩ h rfl rfl
   ·cases h
  | nil=>
   simp only [overC] at h
   split at h
   ·rename_i u' l0 hc; exact step ⟨_,hc⟩ h rfl rfl
   ·cases h
  | _=>simp [overC] at h
theorem setTs_ok:∀ {path:List Step} {sub:List Sh} {u:U} {l l':List (El u)} {ts:List Tt} {k:Prop} {K:List (List D)->Prop},ts≠[]->okTP sub u l path k->setTs sub u l ts path=some l'->K (l'.map (encU u))->setInL sub (l.map (encU u)) (ts.map Tt.toT) path K
 | [],_,_,_,_,_,_,_,_,h,_,_=>h.elim
 | [st],sub,u,l,l',ts,k,K,hne,h,ht,hK=>by
  obtain ⟨h1,_⟩:=h
  simp only [setTs] at ht
  split at ht
  ·rename_i cs hf ho
   split at ht
   ·rename_i x hx
    simp only [Option.some.injEq] at ht
    subst ht
    obtain ⟨k1,k2,k3,k4⟩:=overC_ok ho
    have e:=unflat_eq hx
    obtain ⟨idx,esz,off⟩:=st
    refine setInL_one (get_enc l h1) k2 (by rw [List.length_map]; exact hf) ?_ ?_
    ·rw [List.length_map,<- flat_enc,List.length_map]; exact k3 hne
    ·rw [List.map_set] at hK
     have e2:encU u x=overD (encU u (l.getD idx (dflt u))) off ((ts.map Tt.toT).map T.toD):=by
      rw [<- flat_enc,<- e,k1,flat_enc]
     rw [e2] at hK
     exact hK
   ·cases ht
  ·cases ht
 | st::st'::r,sub,u,l,l',ts,k,K,hne,h,ht,hK=>by
  simp only [setTs] at ht
  simp only [okTP] at h
  split at ht
  ·rename_i s u' l0 e1 e2
   rw [e1,e2] at h
   obtain ⟨h1,h4⟩:=h
   split at ht
   ·rename_i l2 hl2
    split at ht
    ·rename_i x hx
     simp only [Option.some.injEq] at ht
     subst ht
     obtain ⟨_,e⟩:=rowT_ok hx
     have e3:(encU u (l.getD st.idx (dflt u)))[st.off]? = some (.li (l0.map (encU u'))):=by
      rw [<- flat_enc,List.getElem?_map,e2]; rfl
     refine setInL_down (get_enc l h1) e1 e3 (setTs_ok hne h4 hl2 ?_)
     rw [List.map_set,e] at hK
     exact hK
    ·cases ht
   ·cases ht
  ·cases ht
theorem setR_setR:∀ {m:Mm} {n:Nm} {r r':Root},setR (setR m n r) n r'=setR m n r'
 | [],_,_,_=>rfl
 | (k,x)::m,n,r,r'=>by
  simp only [setR]
  by_cases h:k=n
  ·rw [if_pos h,if_pos h]; simp only [setR,if_pos h]
  ·rw [if_neg h,if_neg h]; simp only [setR,if_neg h,setR_setR]
theorem setR_self:∀ {m:Mm} {n:Nm} {r:Root},getR m n=some r->setR m n r=m
 | [],_,_,h=>by simp [getR] at h
 | (k,x)::m,n,r,h=>by
  simp only [getR] at h
  simp only [setR]
  by_cases hk:k=n
  ·rw [if_pos hk] at h ⊢
   rw [Option.some.inj h]
  ·rw [if_neg hk] at h ⊢
   rw [setR_self h]
theorem storesK_row {K:S->Prop}:∀ {ts:List T} {s:S} {p:Pl} {r:Root} {sub:List Sh} {l:List (List D)} {st:Step} {q:List Step},getR s.m p.root=some r->p.path=st::q->r.cells[p.off]? = some (.ow sub l)->ts.all isDT=true->(∀ t∈ts,t≠.d .any) ->
  setInL sub l ts (st::q) (fun l'=>K ⟨s.t,setR s.m p.root { r with cells:=r.cells.set p.off (.ow sub l') }⟩)->storesK s p ts K
 | [],s,p,r,sub,l,st,q,hr,hp,hc,_,_,h=>by
  have e1:r.cells.set p.off (.ow sub l)=r.cells:=by
   apply List.ext_getElem?
   intro n
   rw [List.getElem?_set]
   split
   ·rename_i e; subst e; rw [if_pos (lt_of_get hc)]; exact hc.symm
   ·rfl
  simp only [setInL,e1] at h
  have:setR s.m p.root r=s.m:=setR_self hr
  rw [show ({ blk:=r.blk,cells:=r.cells }:Root)=r from rfl,this] at h
  exact h
 | t::ts,s,p,r,sub,l,st,q,hr,hp,hc,hd,hn,h=>by
  simp only [List.all_cons,Bool.and_eq_true] at hd
  have key:storesK s p (t::ts) K=putK s.m p t fun m'=>storesK ⟨s.t,m'⟩ (p.add 1) ts K:=by
   cases t with
   | d c=>cases c with
    | any=>exact ((hn _ (by simp)) rfl).elim
    | _=>rfl
   | nil=>rfl
   | _=>have:=hd.1; simp [isDT] at this
  rw [key]
  unfold putK
  rw [hr]
  dsimp only
  rw [hp,hc]
  dsimp only
  simp only [setInL] at h
  refine setIn_mono' (fun l1 h1=>?_) h
  have hlt:=lt_of_get hc
  have ep:(p.add 1).root=p.root/\(p.add 1).off=p.off/\(p.add 1).path=addLast (st::q) 1:=by
   obtain ⟨pr,po,pp⟩:=p
   dsimp only at hp
   subst hp
   exact ⟨rfl,rfl,rfl⟩
  obtain ⟨st2,q2,e⟩:∃ st2 r2,addLast (st::q) 1=st2::r2:=by
   cases q with
   | nil=>exact ⟨_,_,rfl⟩
   | cons a b=>exact ⟨_,_,rfl⟩
  rw [e] at h1
  refine storesK_row (s:=⟨s.t,setR s.m p.root { r with cells:=r.cells.set p.off (.ow sub l1) }⟩) (p:=p.add 1) (r:={ r with cells:=r.cells.set p.off (.ow sub l1) }) (sub:=sub) (l:=l1) (st:=st2) (q:=q2) ?_ (ep.2.2.trans e) ?_ hd.2 (fun t ht=>hn t (by simp [ht])) ?_
  ·rw [ep.1]
   show getR (setR s.m p.root _) p.root=_
   rw [getR_setR hr,if_pos rfl]
  ·rw [ep.2.1]
   exact List.getElem?_set_self hlt
  ·refine setInL_mono (fun l2 h2=>?_) h1
   rw [ep.1,ep.2.1]
   dsimp only
   rw [setR_setR,List.set_set]
   exact h2
theorem overC_any:∀ {ts:List Tt} {cs cs':List C} {off:Nat},overC cs off ts=some cs'->∀ t∈ts.map Tt.toT,t≠.d .any
 | [],_,_,_,_,t,ht=>by simp at ht
 | t::r,cs,cs',off,h,x,hx=>by
  cases t with
  | d c=>
   have hne:c≠.any:=by rintro rfl; simp [overC] at h
   have h':∃ cs0 o,overC cs0 o r=some cs':=by
    simp only [overC] at h
    split at h
    ·cases h
    ·exact ⟨_,_,h⟩
    ·cases h
   obtain ⟨cs0,o,h'⟩:=h'
   rcases List.mem_cons.1 hx with rfl | hx
   ·intro e
    simp only [Tt.toT,T.d.injEq] at e
    cases c <;> first | exact hne rfl | (simp [C.toD] at e)
   ·exact overC_any h' x hx
  | nil=>
   simp only [overC] at h
   split at h
   ·rcases List.mem_cons.1 hx with rfl | hx
    ·intro e; cases e
    ·exact overC_any h x hx
   ·cases h
  | _=>simp [overC] at h
theorem setTs_any:∀ {path:List Step} {sub:List Sh} {u:U} {l l':List (El u)} {ts:List Tt},setTs sub u l ts path=some l'->(∀ t∈ts.map Tt.toT,t≠.d .any)/\(ts.map Tt.toT).all isDT=true
 | [],_,_,_,_,_,h=>by simp [setTs] at h
 | [st],_,_,_,_,_,h=>by
  simp only [setTs] at h
  split at h
  ·rename_i ho; exact ⟨overC_any ho,(overC_ok ho).2.1⟩
  ·cases h
 | st::st'::r,_,_,_,_,_,h=>by
  simp only [setTs] at h
  split at h
  ·split at h
   ·rename_i hl; exact setTs_any hl
   ·cases h
  ·cases h
end Go.Am
end

section
namespace Go.Am
def appendK2 (P:Program) (s:S) (t u:TypeId) (x y:Operand) (d:Tmp) (k:S->Prop):Prop:=
 match (ty P t).k with
 | .sl e=>(ty P e).ok=true/\(ty P u).k.isSS=true/\((zcells P e).map (·.length))=some (ty P e).size /\
  match baseK s (ty P e).size (ev s y) with
  | some (s1,sub1,ys)=>match baseK s1 (ty P e).size (ev s1 x) with
   | some (s2,sub,l)=>sub1=sub/\okRows sub1.length ys/\l.length+ys.length<=4611686018427387904/\(l.length+ys.length)*(ty P e).bytes<=140737488355328 /\
    k (((s2.fresh (.gh d)).root (.gh d) ⟨false,[.ow sub (l++ys)]⟩).put (some d) (.one (.c (.rf ⟨.gh d,0,[]⟩))))
   | none=>False
  | none=>False
 | _=>False
section
variable {P:Program} {g:G} {s:S} {a:Act} {w:World} {H:FH} {γ:Gam} {F:Nm->Fp}
theorem OD_one {k:Nat} {sh:Sh} {x:D} {f:Fp} {y:Value} (hs:x.sure=true) (h:OD w H k sh x f y):oneC y=true:=by
 cases sh with
 | fr=>exact FDx_one hs (OD_fr.1 h).2
 | ow sub=>
  cases k with
  | zero=>cases x <;> first | (simp [OD] at h; done) | (simp [D.sure] at hs)
  | succ k=>
   cases x with
   | li l=>
    obtain ⟨a,c,_,_,rfl,_⟩:=OD_cells h
    rfl
   | any=>simp [D.sure] at hs
   | _=>simp [OD] at h
theorem Cs_one {k:Nat}:∀ {ss:List Sh} {xs:List D} {f:Fp} {vs:List Value},vs.length=xs.length->(∀ x∈xs,x.sure=true)->Cs (OD w H k) ss xs f vs->∀ u∈vs,oneC u=true
 | [],[],_,vs,hl,_,_=>by
  have:vs=[]:=by simpa using hl
  subst this; simp
 | s::ss,x::xs,f,vs,hl,hx,h=>by
  obtain ⟨v,r,f1,f2,rfl,_,h1,h2⟩:=h
  intro u hu
  rcases List.mem_cons.1 hu with rfl | hu
  ·exact OD_one (hx x (by simp)) h1
  ·exact Cs_one (by simpa using hl) (fun y hy=>hx y (by simp [hy])) h2 u hu
 | [],_::_,_,_,_,_,h=>h.elim
 | _::_,[],_,_,_,_,h=>h.elim
theorem src_own {k:Nat} {sub:List Sh} {ys:List (List D)} {f:Fp} {v:Value} (h:OD w H k (.ow sub) (.li ys) f v) (hok:okRows sub.length ys) :
  ∃ (kx:Nat) (gx:Fp) (ws:List Value),Src P w sub.length v ys.length ws/\Cs (OD w H kx) (List.replicate ys.length sub).flatten ys.flatten gx ws/\(∀ u∈ws,oneC u=true)/\∀ b,gx b<=f b:=by
 cases k with
 | zero=>simp [OD] at h
 | succ k=>
  obtain ⟨ad,c,gg,vs,rfl,hlc,hlb,hlen,hvs,hcs,hwhere⟩:=OD_cells h
  refine ⟨k,gg,vs,?_,hcs,?_,?_⟩
  ·rcases hwhere with ⟨rfl,rfl,rfl,_⟩ | ⟨b,cs,ty,fz,rfl,hb,hfz,hcsz,rfl,hf⟩
   ·have:vs=[]:=by simpa using hvs
    subst this
    exact Src_zero
   ·refine Src_slice hvs (fun j u hj=>?_)
    have hjl:=lt_of_get hj
    rw [List.length_take] at hjl
    rw [List.getElem?_take_of_lt (by omega)] at hj
    simp only [World.cell?,hb,Option.isSome_none,Bool.false_eq_true,if_false,Nat.zero_add]
    simpa using hj
  ·refine Cs_one (by rw [hvs,flatten_len _ _ hlen]) (fun x hx=>?_) hcs
   rw [List.mem_flatten] at hx
   obtain ⟨y,hy,hxy⟩:=hx
   exact (hok y hy).2 x hxy
  ·intro b
   rcases hwhere with ⟨rfl,rfl,rfl,hf0⟩ | ⟨b',cs,ty,fz,rfl,hb,hfz,hcsz,rfl,hf⟩
   ·have hv0:vs=[]:=by simpa using hvs
    have:∀ b,gg b=0:=by simpa [Cs] using hcs
    rw [this b]; exact Nat.zero_le _
   ·rw [hf]; omega
theorem base_ok2 (h:RX g s a w H γ F) {size:Nat} {x:AV} {v:Value} {s1:S} {sub:List Sh} {l:List (List D)} (hx:AR w H γ s.m x v) (hb:baseK s size x=some (s1,sub,l)) :
  ∃ k f F1,OD w H k (.ow sub) (.li l) f v/\RX g s1 a w H γ F1/\sub.length=size/\(∀ b,tot F1 s1.m b+f b=tot F s.m b)/\(∀ b,f b≠0->b<w.heap.size/\(∀ o,H b o=none)/\(g.own0 b≠0\/g.w0.heap.size<=b)):=by
 match x,hb with
 | .one (.c .nil),hb=>
  simp only [baseK,Option.some.injEq,Prod.mk.injEq] at hb
  obtain ⟨rfl,rfl,rfl⟩:=hb
  obtain ⟨_,rfl⟩:=hx
  refine ⟨1,fun _=>0,F,?_,h,by simp,fun b=>rfl,fun b hb=>absurd rfl hb⟩
  rw [OD_ow]; exact .inl ⟨rfl,rfl,fun _=>rfl⟩
 | .one (.c (.rf q)),hb=>
  simp only [baseK] at hb
  cases hg:getPl s.m q with
  | none=>rw [hg] at hb; simp at hb
  | some t=>
   rw [hg] at hb
   cases t with
   | ow sub' l'=>
    dsimp only at hb
    split at hb
    ·rename_i hsz
     simp only [Option.some.injEq,Prod.mk.injEq] at hb
     obtain ⟨rfl,rfl,rfl⟩:=hb
     obtain ⟨_,hok,hv⟩:=hx
     obtain ⟨v',f,F',e1,⟨k,e2⟩,e3,e4⟩:=RX_takeP h (okPl_of_rf hok) hg
     rw [hv] at e1
     obtain rfl:v=v':=by simpa using e1
     exact ⟨k,f,F',e2,e3,hsz,e4,fun b hb=>by
      have hne:tot F s.m b≠0:=by have:=e4 b; omega
      exact ⟨h.mem.lt b hne,h.mem.nofz b hne,h.fr.tt b hne⟩⟩
    ·simp at hb
   | _=>simp at hb
theorem appendK2_ok (h:RX g s a w H γ F) {t u tt:TypeId} {x y:Operand} {d:Tmp} {k:S->Prop} (hd:okD g.nt (some d)=true) (hx:okOp x=true) (hy:okOp y=true) (hK:appendK2 P s t u x y d k) :
  ∃ s' z w' H' γ' F',(Builtin.append_ #[t,u] tt #[a.eval x,a.eval y]).run P w=.ok z w'/\k s'/\RX g s' (a.put (some d) z) w' H' γ' F':=by
 unfold appendK2 at hK
 cases hk:(ty P t).k with
 | sl e=>
  rw [hk] at hK
  obtain ⟨hok,hss,hzl,hK⟩:=hK
  obtain ⟨_,td,hit,hud,htk,_⟩:=ty_und hk (by simp)
  have:=tk_sl htk
  subst this
  obtain ⟨ie,de,hie,_,_,hsize,hbytes,_⟩:=ty_ok hok
  rw [hsize,hbytes] at hK
  rw [hsize] at hzl
  obtain ⟨zs,hzs,hzl⟩:=Option.map_eq_some_iff.1 hzl
  obtain ⟨it',z,hi',hz,hzc,_⟩:=zcells_ok hzs
  rw [hie] at hi'
  obtain rfl:ie=it':=by simpa using hi'
  have hzsz:z.cells.size=ie.size:=by rw [<- hzl,<- hzc]; simp
  obtain ⟨ud,huu,hudd⟩:∃ ud,P.underlying u=some ud/\isSS ud=true:=by
   have hne:(ty P u).k≠.ot:=fun e=>by rw [e] at hss; simp [TK.isSS] at hss
   obtain ⟨_,ud,_,h2,h3,_⟩:=ty_und rfl hne
   refine ⟨ud,h2,?_⟩
   rw [<- h3] at hss
   cases ud <;> first | rfl | (simp [tkOf,TK.isSS] at hss)
  cases hsr:baseK s ie.size (ev s y) with
  | none=>rw [hsr] at hK; exact hK.elim
  | some q1=>
   obtain ⟨s1,sub1,ys⟩:=q1
   rw [hsr] at hK
   dsimp only at hK
   obtain ⟨k1,f1,F1,d1,h1,d3,d4,d5⟩:=base_ok2 h (ev_ok h hy) hsr
   cases hbs:baseK s1 ie.size (ev s1 x) with
   | none=>rw [hbs] at hK; exact hK.elim
   | some q=>
    obtain ⟨s2,sub,l⟩:=q
    rw [hbs] at hK
    obtain ⟨hsub,hrows,hb62,hby,hK⟩:=hK
    subst hsub
    obtain ⟨kb,f,F2,b1,b2,b3,b4',b5⟩:=base_ok2 h1 (ev_ok h1 hx) hbs
    have b4:∀ b,tot F2 s2.m b+f b+f1 b<=1:=fun b=>by have:=b4' b; have:=d4 b; have:=h.mem.le1 b; omega
    obtain ⟨kx,gx,ws,r1,r2,r3,r4⟩:=src_own (P:=P) d1 hrows
    rw [d3] at r1
    obtain ⟨z',w',f',c1,⟨k',c2⟩,c3,c4,c5,c6,c7,c8,c9⟩:=run_append (tt:=tt) hud huu hudd hie hz hzsz (gx:=gx) (kx:=kx) b3 b1 r1 (fun y hy=>(hrows y hy).1)
     r2 r3 (fun b=>by have:=b4 b; have:=r4 b; omega) (fun b hb=>by rcases hb with hb | hb; exact (b5 b hb).1; exact (d5 b (by have:=r4 b; omega)).1) hb62 hby
    have hX:=RX_frame b2 c3 c4 c5 c6 (fun b hb=>by
     rcases c7 b hb with h3 | h3
     ·exact .inl h3
     ·exact .inr ⟨by have:=b4 b; omega,(b5 b h3).2⟩)
    have hX2:=RX_fresh hX (.gh d)
    have hn:=getR_fresh hX (.gh d)
    have hHnew:∀ b,w.heap.size<=b->∀ o,H b o=none:=by
     intro b hb o
     cases hc:H b o with
     | none=>rfl
     | some y=>have:=World.block_lt_of_cell? _ _ (h1.mem.agree _ _ _ hc); simp at this; omega
    have hts:∀ b,tot F2 (s2.fresh (.gh d)).m b<=tot F2 s2.m b:=by
     intro b
     unfold S.fresh
     split
     ·exact Nat.le_refl _
     ·show tot F2 (killM _ _) b<=_
      rw [tot_killM]; exact tot_delR
    have htz:tot F2 s2.m w.heap.size=0:=by
     rcases Nat.eq_zero_or_pos (tot F2 s2.m w.heap.size) with h' | h'
     ·exact h'
     ·have:=b2.mem.lt w.heap.size (by omega); omega
    have own:∀ b,f' b≠0->b≠w.heap.size->b<w.heap.size/\(∀ o,H b o=none)/\(g.own0 b≠0\/g.w0.heap.size<=b):=by
     intro b hb hb2
     have h5:=c8 b
     have h6:=r4 b
     rw [if_neg hb2] at h5
     by_cases hf:f b=0
     ·exact d5 b (by omega)
     ·exact b5 b hf
    obtain ⟨γ',F',hX3,hγ⟩:=RX_ghost hX2 (n:=.gh d) rfl hn (v:=z') (t:=.ow sub1 (l++ys)) (f:=f') ⟨k',c2⟩ (fun b=>by
      have h3:=hts b; have h4:=b4 b; have h5:=c8 b; have h6:=r4 b
      by_cases hb:b=w.heap.size
      ·subst hb
       have e1:f w.heap.size=0:=by
        rcases Nat.eq_zero_or_pos (f w.heap.size) with h' | h'
        ·exact h'
        ·have:=(b5 w.heap.size (by omega)).1; omega
       have e2:f1 w.heap.size=0:=by
        rcases Nat.eq_zero_or_pos (f1 w.heap.size) with h' | h'
        ·exact h'
        ·have:=(d5 w.heap.size (by omega)).1; omega
       rw [if_pos rfl] at h5; omega
      ·rw [if_neg hb] at h5; omega)
     (fun b hb=>⟨c9 b hb,by
      by_cases hb2:b=w.heap.size
      ·subst hb2; exact hHnew _ (Nat.le_refl _)
      ·exact (own b hb hb2).2.1⟩)
     (fun b hb=>by
      by_cases hb2:b=w.heap.size
      ·right; have:=b2.fr.size; omega
      ·exact (own b hb hb2).2.2)
    refine ⟨_,z',w',H,γ',F',c1,hK,RX.put hX3 hd (AR_ghost (sub:=sub1) (l:=l++ys) ?_ hγ)⟩
    simp [getR]
 | _=>rw [hk] at hK; exact hK.elim
end
end Go.Am
end

section
namespace Go.Am
def fzS:List Sh->List T->Option (List D)
 | [],[]=>some []
 | .fr::ss,t::ts=>match fzS ss ts with
  | some r=>some (t.fz::r)
  | none=>none
 | .ow _::ss,.nil::ts=>match fzS ss ts with
  | some r=>some (.li []::r)
  | none=>none
 | _,_=>none
section
variable {P:Program} {g:G} {s:S} {a:Act} {w:World} {H:FH} {γ:Gam} {F:Nm->Fp}
theorem Cs_fzS {k:Nat} {m:Mm}:∀ {ss:List Sh} {ts:List T} {xs:List D} {f:Fp} {vs:List Value},(∀ b,f b=0)->fzS ss ts=some xs->Ts (TR w H γ m) ts f vs ->
  Cs (OD w H (k+1)) ss xs f vs
 | [],[],xs,_,_,hf,hz,_=>by
  simp only [fzS,Option.some.injEq] at hz; subst hz; exact hf
 | .fr::ss,t::ts,xs,f,vs,hf,hz,h=>by
  simp only [fzS] at hz
  cases h5:fzS ss ts with
  | none=>rw [h5] at hz; cases hz
  | some r0=>
   rw [h5] at hz
   simp only [Option.some.injEq] at hz
   subst hz
   obtain ⟨v,r,f1,f2,h1,h2,h3,h4⟩:=h
   refine ⟨v,r,f1,f2,h1,h2,?_,Cs_fzS (fun b=>by have:=hf b; have:=h2 b; omega) h5 h4⟩
   rw [OD_fr]
   refine ⟨fun b=>by have:=hf b; have:=h2 b; omega,?_⟩
   cases t with
   | d x=>exact h3.2
   | nil=>obtain ⟨_,rfl⟩:=h3; exact FDx_nil
   | _=>exact ⟨0,trivial⟩
 | .ow sub::ss,.nil::ts,xs,f,vs,hf,hz,h=>by
  simp only [fzS] at hz
  cases h5:fzS ss ts with
  | none=>rw [h5] at hz; cases hz
  | some r0=>
   rw [h5] at hz
   simp only [Option.some.injEq] at hz
   subst hz
   obtain ⟨v,r,f1,f2,h1,h2,h3,h4⟩:=h
   refine ⟨v,r,f1,f2,h1,h2,?_,Cs_fzS (fun b=>by have:=hf b; have:=h2 b; omega) h5 h4⟩
   obtain ⟨_,rfl⟩:=h3
   rw [OD_ow]
   exact .inl ⟨rfl,rfl,fun b=>by have:=hf b; have:=h2 b; omega⟩
 | [],_::_,_,_,_,_,hz,_=>by simp [fzS] at hz
 | .fr::_,[],_,_,_,_,hz,_=>by simp [fzS] at hz
 | .ow _::_,[],_,_,_,_,hz,_=>by simp [fzS] at hz
 | .ow _::_,.d _::_,_,_,_,_,hz,_=>by simp [fzS] at hz
 | .ow _::_,.ow _ _::_,_,_,_,_,hz,_=>by simp [fzS] at hz
 | .ow _::_,.el _ _::_,_,_,_,_,hz,_=>by simp [fzS] at hz
 | .ow _::_,.pl _::_,_,_,_,_,hz,_=>by simp [fzS] at hz
 | .ow _::_,.rf _::_,_,_,_,_,hz,_=>by simp [fzS] at hz
 | .ow _::_,.any::_,_,_,_,_,hz,_=>by simp [fzS] at hz
theorem RX_newrow2 (h:RX g s a w H γ F) {n:Nm} (hno:n.isOut=false) (hn:getR s.m n=none) {cs:Array Value} {ty':TypeId} {len cap:Nat} {sub:List Sh} {l:List (List D)} (hl:l.length=len) (hle:len<=cap) (hbig:len<=BIG)
  (hx:∀ x∈l,x.length=sub.length) (hsz:cs.size=cap*sub.length) (hcs:∀ k,Cs (OD w H (k+1)) (List.replicate len sub).flatten l.flatten (fun _=>0) cs.toList) :
  ∃ γ' F',RX g (s.root n ⟨false,[.ow sub l]⟩) a (w.alloc (.cells cs ty')) H γ' F'/\γ' n=.gh (.slice (some ⟨w.heap.size,0,none⟩) len cap):=by
 obtain ⟨hm,hf,hK,hH⟩:=Mem_alloc h.mem cs ty' false
 simp only [Bool.false_eq_true,false_and,if_false] at hm hf hK hH
 have hX:RX g s a (w.alloc (.cells cs ty')) H γ F:=RX_step h hm hf (fun i=>AR_keeps hK (fun _ _ _ h=>h) (h.t i)) (fun _=>rfl)
 have hz:tot F s.m w.heap.size=0:=by
  rcases Nat.eq_zero_or_pos (tot F s.m w.heap.size) with h' | h'
  ·exact h'
  ·have:=h.mem.lt w.heap.size (by omega); omega
 have hHz:∀ o,H w.heap.size o=none:=by
  intro o
  cases hc:H w.heap.size o with
  | none=>rfl
  | some y=>have:=World.block_lt_of_cell? _ _ (h.mem.agree _ _ _ hc); simp at this
 have hcs':∀ k,Cs (OD (w.alloc (.cells cs ty')) H (k+1)) (List.replicate len sub).flatten l.flatten (fun _=>0) cs.toList:=by
  intro k
  refine Cs_mono _ _ _ _ (fun s x g v hg hod=>?_) (hcs k)
  exact OD_frame (fun _ _ _ h=>h) (k+1) (k+1) _ _ _ _ (Nat.le_refl _) (fun b hb=>absurd (Nat.le_zero.1 (hg b)) hb) hod
 subst hl
 have hod:TR (w.alloc (.cells cs ty')) H γ s.m (.ow sub l) (fun b=>0+if b=w.heap.size then 1 else 0) (.slice (some ⟨w.heap.size,0,none⟩) l.length cap):=
  ⟨2,OD_new (heap_alloc_new') rfl hsz hle hbig hx (hcs' 0)⟩
 exact RX_ghost hX hno hn hod (fun b=>by
   by_cases hb:b=w.heap.size
   ·subst hb; rw [hz]; simp
   ·rw [if_neg hb]; have:=h.mem.le1 b; omega)
  (fun b hb=>by
   have hb':b=w.heap.size:=by
    by_cases hb':b=w.heap.size
    ·exact hb'
    ·rw [if_neg hb'] at hb; simp at hb
   subst hb'
   exact ⟨by simp,hHz⟩)
  (fun b hb=>by
   have hb':b=w.heap.size:=by
    by_cases hb':b=w.heap.size
    ·exact hb'
    ·rw [if_neg hb'] at hb; simp at hb
   right; have:=h.fr.size; omega)
def buildSliceK2 (P:Program) (s0:S) (t:TypeId) (len:Nat) (sub:List Sh) (ps:Array (Nat×Operand)) (d:Tmp) (k:S->Prop):Prop:=
 match (ty P t).k with
 | .sl e=>(ty P e).ok=true/\(zcells P e).isSome=true/\len*(ty P e).size<=16777216/\len<=16777216/\sub.length=(ty P e).size /\
  let s:=(frzVs s0 (ps.toList.map fun x=>ev s0 x.2)).fresh (.gh d)
  match fillT (fun i=>some (i*(ty P e).size,(ty P e).size)) (List.replicate (len*(ty P e).size) .any) (partsK s ps) with
  | some ts=>match fzS (List.replicate len sub).flatten ts with
   | some xs=>k ((s.root (.gh d) ⟨false,[.ow sub (chunk (ty P e).size len xs)]⟩).put (some d) (.one (.c (.rf ⟨.gh d,0,[]⟩))))
   | none=>False
  | none=>False
 | _=>False
theorem buildSliceK2_ok (h:RX g s a w H γ F) {t:TypeId} {len:Nat} {ps:Array (Nat×Operand)} {d:Tmp} {sub:List Sh} {k:S->Prop} (hd:okD g.nt (some d)=true) (hp:(ps.toList.all fun x=>okOp x.2)=true) (hK:buildSliceK2 P s t len sub ps d k) :
  ∃ s' y w' H' γ' F',(Instr.buildSlice t len (ps.map fun (i,x)=>(i,a.eval x))).run P w=.ok y w'/\k s'/\RX g s' (a.put (some d) y) w' H' γ' F':=by
 unfold buildSliceK2 at hK
 cases hk:(ty P t).k with
 | sl e=>
  rw [hk] at hK
  obtain ⟨hok,hzc,hsmall,hlb,hsl,hK⟩:=hK
  obtain ⟨_,td,hit,hud,htk,_⟩:=ty_und hk (by simp)
  have:=tk_sl htk
  subst this
  obtain ⟨ie,de,hie,_⟩:=ty_ok hok
  have hsize:(ty P e).size=ie.size:=by
   obtain ⟨ie',_,hie',_,_,hs,_⟩:=ty_ok hok
   rw [hie] at hie'
   obtain rfl:ie=ie':=by simpa using hie'
   exact hs
  obtain ⟨zs,hzs⟩:=Option.isSome_iff_exists.1 hzc
  obtain ⟨it',z,hi',hz,_⟩:=zcells_ok hzs
  rw [hie] at hi'
  obtain rfl:ie=it':=by simpa using hi'
  obtain ⟨H1,F1,h1⟩:=RX_frzVs (ps.toList.map fun x=>ev s x.2) s H F h
  have h2:=RX_fresh h1 (.gh d)
  have hn:=getR_fresh h1 (.gh d)
  dsimp only at hK
  generalize (frzVs s (ps.toList.map fun x=>ev s x.2)).fresh (.gh d)=s2 at hK h2 hn
  cases hf:fillT (fun i=>some (i*(ty P e).size,(ty P e).size)) (List.replicate (len*(ty P e).size) .any) (partsK s2 ps) with
  | none=>rw [hf] at hK; exact hK.elim
  | some ts=>
   rw [hf] at hK
   dsimp only at hK
   rw [hsize] at hf hK hsmall hsl
   have hpr:PR w H1 γ s2.m (partsK s2 ps) (ps.map fun (i,x)=>(i,a.eval x)).toList:=by
    rw [Array.toList_map]
    exact PR_parts (m:=s2.m) h2 hp
   have hfill:∀ us:Array Value,us.size=len*ie.size->∃ cs,Instr.fill (fun i=>some (i*ie.size,ie.size)) us (ps.map fun (i,x)=>(i,a.eval x)).toList=some cs/\cs.size=ts.length/\Ts (TR w H1 γ s2.m) ts (fun _=>0) cs.toList:=by
    intro us hus
    refine fill_ok h2.mem _ _ _ us ts hpr (by simpa using hus) ?_ hf
    have:=Ts_any (w:=w) (H:=H1) (γ:=γ) (m:=s2.m) (vs:=us.toList)
    rw [show us.toList.length=len*ie.size from by simpa using hus] at this
    exact this
   have hlen:ts.length=len*ie.size:=by rw [fillT_length hf]; simp
   obtain ⟨us,cs,u1,u2,u3⟩:=run_buildSlice' (P:=P) (w:=w) (t:=t) (e:=e) (len:=len) (vs:=ps.map fun (i,x)=>(i,a.eval x)) (cells:=#[]) hud hie hz (by omega) (fun us hus=>by
    obtain ⟨cs,c1,c2,_⟩:=hfill us hus
    exact ⟨cs,c1,by rw [c2,hlen],.inr trivial⟩)
   obtain ⟨cs',c1,c2,c3⟩:=hfill us u1
   rw [u2] at c1
   obtain rfl:cs=cs':=by simpa using c1
   cases hz2:fzS (List.replicate len sub).flatten ts with
   | none=>rw [hz2] at hK; exact hK.elim
   | some xs=>
    rw [hz2] at hK
    dsimp only at hK
    have hcs:∀ k,Cs (OD w H1 (k+1)) (List.replicate len sub).flatten xs (fun _=>0) cs.toList:=fun k=>Cs_fzS (fun _=>rfl) hz2 c3
    have hmap:xs.length=len*ie.size:=by
     have h5:=(Cs_length _ _ _ _ (hcs 0)).1
     rw [<- h5,flatten_len sub.length _ (fun x hx=>by rw [(List.mem_replicate.1 hx).2]),List.length_replicate,hsl]
    obtain ⟨γ',F',hX,hγ⟩:=RX_newrow2 h2 (n:=.gh d) rfl hn (cs:=cs) (ty':=e) (len:=len) (cap:=len) (sub:=sub) (l:=chunk ie.size len xs) chunk_length (Nat.le_refl _) (by
      show len<=2 ^ 62
      omega) (by rw [hsl]; exact chunk_mem hmap) (by rw [c2,hlen,hsl]) (fun k=>by
       rw [chunk_flat hmap]
       exact hcs k)
    refine ⟨_,_,_,H1,γ',F',u3,hK,RX.put hX hd (AR_ghost (sub:=sub) (l:=chunk ie.size len xs) ?_ hγ)⟩
    simp [S.root,getR]
 | _=>rw [hk] at hK; exact hK.elim
end
end Go.Am
end

section
namespace Go.Am
abbrev upS (k:St->Prop):S->Prop:=fun s'=>∃ t:St,SEq s' t.toS/\k t
theorem zcells_okT {P:Program} {t:TypeId} {zs:List Value} (h:zcells P t=some zs):zs.all okT=true:=by
 unfold zcells at h
 split at h
 ·split at h
  ·split at h
   ·rename_i hz
    simp only [Option.some.injEq] at h
    subst h
    simpa using hz
   ·cases h
  ·cases h
 ·cases h
section
variable {P:Program} {s:St} {k:St->Prop}
theorem allocT_ok {t:TypeId} {d:Tmp} (hn:ND s.m) (h:allocT P s t d k):allocK P s.toS t d (upS k):=by
 unfold allocT at h
 split at h
 ·rename_i z zs hz
  split at h
  ·rename_i hd
   unfold allocK
   rw [hz]
   refine ⟨by simp,Nat.le_of_ble_eq_true hd,_,?_,h⟩
   have e:((s.fresh (locN t d)).root (locN t d) ⟨true,(z::zs).map cstTt,none⟩).toS=(s.toS.fresh (locN t d)).root (locN t d) ⟨true,(z::zs).map cstT⟩:=by
    rw [<- fresh_toS hn,<- csts_ok (zcells_okT hz)]; rfl
   rw [<- e]
   exact put_SEq ((s.fresh (locN t d)).root (locN t d) ⟨true,(z::zs).map cstTt,none⟩) (some d) (.one (.c (.pl ⟨locN t d,0,[]⟩)))
  ·exact h.elim
 ·exact h.elim
theorem boxT_ok {x:Operand} {d:Tmp} (hn:ND s.m) (hx:okOp x=true) (h:boxT s x d k):boxK s.toS x d (upS k):=by
 unfold boxT at h
 split at h
 ·rename_i t ts hc
  split at h
  ·rename_i hd
   simp only [Bool.and_eq_true] at hd
   unfold boxK
   rw [<- fresh_toS hn,evA_toV hx,cellsAt_ok,hc]
   dsimp only [Option.map_some]
   refine ⟨by simp,?_,Nat.le_of_ble_eq_true hd.2,_,?_,h⟩
   ·rw [List.all_map,<- hd.1]; congr 1; funext t; exact sure_toT t
   ·exact put_SEq ((s.fresh (.loc d)).root (.loc d) ⟨true,t::ts,none⟩) (some d) (.one (.c (.pl ⟨.loc d,0,[]⟩)))
  ·exact h.elim
 ·exact h.elim
theorem fz_canC {u:U} {t:Tt} {x:El u} (h:canC u t=some x):t.toT.fz=(cellOf u x).toD:=by
 unfold canC at h
 split at h
 ·rename_i c; rw [ofCell_eq h]
  rfl
 ·split at h
  ·simp only [Option.some.injEq] at h; subst h; rfl
  ·cases h
 ·cases h
theorem fz_canCs:∀ {us:List U} {ts:List Tt} {x:Fl us},canCs us ts=some x->ts.map (fun t=>t.toT.fz)=(cellsF us x).map C.toD
 | [],[],_,_=>rfl
 | u::r,c::cs,x,h=>by
  simp only [canCs] at h
  cases h1:canC u c with
  | none=>rw [h1] at h; cases h
  | some y=>
   cases h2:canCs r cs with
   | none=>rw [h1,h2] at h; cases h
   | some z=>
    rw [h1,h2] at h
    simp only [Option.some.injEq] at h
    subst h
    rw [cellsF,hd_cons,tl_cons,List.map_cons,List.map_cons,fz_canC h1,fz_canCs h2]
 | [],_::_,_,h=>by simp [canCs] at h
 | _::_,[],_,h=>by simp [canCs] at h
theorem fz_canU {u:U} {ts:List Tt} {x:El u} (h:canU u ts=some x):ts.map (fun t=>t.toT.fz)=encU u x:=by
 rw [<- flat_enc]
 cases u with
 | st n=>
  simp only [canU] at h
  cases h1:canCs (sd n).fs ts with
  | none=>rw [h1] at h; cases h
  | some y=>
   rw [h1] at h
   have:=Option.some.inj h
   subst this
   show _=(cellsF (sd n).fs ((sd n).un ((sd n).mkF y))).map C.toD
   rw [(sd n).l2,fz_canCs h1]
 | _=>
  cases ts with
  | nil=>cases h
  | cons t r=>cases r with
   | nil=>rw [flat_leaf rfl]; simp only [List.map_cons,List.map_nil]; rw [fz_canC h]
   | cons _ _=>cases h
theorem fz_canRows {u:U}:∀ {rows:List (List Tt)} {l:List (El u)},canRows u rows=some l->rows.map (fun r=>r.map fun t=>t.toT.fz)=l.map (encU u)
 | [],l,h=>by simp only [canRows,Option.some.injEq] at h; subst h; rfl
 | r::rs,l,h=>by
  simp only [canRows] at h
  cases h1:canU u r with
  | none=>rw [h1] at h; cases h
  | some x=>
   cases h2:canRows u rs with
   | none=>rw [h1,h2] at h; cases h
   | some xs=>
    rw [h1,h2] at h
    simp only [Option.some.injEq] at h
    subst h
    rw [List.map_cons,List.map_cons,fz_canU h1,fz_canRows h2]
theorem chunk_map {α β:Type} (f:α->β) (size:Nat):∀ (n:Nat) (l:List α),chunk size n (l.map f)=(chunk size n l).map (·.map f)
 | 0,_=>rfl
 | n+1,l=>by simp only [chunk,List.map_cons,List.map_take]; rw [<- List.map_drop,chunk_map f size n]
theorem all_noRf {ps:Array (Nat×Operand)} (h:(partsT s ps).all (fun x=>x.2.noRf)=true):(ps.toList.map fun x=>evA s x.2).all At.noRf=true:=by
 unfold partsT at h
 rw [List.all_map] at h ⊢
 exact h
theorem evs_toV {xs:List (Nat×Operand)} (h:(xs.all fun x=>okOp x.2)=true):(xs.map fun x=>ev s.toS x.2)=(xs.map fun x=>evA s x.2).map At.toV:=by
 rw [List.map_map]
 exact List.map_congr_left fun x hx=>evA_toV (List.all_eq_true.1 h x hx)
theorem buildSliceT_ok {E:Ut} {t:TypeId} {len:Nat} {ps:Array (Nat×Operand)} {d:Tmp} (hps:(ps.toList.all fun x=>okOp x.2)=true)
  (hn:ND (frzAts s (ps.toList.map fun x=>evA s x.2)).m) (h:buildSliceT P E s t len ps d k):buildSliceK P (frzAts s (ps.toList.map fun x=>evA s x.2)).toS t len ps d (upS k):=by
 unfold buildSliceT at h
 split at h
 ·rename_i e ht
  split at h
  ·rename_i u z he hz
   split at h
   ·rename_i hc
    simp only [Bool.and_eq_true] at hc
    obtain ⟨⟨⟨c1,c2⟩,c3⟩,c4⟩:=hc
    have hsz:=Nat.eq_of_beq_eq_true c2
    dsimp only at h
    generalize hs1:frzAts s (ps.toList.map fun x=>evA s x.2)=s1 at h hn
    split at h
    ·rename_i ts hf hno
     split at h
     ·rename_i l hl
      unfold buildSliceK
      rw [ht]
      dsimp only
      refine ⟨c1,by rw [hz]; rfl,by rw [<- hsz]; exact Nat.le_of_ble_eq_true c3,Nat.le_of_ble_eq_true c4,?_⟩
      rw [evs_toV hps,frzVs_noRf (all_noRf hno),<- fresh_toS hn,partsT_ok hps,<- hsz]
      have hf':=fillTt_ok hf
      rw [List.map_replicate] at hf'
      have e0:Tt.any.toT=T.any:=rfl
      rw [e0] at hf'
      rw [hf']
      dsimp only
      refine ⟨_,?_,h⟩
      have er:(⟨false,[.ow (List.replicate (nc u) .fr) u l],none⟩:Rt).toR=⟨false,[.ow (List.replicate (nc u) .fr) (chunk (nc u) len ((ts.map Tt.toT).map T.fz))]⟩:=by
       have e2:chunk (nc u) len ((ts.map Tt.toT).map T.fz)=l.map (encU u):=by rw [List.map_map,chunk_map]; exact fz_canRows hl
       rw [e2]; rfl
      rw [<- er]
      exact put_SEq ((s1.fresh (.gh d)).root (.gh d) ⟨false,[.ow (List.replicate (nc u) .fr) u l],none⟩) (some d) (.one (.c (.rf ⟨.gh d,0,[]⟩)))
     ·exact h.elim
    ·exact h.elim
   ·exact h.elim
  ·exact h.elim
 ·exact h.elim
theorem subOk_ok:∀ {ss:List Sh} {ts:List Tt},subOk ss ts=true->fzS ss (ts.map Tt.toT)=some (ts.map fun t=>t.toT.fz)
 | [],[],_=>rfl
 | .fr::r,t::ts,h=>by
  simp only [List.map_cons,fzS]
  rw [subOk_ok (show subOk r ts=true from h)]
 | .ow sub::r,t::ts,h=>by
  cases t with
  | nil=>
   simp only [List.map_cons,Tt.toT,fzS]
   rw [subOk_ok (show subOk r ts=true from h)]; rfl
  | _=>simp [subOk] at h
 | [],_::_,h=>by simp [subOk] at h
 | .fr::_,[],h=>by simp [subOk] at h
 | .ow _::_,[],h=>by simp [subOk] at h
theorem buildSliceT2_ok {E:Ut} {sub:List Sh} {t:TypeId} {len:Nat} {ps:Array (Nat×Operand)} {d:Tmp} (hps:(ps.toList.all fun x=>okOp x.2)=true)
  (hn:ND (frzAts s (ps.toList.map fun x=>evA s x.2)).m) (h:buildSliceT2 P E sub s t len ps d k):buildSliceK2 P (frzAts s (ps.toList.map fun x=>evA s x.2)).toS t len sub ps d (upS k):=by
 unfold buildSliceT2 at h
 split at h
 ·rename_i e ht
  split at h
  ·rename_i u z he hz
   split at h
   ·rename_i hc
    simp only [Bool.and_eq_true] at hc
    obtain ⟨⟨⟨⟨c1,c2⟩,c3⟩,c4⟩,c5⟩:=hc
    have hsz:=Nat.eq_of_beq_eq_true c2
    dsimp only at h
    generalize hs1:frzAts s (ps.toList.map fun x=>evA s x.2)=s1 at h hn
    split at h
    ·rename_i ts hf hno
     split at h
     ·rename_i l hl hsub
      unfold buildSliceK2
      rw [ht]
      dsimp only
      refine ⟨c1,by rw [hz]; rfl,by rw [<- hsz]; exact Nat.le_of_ble_eq_true c3,Nat.le_of_ble_eq_true c4,by rw [<- hsz]; exact Nat.eq_of_beq_eq_true c5,?_⟩
      rw [evs_toV hps,frzVs_noRf (all_noRf hno),<- fresh_toS hn,partsT_ok hps,<- hsz]
      have hf':=fillTt_ok hf
      rw [List.map_replicate] at hf'
      have e0:Tt.any.toT=T.any:=rfl
      rw [e0] at hf'
      rw [hf']
      dsimp only
      rw [subOk_ok hsub]
      dsimp only
      refine ⟨_,?_,h⟩
      have er:(⟨false,[.ow sub u l],none⟩:Rt).toR=⟨false,[.ow sub (chunk (nc u) len (ts.map fun t=>t.toT.fz))]⟩:=by
       have e2:chunk (nc u) len (ts.map fun t=>t.toT.fz)=l.map (encU u):=by rw [chunk_map]; exact fz_canRows hl
       rw [e2]; rfl
      rw [<- er]
      exact put_SEq ((s1.fresh (.gh d)).root (.gh d) ⟨false,[.ow sub u l],none⟩) (some d) (.one (.c (.rf ⟨.gh d,0,[]⟩)))
     ·exact h.elim
    ·exact h.elim
   ·exact h.elim
  ·exact h.elim
 ·exact h.elim
theorem ND_set {m:List (Nm×Nat×Rt)} {n:Nm} {i:Nat} {r:Rt} (h:ND m):ND (setM m n i r):=by
 unfold ND; rw [keys_setM]; exact h
theorem owned_toT (t:Tt):t.toT.owned=t.owned:=by cases t <;> rfl
theorem putT_ok {p:Pl} {t:Tt} (h:putT s p t k) (hn:ND s.m):∃ m',(∀ K:Mm->Prop,K m'->putK s.toS.m p t.toT K)/\∃ s':St,s'.toS=⟨s.toS.t,m'⟩/\ND s'.m/\k s':=by
 unfold putT at h
 split at h
 ·exact h.elim
 ·rename_i r hr
  split at h
  ·rename_i t0 hpath hh hc
   split at h
   ·rename_i ho
    have ec:r.toR.cells=r.cells.map Tt.toT:=by show holed _ r.hole=_; rw [hh]; rfl
    refine ⟨setR s.toS.m p.root ⟨r.blk,(r.cells.map Tt.toT).set p.off t.toT⟩,fun K hK=>?_,_,?_,ND_set hn,h⟩
    ·unfold putK
     rw [show getR s.toS.m p.root=some r.toR from getR_of hr]
     dsimp only
     rw [hpath,ec,List.getElem?_map,hc]
     exact ⟨by rw [owned_toT]; exact ho,hK⟩
    refine drop_toS.S_ext rfl ?_
    show toM (setM s.m p.root s.nx _)=_
    rw [setM_toM]
    congr 1
    simp only [Rt.toR,hh,holed,List.map_set]
   ·exact h.elim
  ·rename_i st q sub u l hpath hh hc
   split at h
   ·rename_i l' hl
    have ec:r.toR.cells=r.cells.map Tt.toT:=by show holed _ r.hole=_; rw [hh]; rfl
    refine ⟨setR s.toS.m p.root ⟨r.blk,(r.cells.map Tt.toT).set p.off (.ow sub (l'.map (encU u)))⟩,fun K hK=>?_,_,?_,ND_set hn,okTP_k h⟩
    ·unfold putK
     rw [show getR s.toS.m p.root=some r.toR from getR_of hr]
     dsimp only
     rw [hpath,ec,List.getElem?_map,hc]
     exact setT1_ok h hl hK
    refine drop_toS.S_ext rfl ?_
    show toM (setM s.m p.root s.nx _)=_
    rw [setM_toM]
    congr 1
    simp only [Rt.toR,hh,holed,List.map_set,Tt.toT]
   ·exact h.elim
  ·rename_i st q off st' q' sub u l hpath hh hc
   split at h
   ·rename_i sh v lv hb
    split at h
    ·rename_i l' hl
     have hoff:off=p.off:=Nat.eq_of_beq_eq_true hb
     subst hoff
     obtain ⟨epath,hk⟩:=eqPath_eq (okTP_k h)
     have hlt:p.off < (r.cells.map Tt.toT).length:=by rw [List.length_map]; exact lt_of_get hc
     simp only [List.cons.injEq] at epath
     obtain ⟨rfl,rfl⟩:=epath
     have ec:r.toR.cells=(r.cells.map Tt.toT).set p.off (.ow sub (setO sub (l.map (encU u)) .any (st'::q'))):=by
      show holed _ r.hole=_
      rw [hh]; exact holed_at _ _ hc
     refine ⟨setR s.toS.m p.root ⟨r.blk,(r.cells.map Tt.toT).set p.off (.ow sub (l'.map (encU u)))⟩,fun K hK=>?_,_,?_,ND_set hn,hk⟩
     ·unfold putK
      rw [show getR s.toS.m p.root=some r.toR from getR_of hr]
      dsimp only
      rw [hpath,ec,List.getElem?_set_self hlt]
      refine fillH_ok h hl ?_
      rw [List.set_set]
      exact hK
     refine drop_toS.S_ext rfl ?_
     show toM (setM s.m p.root s.nx _)=_
     rw [setM_toM]
     congr 1
     simp only [Rt.toR,holed,List.map_set,Tt.toT]
    ·exact h.elim
   ·exact h.elim
  ·exact h.elim
theorem ment_toT (n:Nm) (t:Tt):t.toT.ment n=t.ment n:=by cases t <;> rfl
theorem storesT_ok {K:S->Prop} (hK:∀ t:St,k t->K t.toS):∀ {ts:List Tt} {s:St} {p:Pl},ND s.m->storesT s p ts k->storesK s.toS p (ts.map Tt.toT) K
 | [],s,p,hn,h=>hK s h
 | t::ts,s,p,hn,h=>by
  have gen:∀ t:Tt,(∀ q,t≠.rf q)->t≠.any->t≠.d .any->putT s p t (fun s'=>storesT s' (p.add 1) ts k)->storesK s.toS p (t.toT::ts.map Tt.toT) K:=by
   intro t h1 h2 h3 h
   obtain ⟨m',hp,s',e,hn',hk⟩:=putT_ok h hn
   have key:storesK s.toS p (t.toT::ts.map Tt.toT) K=putK s.toS.m p t.toT fun m'=>storesK ⟨s.toS.t,m'⟩ (p.add 1) (ts.map Tt.toT) K:=by
    cases t with
    | rf q=>exact (h1 q rfl).elim
    | any=>exact (h2 rfl).elim
    | d c=>cases c with
     | any=>exact (h3 rfl).elim
     | _=>rfl
    | _=>rfl
   rw [key]
   refine hp _ ?_
   rw [<- e]
   exact storesT_ok hK hn' hk
  cases t with
  | rf q=>
   simp only [storesT] at h
   split at h
   ·rename_i sub u l hr
    split at h
    ·rename_i hpath hroot hall
     simp only [List.map_cons,Tt.toT,storesK]
     rw [show getR s.toS.m q.root=some (⟨false,[.ow sub u l],none⟩:Rt).toR from getR_of hr]
     refine ⟨hpath,by simpa using hroot,?_,?_⟩
     ·rw [List.all_map,<- hall]; congr 1; funext t; simp only [Function.comp,ment_toT]
     ·rw [<- drop_toS hn]
      obtain ⟨m',hp,s',e,hn',hk⟩:=putT_ok h (ND_drop hn)
      refine hp _ ?_
      rw [<- e]
      exact storesT_ok hK hn' hk
    ·exact h.elim
   ·exact h.elim
  | any=>exact h.elim
  | d c=>cases c with
   | any=>exact h.elim
   | _=>exact gen _ (fun _ h=>by cases h) (fun h=>by cases h) (fun h=>by cases h) h
  | _=>exact gen _ (fun _ h=>by cases h) (fun h=>by cases h) (fun h=>by cases h) h
theorem putRowT_ok {K:S->Prop} (hK:∀ t:St,k t->K t.toS) {p:Pl} {ts:List Tt} (hne:ts≠[]) (h:putRowT s p ts k):storesK s.toS p (ts.map Tt.toT) K:=by
 unfold putRowT at h
 split at h
 ·exact h.elim
 ·rename_i r hr
  split at h
  ·rename_i st q sub u l hpath hh hc
   split at h
   ·rename_i l' hl
    have ec:r.toR.cells=r.cells.map Tt.toT:=by show holed _ r.hole=_; rw [hh]; rfl
    obtain ⟨a1,a2⟩:=setTs_any hl
    refine storesK_row (getR_of hr) hpath (sub:=sub) (l:=l.map (encU u)) (by rw [ec,List.getElem?_map,hc]; rfl) a2 a1 (setTs_ok hne h hl ?_)
    have hk:=hK _ (okTP_k h)
    have e:(⟨s.nx+1,s.t,setM s.m p.root s.nx { r with cells:=r.cells.set p.off (.ow sub u l') }⟩:St).toS=⟨s.toS.t,setR s.toS.m p.root { r.toR with cells:=r.toR.cells.set p.off (.ow sub (l'.map (encU u))) }⟩:=by
     refine drop_toS.S_ext rfl ?_
     show toM (setM s.m p.root s.nx _)=_
     rw [setM_toM]
     congr 1
     simp only [Rt.toR,hh,holed,List.map_set,Tt.toT]
    rw [e] at hk
    exact hk
   ·exact h.elim
  ·exact h.elim
theorem storeT_ok {K:S->Prop} (hK:∀ t:St,k t->K t.toS) {t:TypeId} {x v:At} (hn:ND s.m) (h:storeT P s t x v k):storeK P s.toS t x.toV v.toV K:=by
 unfold storeT at h
 split at h
 ·rename_i p ts hv
  split at h
  ·rename_i hc
   simp only [Bool.and_eq_true] at hc
   unfold storeK
   rw [cellsAt_ok,hv]
   refine ⟨hc.1.1,by rw [List.length_map]; exact Nat.eq_of_beq_eq_true hc.1.2,by rw [List.length_map]; exact hasRoomT_ok hc.2,?_⟩
   split at h
   ·rename_i hrow
    refine putRowT_ok hK (fun e=>?_) h
    subst e
    simp [rowSt,Nat.blt] at hrow
   ·exact storesT_ok hK hn h
  ·exact h.elim
 ·exact h.elim
theorem srcT_ok {u:U} {v:At} {l:List (El u)} {size:Nat} (hs:nc u=size) (h:srcT u v=some l):srcRows size v.toV=some (l.map (encU u))/\v.noRf=true:=by
 unfold srcT at h
 split at h
 ·simp only [Option.some.injEq] at h; subst h; exact ⟨rfl,rfl⟩
 ·rename_i u' l'
  obtain ⟨e,rfl⟩:=castL_eq h
  subst e
  exact ⟨rfl,rfl⟩
 ·rename_i b
  split at h
  ·simp only [Option.some.injEq] at h
   subst h
   have:size=1:=hs.symm
   simp only [At.toV,A1.toV,Tt.toT,C.toD,srcRows]
   rw [if_pos this]
   exact ⟨rfl,rfl⟩
  ·cases h
 ·cases h
theorem cell_of_atT {m:List (Nm×Nat×Rt)} {q:Pl} {r:Rt} {t:Tt} (hr:getM m q.root=some r) (hp:q.path=[]) (h:atT m q 1=some [t]):r.cells[q.off]? = some t:=by
 unfold atT at h
 rw [hr] at h
 dsimp only at h
 rw [hp] at h
 dsimp only at h
 split at h
 ·rename_i hb
  simp only [Option.some.injEq] at h
  have:=congrArg (·[0]?) h
  simpa [List.getElem?_take,List.getElem?_drop] using this
 ·cases h
theorem baseT_ok {u:U} {v:At} {s':St} {sub:List Sh} {l:List (El u)} {size:Nat} (hs:nc u=size) (hn:ND s.m) (hop:∀ q,v=.one (.c (.rf q))->okP (toM s.m) q) (h:baseT s u v=some (s',sub,l)) :
  baseK s.toS size v.toV=some (s'.toS,sub,l.map (encU u))/\ND s'.m/\Ext s s':=by
 unfold baseT at h
 split at h
 ·simp only [Option.some.injEq,Prod.mk.injEq] at h
  obtain ⟨rfl,rfl,rfl⟩:=h
  exact ⟨by rw [<- hs]; rfl,hn,Ext.refl _⟩
 ·rename_i q
  split at h
  ·rename_i sub' u' l' hsl
   split at h
   ·rename_i l2 s2 hcast hlen htake
    simp only [Option.some.injEq,Prod.mk.injEq] at h
    obtain ⟨rfl,rfl,rfl⟩:=h
    obtain ⟨e,rfl⟩:=castL_eq hcast
    subst e
    unfold takeT at htake
    split at htake
    ·cases htake
    ·rename_i r hr
     split at htake
     ·rename_i hpath hh
      simp only [Option.some.injEq] at htake
      have ht:atT s.m q 1=some [.ow sub' u' l']:=by
       unfold sliceAt at hsl
       split at hsl
       ·rename_i a b c hat; cases hsl; exact hat
       ·cases hsl
      have hc:=cell_of_atT hr hpath ht
      have egr:getR s.toS.m q.root=some r.toR:=getR_of hr
      have ecs:r.toR.cells=r.cells.map Tt.toT:=by show holed _ r.hole=_; rw [hh]; rfl
      have egp:getPl s.toS.m q=some (.ow sub' (l'.map (encU u'))):=by
       unfold getPl
       rw [egr,hpath]
       dsimp only
       rw [ecs,List.getElem?_map,hc]; rfl
      refine ⟨?_,?_,?_⟩
      ·simp only [At.toV,A1.toV,Tt.toT,baseK]
       rw [egp]
       dsimp only
       rw [if_pos (by rw [<- hs]; exact Nat.eq_of_beq_eq_true hlen)]
       congr 2
       rw [<- htake]
       refine drop_toS.S_ext (killA_toS _ _ _).symm ?_
       show _=toM (killMm (thr q) s.nx (setM s.m q.root s.nx _))
       rw [killMm_toM,setM_toM]
       congr 1
       unfold putPl
       rw [egr,hpath]
       dsimp only
       show setR (toM s.m) q.root _=_
       congr 1
       simp only [Rt.toR,hh,holed,List.map_set,Tt.toT]
      ·rw [<- htake]; exact ND_kill.2 (ND_set hn)
      ·rw [<- htake]
       exact ⟨Nat.le_succ _,ExtT_kill (Nat.le_refl _),(ExtM_set _ _ (Nat.le_refl _) s.m).trans (ExtM_kill (Nat.le_refl _))⟩
     ·rename_i st pa hpath hh
      simp only [Option.some.injEq] at htake
      have ht:atT s.m q 1=some [.ow sub' u' l']:=by
       unfold sliceAt at hsl
       split at hsl
       ·rename_i a b c hat; cases hsl; exact hat
       ·cases hsl
      have egr:getR s.toS.m q.root=some r.toR:=getR_of hr
      have ecs:r.toR.cells=r.cells.map Tt.toT:=by show holed _ r.hole=_; rw [hh]; rfl
      have hq:=hop q rfl
      unfold okP at hq
      rw [hpath] at hq
      obtain ⟨r2,sub2,l2,g1,g2,g3⟩:=hq
      have er2:r2=r.toR:=Option.some.inj (g1.symm.trans egr)
      subst er2
      unfold atT at ht
      rw [hr] at ht
      dsimp only at ht
      rw [hpath] at ht
      dsimp only at ht
      split at ht
      ·rename_i sub0 u0 l0 _ hc
       rw [ecs,List.getElem?_map,hc] at g2
       simp only [Option.map_some,Option.some.injEq,Tt.toT,T.ow.injEq] at g2
       obtain ⟨rfl,rfl⟩:=g2
       have hlk:=inT_look g3 ht
       have egp:getPl s.toS.m q=some (.ow sub' (l'.map (encU u'))):=by
        unfold getPl
        rw [egr]
        dsimp only
        rw [hpath]
        dsimp only
        rw [ecs,List.getElem?_map,hc]
        simp only [Option.map_some,Tt.toT]
        rw [hlk]
       refine ⟨?_,?_,?_⟩
       ·simp only [At.toV,A1.toV,Tt.toT,baseK]
        rw [egp]
        dsimp only
        rw [if_pos (by rw [<- hs]; exact Nat.eq_of_beq_eq_true hlen)]
        congr 2
        rw [<- htake]
        refine drop_toS.S_ext (killA_toS _ _ _).symm ?_
        show _=toM (killMm (thr q) s.nx (setM s.m q.root s.nx _))
        rw [killMm_toM,setM_toM]
        congr 1
        unfold putPl
        rw [egr]
        dsimp only
        rw [hpath]
        dsimp only
        rw [ecs,List.getElem?_map,hc]
        show setR (toM s.m) q.root _=_
        congr 1
        simp only [Rt.toR,Option.map_some,Tt.toT,T.toD]
        rw [holed_at _ _ hc]
       ·rw [<- htake]; exact ND_kill.2 (ND_set hn)
       ·rw [<- htake]
        exact ⟨Nat.le_succ _,ExtT_kill (Nat.le_refl _),(ExtM_set _ _ (Nat.le_refl _) s.m).trans (ExtM_kill (Nat.le_refl _))⟩
      ·cases ht
     ·cases htake
   ·cases h
  ·cases h
 ·cases h
theorem sd_leaf:∀ n:Sn,(sd n).fs.all leaf=true:=by intro n; cases n <;> rfl
theorem cell_sure {u:U} (h:leaf u=true) (x:El u):(cellOf u x).toD.sure=true:=by
 cases u with
 | st n=>cases h
 | _=>rfl
theorem cells_sure:∀ {us:List U} (_:us.all leaf=true) (x:Fl us),∀ d∈(cellsF us x).map C.toD,d.sure=true
 | [],_,_,d,hd=>by simp [cellsF] at hd
 | u::r,h,x,d,hd=>by
  simp only [List.all_cons,Bool.and_eq_true] at h
  simp only [cellsF,List.map_cons,List.mem_cons] at hd
  rcases hd with rfl | hd
  ·exact cell_sure h.1 _
  ·exact cells_sure h.2 _ d hd
theorem enc_sure {u:U} (x:El u):∀ d∈encU u x,d.sure=true:=by
 rw [<- flat_enc]
 cases u with
 | st n=>exact cells_sure (sd_leaf n) _
 | _=>intro d hd; rw [flat_leaf rfl] at hd; simp only [List.map_cons,List.map_nil,List.mem_singleton] at hd; subst hd; exact cell_sure rfl _
theorem appendT_ok {E:Ut} {t u0:TypeId} {x y:Operand} {d:Tmp} (hx:okOp x=true) (hy:okOp y=true) (hn:ND (frzAt s (evA s y)).m) (hop:∀ q,evA (frzAt s (evA s y)) x=.one (.c (.rf q))->okP (toM (frzAt s (evA s y)).m) q) (h:appendT P E s t u0 x y d k):appendK P (frzAt s (evA s y)).toS t u0 x y d (upS k):=by
 unfold appendT at h
 dsimp only at h
 generalize hs1:frzAt s (evA s y)=s1 at h hn hop
 split at h
 ·rename_i e ht
  split at h
  ·rename_i u z he hz
   split at h
   ·rename_i hc
    simp only [Bool.and_eq_true] at hc
    obtain ⟨⟨⟨c1,c2⟩,c3⟩,c4⟩:=hc
    have hsz:=Nat.eq_of_beq_eq_true c4
    split at h
    ·rename_i ys s2 sub l hsrc hbase
     split at h
     ·rename_i hsub
      obtain ⟨⟨h1,h2⟩,h3⟩:=h
      obtain ⟨k1,k2⟩:=srcT_ok hsz hsrc
      obtain ⟨b1,b2,_⟩:=baseT_ok hsz hn hop hbase
      unfold appendK
      dsimp only
      rw [evA_toV hy,frzV_noRf k2,ht]
      dsimp only
      refine ⟨c1,c2,by rw [hz]; simp only [Option.map_some]; rw [Nat.eq_of_beq_eq_true c3],?_⟩
      rw [evA_toV hy,evA_toV hx,k1,b1]
      dsimp only
      refine ⟨hsub,?_,by rw [List.length_map,List.length_map]; exact h1,by rw [List.length_map,List.length_map]; exact h2,_,?_,h3⟩
      ·intro r hr
       obtain ⟨z',_,rfl⟩:=List.mem_map.1 hr
       exact ⟨by rw [encU_length]; exact hsz,enc_sure z'⟩
      ·rw [<- fresh_toS b2]
       have er:(⟨false,[.ow sub u (l++ys)],none⟩:Rt).toR=⟨false,[.ow sub (l.map (encU u)++ys.map (encU u))]⟩:=by
        rw [<- List.map_append]; rfl
       rw [<- er]
       exact put_SEq ((s2.fresh (.gh d)).root (.gh d) ⟨false,[.ow sub u (l++ys)],none⟩) (some d) (.one (.c (.rf ⟨.gh d,0,[]⟩)))
     ·exact h.elim
    ·exact h.elim
   ·exact h.elim
  ·exact h.elim
 ·exact h.elim
theorem appendT2_ok {E:Ut} {t u0:TypeId} {x y:Operand} {d:Tmp} (hx:okOp x=true) (hy:okOp y=true) (hn:ND s.m) (hopy:∀ q,evA s y=.one (.c (.rf q))->okP (toM s.m) q)
  (hopx:∀ (size:Nat) (s1:St) (sub:List Sh) (l:List (List D)) q,ND s1.m->baseK s.toS size (evA s y).toV=some (s1.toS,sub,l)->evA s1 x=.one (.c (.rf q))->okP (toM s1.m) q) (h:appendT2 P E s t u0 x y d k):appendK2 P s.toS t u0 x y d (upS k):=by
 unfold appendT2 at h
 split at h
 ·rename_i e ht
  split at h
  ·rename_i u z he hz
   split at h
   ·rename_i hc
    simp only [Bool.and_eq_true] at hc
    obtain ⟨⟨⟨c1,c2⟩,c3⟩,c4⟩:=hc
    have hsz:=Nat.eq_of_beq_eq_true c4
    split at h
    ·rename_i s1 sub1 ys hby
     split at h
     ·rename_i s2 sub l hbx
      split at h
      ·rename_i hsub
       obtain ⟨⟨h1,h2⟩,h3⟩:=h
       obtain ⟨a1,a2,_⟩:=baseT_ok hsz hn hopy hby
       obtain ⟨b1,b2,_⟩:=baseT_ok hsz a2 (fun q hq=>hopx _ s1 _ _ q a2 a1 hq) hbx
       unfold appendK2
       rw [ht]
       dsimp only
       refine ⟨c1,c2,by rw [hz]; simp only [Option.map_some]; rw [Nat.eq_of_beq_eq_true c3],?_⟩
       rw [evA_toV hy,a1]
       dsimp only
       rw [evA_toV hx,b1]
       dsimp only
       have hlen:sub1.length=nc u:=by
        unfold baseT at hby
        split at hby
        ·simp only [Option.some.injEq,Prod.mk.injEq] at hby
         obtain ⟨_,rfl,_⟩:=hby; simp
        ·split at hby
         ·split at hby
          ·rename_i hb _
           simp only [Option.some.injEq,Prod.mk.injEq] at hby
           obtain ⟨_,rfl,_⟩:=hby
           exact Nat.eq_of_beq_eq_true hb
          ·cases hby
         ·cases hby
        ·cases hby
       refine ⟨shpEqs_eq hsub,?_,by rw [List.length_map,List.length_map]; exact h1,by rw [List.length_map,List.length_map]; exact h2,_,?_,h3⟩
       ·intro r hr
        obtain ⟨z',_,rfl⟩:=List.mem_map.1 hr
        exact ⟨by rw [encU_length,hlen],enc_sure z'⟩
       ·rw [<- fresh_toS b2]
        have er:(⟨false,[.ow sub u (l++ys)],none⟩:Rt).toR=⟨false,[.ow sub (l.map (encU u)++ys.map (encU u))]⟩:=by
         rw [<- List.map_append]; rfl
        rw [<- er]
        exact put_SEq ((s2.fresh (.gh d)).root (.gh d) ⟨false,[.ow sub u (l++ys)],none⟩) (some d) (.one (.c (.rf ⟨.gh d,0,[]⟩)))
      ·exact h.elim
     ·exact h.elim
    ·exact h.elim
   ·exact h.elim
  ·exact h.elim
 ·exact h.elim
end
end Go.Am
end

section
namespace Go.Am
abbrev chn (v:Value):List PanicEntry:=[{ v,recovered:=false }]
def callPost (g:G) (a:Act) (pk:PKt) (k:St->At->Prop) (e:Ending) (w':World):Prop:=
 (∃ r s' av H' γ' F',e=.returned r/\k s' av/\AR w' H' γ' (toM s'.m) av.toV r/\RX g s'.toS a w' H' γ' F') \/
 ∃ v s',e=.panicked (chn v)/\pk v s'/\R g s'.toS a w'
structure Cont (P:Program) (f:Nat) (C:CKt):Prop where
 run:∀ args w,(callFunc f args).run P w=.ok (.enter f args) w
 ext:∀ (pk:PKt) (s:St) (ops:List Operand) (k k':St->At->Prop),(∀ s' v,Ext s s'->k s' v->k' s' v)->C pk s ops k->C pk s ops k'
 call:∀ (g:G) (pk:PKt) (s:St) (a:Act) (w:World) (H:FH) (γ:Gam) (F:Nm->Fp) (ops:List Operand) (k:St->At->Prop),RX g s.toS a w H γ F->ops.all okOp=true->C pk s ops k ->
  Calls P f (ops.map a.eval).toArray w (callPost g a pk k)
def En.ok (e:En):Prop:=∀ x∈e.cs,Cont e.P x.1 x.2
theorem En.ok_get {e:En} (h:e.ok) {f:Nat} {C:CKt} (hg:e.cs.get f=some C):Cont e.P f C:=by
 have:∀ cs:CTt,(∀ x∈cs,Cont e.P x.1 x.2)->cs.get f=some C->Cont e.P f C:=by
  intro cs
  induction cs with
  | nil=>intro _ h; cases h
  | cons x cs ih=>
   obtain ⟨f',C'⟩:=x
   intro h hg2
   simp only [CTt.get] at hg2
   split at hg2
   ·rename_i hb
    have:=Nat.eq_of_beq_eq_true hb
    subst this
    have hg':C'=C:=by simpa using hg2
    subst hg'
    exact h (f',C') (by simp)
   ·exact ih (fun y hy=>h y (List.mem_cons_of_mem _ hy)) hg2
 exact this e.cs h hg
section
variable {k k':At->Prop}
theorem pickT_mono {c x y:At} (hk:∀ v,k v->k' v) (h:pickT c x y k):pickT c x y k':=by
 unfold pickT at h ⊢
 (repeat' split at h) <;> first | exact h.elim | exact hk _ h | exact ⟨h.1,hk _ h.2⟩ | (simp_all; done)
theorem numT_mono {op:BinOp} {κ:IntKind} {a b:Int} {K K':C->Prop} (hk:∀ v,K v->K' v) (h:numT op κ a b K):numT op κ a b K':=by
 unfold numT at h ⊢
 cases op <;> first | exact hk _ h | exact ⟨h.1,hk _ h.2⟩
theorem binC_mono {op:BinOp} {x y:C} {K K':C->Prop} (hk:∀ v,K v->K' v) (h:binC op x y K):binC op x y K':=by
 unfold binC at h ⊢
 split at h
 ·split at h <;> first | exact h.elim | exact hk _ h | exact ⟨h.1,hk _ h.2⟩
 ·split at h
  ·split at h
   ·rename_i hc; rw [if_pos hc]; exact numT_mono hk h
   ·exact h.elim
  ·exact h.elim
theorem binT_mono {P:Program} {op:BinOp} {t:TypeId} {x y:At} (hk:∀ v,k v->k' v) (h:binT P op t x y k):binT P op t x y k':=by
 unfold binT at h ⊢
 (repeat' split at h) <;> first | exact h.elim | exact hk _ h | exact ⟨h.1,hk _ h.2⟩ | exact binC_mono (fun v hv=>hk _ hv) h | (simp_all; done)
theorem unT_mono {op:UnOp} {x:At} (hk:∀ v,k v->k' v) (h:unT op x k):unT op x k':=by
 unfold unT at h ⊢
 (repeat' split at h) <;> first | exact h.elim | exact hk _ h | exact ⟨h.1,hk _ h.2⟩ | (simp_all; done)
theorem extractT_mono {x:At} {i:Nat} (hk:∀ v,k v->k' v) (h:extractT x i k):extractT x i k':=by
 unfold extractT at h ⊢
 (repeat' split at h) <;> first | exact h.elim | exact hk _ h | exact ⟨h.1,hk _ h.2⟩ | (simp_all; done)
theorem strAtT_mono {x i:At} (hk:∀ v,k v->k' v) (h:strAtT x i k):strAtT x i k':=by
 unfold strAtT at h ⊢
 (repeat' split at h) <;> first | exact h.elim | exact hk _ h | exact ⟨h.1,hk _ h.2⟩ | (simp_all; done)
theorem boundT_mono {y:Option At} {d:Nat} {k1 k2:Nat->Prop} (hk:∀ n,k1 n->k2 n) (hb:boundT y d k1):boundT y d k2:=by
 unfold boundT at hb ⊢
 split at hb
 ·exact hk _ hb
 ·exact ⟨hb.1,hk _ hb.2⟩
 ·exact hb.elim
theorem sliceT_mono {P:Program} {t:TypeId} {x:At} {lo hi:Option At} (hk:∀ v,k v->k' v) (h:sliceT P t x lo hi k):sliceT P t x lo hi k':=by
 unfold sliceT at h ⊢
 split at h
 ·split at h
  ·exact boundT_mono (fun a ha=>boundT_mono (fun b hb=>⟨hb.1,hk _ hb.2⟩) ha) h
  ·exact h.elim
 ·split at h
  ·skip
   split at h
   ·exact boundT_mono (fun a ha=>boundT_mono (fun b hb=>⟨hb.1,hk _ hb.2⟩) ha) h
   ·exact h.elim
  ·exact h.elim
 ·split at h
  ·skip
   split at h
   ·exact boundT_mono (fun a ha=>boundT_mono (fun b hb=>⟨hb.1,hb.2.1,hk _ hb.2.2⟩) ha) h
   ·exact h.elim
  ·exact h.elim
 ·exact h.elim
theorem fieldAddrT_mono {P:Program} {m:List (Nm×Nat×Rt)} {t:TypeId} {x:At} {i:Nat} (hk:∀ v,k v->k' v) (h:fieldAddrT P m t x i k):fieldAddrT P m t x i k':=by
 unfold fieldAddrT at h ⊢
 split at h
 ·skip
  split at h
  ·skip
   split at h
   ·split at h
    ·exact hk _ h
    ·exact h.elim
   ·exact hk _ h
   ·exact h.elim
  ·exact h.elim
 ·exact h.elim
theorem indexAddrT_mono {P:Program} {m:List (Nm×Nat×Rt)} {t:TypeId} {x i:At} (hk:∀ v,k v->k' v) (h:indexAddrT P m t x i k):indexAddrT P m t x i k':=by
 unfold indexAddrT at h ⊢
 split at h
 ·split at h
  ·skip
   split at h
   ·split at h
    ·exact ⟨h.1,hk _ h.2⟩
    ·exact h.elim
   ·split at h
    ·skip
     split at h
     ·skip
      split at h
      ·exact ⟨h.1,hk _ h.2⟩
      ·exact h.elim
     ·exact h.elim
    ·exact h.elim
   ·exact h.elim
  ·skip
   split at h
   ·split at h
    ·exact ⟨h.1,hk _ h.2⟩
    ·exact h.elim
   ·split at h
    ·exact ⟨h.1,hk _ h.2⟩
    ·exact h.elim
   ·exact h.elim
  ·exact h.elim
 ·exact h.elim
theorem loadT_mono {P:Program} {m:List (Nm×Nat×Rt)} {t:TypeId} {x:At} (hk:∀ v,k v->k' v) (h:loadT P m t x k):loadT P m t x k':=by
 unfold loadT at h ⊢
 split at h
 ·skip
  split at h
  ·split at h
   ·skip
    split at h
    ·exact hk _ h
    ·exact h.elim
   ·skip
    split at h
    ·exact hk _ h
    ·exact h.elim
  ·split at h
   ·exact ⟨h.1,hk _ h.2⟩
   ·exact h.elim
  ·split at h
   ·skip
    split at h
    ·exact hk _ h
    ·exact h.elim
   ·skip
    split at h
    ·exact hk _ h
    ·exact h.elim
  ·exact h.elim
 ·exact h.elim
theorem fieldT_mono {P:Program} {t:TypeId} {x:At} {i:Nat} (hk:∀ v,k v->k' v) (h:fieldT P t x i k):fieldT P t x i k':=by
 unfold fieldT at h ⊢
 split at h
 ·skip
  split at h
  ·skip
   split at h
   ·exact hk _ h
   ·exact h.elim
  ·skip
   split at h
   ·exact hk _ h
   ·exact h.elim
  ·exact h.elim
 ·exact h.elim
theorem nilCheckT_mono {x:At} (hk:∀ v,k v->k' v) (h:nilCheckT x k):nilCheckT x k':=by
 unfold nilCheckT at h ⊢
 split at h
 ·exact hk _ h
 ·exact hk _ h
 ·exact hk _ h
 ·exact h.elim
theorem buildT_mono {P:Program} {t:TypeId} {ps:List (Nat×At)} (hk:∀ v,k v->k' v) (h:buildT P t ps k):buildT P t ps k':=by
 unfold buildT at h ⊢
 split at h
 ·skip
  split at h
  ·exact hk _ h
  ·exact h.elim
 ·exact h.elim
theorem convT_mono {P:Program} {su du:TypeId} {x:At} (hk:∀ v,k v->k' v) (h:convT P su du x k):convT P su du x k':=by
 unfold convT at h ⊢
 split at h
 ·skip
  split at h
  ·split at h
   ·exact hk _ h
   ·exact h.elim
  ·exact h.elim
 ·skip
  split at h
  ·skip
   split at h
   ·exact hk _ h
   ·exact hk _ h
   ·exact h.elim
  ·exact h.elim
 ·exact h.elim
theorem qT_mono {e:En} {o:Oper} {s:St} (hk:∀ v,k v->k' v) (h:qT e o s k):qT e o s k':=by
 unfold qT at h ⊢
 cases ho:o.op with
 | move x=>rw [ho] at h; exact hk _ h
 | assign x=>rw [ho] at h; exact hk _ h
 | pick c x y=>rw [ho] at h; exact pickT_mono hk h
 | binOp op t x y z=>rw [ho] at h; exact binT_mono hk h
 | unOp op t x=>rw [ho] at h; exact unT_mono hk h
 | load t x=>rw [ho] at h; exact loadT_mono hk h
 | field t x i=>rw [ho] at h; exact fieldT_mono hk h
 | fieldAddr t x i=>rw [ho] at h; exact fieldAddrT_mono hk h
 | indexAddr t x i=>rw [ho] at h; exact indexAddrT_mono hk h
 | index t x i=>
  rw [ho] at h
  dsimp only at h ⊢
  split at h
  ·exact strAtT_mono hk h
  ·exact h.elim
 | extract x i=>rw [ho] at h; exact extractT_mono hk h
 | convert su du x=>rw [ho] at h; exact convT_mono hk h
 | slice t x lo hi mx=>
  rw [ho] at h
  cases mx with
  | some _=>exact h.elim
  | none=>exact sliceT_mono hk h
 | nilCheck x=>rw [ho] at h; exact nilCheckT_mono hk h
 | build t ps=>rw [ho] at h; exact buildT_mono hk h
 | call c=>
  rw [ho] at h
  dsimp only at h ⊢
  split at h
  ·skip
   split at h
   ·exact lenT_mono (fun n hn=>hk _ hn) h
   ·exact h.elim
  ·exact h.elim
 | _=>rw [ho] at h; exact h.elim
end
section
variable {k k':St->Prop} {s:St}
theorem allocT_ext {P:Program} {t:TypeId} {d:Tmp} (hk:∀ s',Ext s s'->k s'->k' s') (h:allocT P s t d k):allocT P s t d k':=by
 unfold allocT at h ⊢
 split at h
 ·skip
  split at h
  ·exact hk _ (((Ext_fresh _ _).trans (Ext_root _ _ _)).trans (Ext_put _ _ _)) h
  ·exact h.elim
 ·exact h.elim
theorem boxT_ext {x:Operand} {d:Tmp} (hk:∀ s',Ext s s'->k s'->k' s') (h:boxT s x d k):boxT s x d k':=by
 unfold boxT at h ⊢
 split at h
 ·skip
  split at h
  ·exact hk _ (((Ext_fresh _ _).trans (Ext_root _ _ _)).trans (Ext_put _ _ _)) h
  ·exact h.elim
 ·exact h.elim
theorem buildSliceT_ext {P:Program} {E:Ut} {t:TypeId} {n:Nat} {ps:Array (Nat×Operand)} {d:Tmp} (hk:∀ s',Ext s s'->k s'->k' s') (h:buildSliceT P E s t n ps d k):buildSliceT P E s t n ps d k':=by
 unfold buildSliceT at h ⊢
 split at h
 ·skip
  split at h
  ·skip
   split at h
   ·skip
    dsimp only at h ⊢
    split at h
    ·skip
     split at h
     ·skip
      exact hk _ ((((Ext_frzAts _ _).trans (Ext_fresh _ _)).trans (Ext_root _ _ _)).trans (Ext_put _ _ _)) h
     ·exact h.elim
    ·exact h.elim
   ·exact h.elim
  ·exact h.elim
 ·exact h.elim
theorem putT_ext {p:Pl} {t:Tt} (hk:∀ s',Ext s s'->k s'->k' s') (h:putT s p t k):putT s p t k':=by
 unfold putT at h ⊢
 split at h
 ·exact h.elim
 ·skip
  split at h
  ·skip
   split at h
   ·exact hk _ ⟨Nat.le_succ _,fun _ _ _ h _=>h,ExtM_set _ _ (Nat.le_refl _) _⟩ h
   ·exact h.elim
  ·skip
   split at h
   ·exact okTP_mono (hk _ ⟨Nat.le_succ _,fun _ _ _ h _=>h,ExtM_set _ _ (Nat.le_refl _) _⟩) h
   ·exact h.elim
  ·skip
   split at h
   ·skip
    split at h
    ·exact okTP_mono (eqPath_mono (hk _ ⟨Nat.le_succ _,fun _ _ _ h _=>h,ExtM_set _ _ (Nat.le_refl _) _⟩)) h
    ·exact h.elim
   ·exact h.elim
  ·exact h.elim
theorem storesT_ext:∀ {ts:List Tt} {s:St} {p:Pl},(∀ s',Ext s s'->k s'->k' s')->storesT s p ts k->storesT s p ts k'
 | [],s,p,hk,h=>hk _ (Ext.refl s) h
 | t::ts,s,p,hk,h=>by
  cases t with
  | rf q=>
   simp only [storesT] at h ⊢
   split at h
   ·skip
    split at h
    ·skip
     exact putT_ext (fun s' he hs'=>storesT_ext (fun s'' he'=>hk s'' (((Ext_drop _ _).trans he).trans he')) hs') h
    ·exact h.elim
   ·exact h.elim
  | any=>exact h.elim
  | d c=>cases c with
   | any=>exact h.elim
   | _=>exact putT_ext (fun s' he hs'=>storesT_ext (fun s'' he'=>hk s'' (he.trans he')) hs') h
  | _=>exact putT_ext (fun s' he hs'=>storesT_ext (fun s'' he'=>hk s'' (he.trans he')) hs') h
theorem putRowT_ext {p:Pl} {ts:List Tt} (hk:∀ s',Ext s s'->k s'->k' s') (h:putRowT s p ts k):putRowT s p ts k':=by
 unfold putRowT at h ⊢
 split at h
 ·exact h.elim
 ·skip
  split at h
  ·skip
   split at h
   ·exact okTP_mono (hk _ ⟨Nat.le_succ _,fun _ _ _ h _=>h,ExtM_set _ _ (Nat.le_refl _) _⟩) h
   ·exact h.elim
  ·exact h.elim
theorem storeT_ext {P:Program} {t:TypeId} {x v:At} (hk:∀ s',Ext s s'->k s'->k' s') (h:storeT P s t x v k):storeT P s t x v k':=by
 unfold storeT at h ⊢
 split at h
 ·skip
  split at h
  ·skip
   split at h
   ·exact putRowT_ext hk h
   ·exact storesT_ext hk h
  ·exact h.elim
 ·exact h.elim
theorem baseT_ext {u:U} {v:At} {s':St} {sub:List Sh} {l:List (El u)} (h:baseT s u v=some (s',sub,l)):Ext s s':=by
 unfold baseT at h
 split at h
 ·simp only [Option.some.injEq,Prod.mk.injEq] at h
  obtain ⟨rfl,_⟩:=h; exact Ext.refl _
 ·split at h
  ·split at h
   ·rename_i htake
    simp only [Option.some.injEq,Prod.mk.injEq] at h
    obtain ⟨rfl,_⟩:=h
    unfold takeT at htake
    split at htake
    ·cases htake
    ·split at htake
     ·simp only [Option.some.injEq] at htake
      rw [<- htake]
      exact ⟨Nat.le_succ _,ExtT_kill (Nat.le_refl _),(ExtM_set _ _ (Nat.le_refl _) s.m).trans (ExtM_kill (Nat.le_refl _))⟩
     ·simp only [Option.some.injEq] at htake
      rw [<- htake]
      exact ⟨Nat.le_succ _,ExtT_kill (Nat.le_refl _),(ExtM_set _ _ (Nat.le_refl _) s.m).trans (ExtM_kill (Nat.le_refl _))⟩
     ·cases htake
   ·cases h
  ·cases h
 ·cases h
theorem appendT_ext {P:Program} {E:Ut} {t u:TypeId} {x y:Operand} {d:Tmp} (hk:∀ s',Ext s s'->k s'->k' s') (h:appendT P E s t u x y d k):appendT P E s t u x y d k':=by
 unfold appendT at h ⊢
 dsimp only at h ⊢
 split at h
 ·skip
  split at h
  ·skip
   split at h
   ·skip
    split at h
    ·rename_i h3 h4
     split at h
     ·skip
      exact ⟨h.1,hk _ (((((Ext_frzAt _ _).trans (baseT_ext h4)).trans (Ext_fresh _ _)).trans (Ext_root _ _ _)).trans (Ext_put _ _ _)) h.2⟩
     ·exact h.elim
    ·exact h.elim
   ·exact h.elim
  ·exact h.elim
 ·exact h.elim
theorem buildSliceT2_ext {P:Program} {E:Ut} {sub:List Sh} {t:TypeId} {n:Nat} {ps:Array (Nat×Operand)} {d:Tmp} (hk:∀ s',Ext s s'->k s'->k' s') (h:buildSliceT2 P E sub s t n ps d k):buildSliceT2 P E sub s t n ps d k':=by
 unfold buildSliceT2 at h ⊢
 split at h
 ·skip
  split at h
  ·skip
   split at h
   ·skip
    dsimp only at h ⊢
    split at h
    ·skip
     split at h
     ·skip
      exact hk _ ((((Ext_frzAts _ _).trans (Ext_fresh _ _)).trans (Ext_root _ _ _)).trans (Ext_put _ _ _)) h
     ·exact h.elim
    ·exact h.elim
   ·exact h.elim
  ·exact h.elim
 ·exact h.elim
theorem appendT2_ext {P:Program} {E:Ut} {t u:TypeId} {x y:Operand} {d:Tmp} (hk:∀ s',Ext s s'->k s'->k' s') (h:appendT2 P E s t u x y d k):appendT2 P E s t u x y d k':=by
 unfold appendT2 at h ⊢
 split at h
 ·skip
  split at h
  ·skip
   split at h
   ·skip
    split at h
    ·rename_i h3
     split at h
     ·rename_i h4
      split at h
      ·skip
       exact ⟨h.1,hk _ (((((baseT_ext h3).trans (baseT_ext h4)).trans (Ext_fresh _ _)).trans (Ext_root _ _ _)).trans (Ext_put _ _ _)) h.2⟩
      ·exact h.elim
     ·exact h.elim
    ·exact h.elim
   ·exact h.elim
  ·exact h.elim
 ·exact h.elim
theorem lT_ext {e:En} (he:e.ok) {o:Oper} (hk:∀ s',Ext s s'->k s'->k' s') (h:lT e o s k):lT e o s k':=by
 unfold lT at h ⊢
 cases ho:o.op with
 | store t x v=>rw [ho] at h; exact storeT_ext (fun s' he hs'=>hk _ (((Ext_frzTo _ _ _).trans he).trans (Ext_put _ _ _)) hs') h
 | alloc t=>
  rw [ho] at h
  cases hd:o.dst with
  | none=>rw [hd] at h; exact h.elim
  | some d=>rw [hd] at h; exact allocT_ext hk h
 | box t x=>
  rw [ho] at h
  cases hd:o.dst with
  | none=>rw [hd] at h; exact h.elim
  | some d=>rw [hd] at h; exact boxT_ext hk h
 | buildSlice t n ps=>
  rw [ho] at h
  cases hd:o.dst with
  | none=>rw [hd] at h; exact h.elim
  | some d=>
   rw [hd] at h
   dsimp only at h ⊢
   split at h
   ·exact buildSliceT_ext hk h
   ·exact buildSliceT2_ext hk h
 | call c=>
  rw [ho] at h
  dsimp only at h ⊢
  split at h
  ·skip
   cases hd:o.dst with
   | none=>rw [hd] at h; exact h.elim
   | some d=>
    rw [hd] at h
    dsimp only at h ⊢
    split at h
    ·exact appendT_ext hk h
    ·exact appendT2_ext hk h
  ·skip
   split at h
   ·rename_i C hg
    exact (En.ok_get he hg).ext _ _ _ _ _ (fun s' v hE hs'=>hk _ (hE.trans (Ext_put _ _ _)) hs') h
   ·exact h.elim
  ·skip
   split at h
   ·skip
    split at h
    ·rename_i C hg
     exact (En.ok_get he hg).ext _ _ _ _ _ (fun s' v hE hs'=>hk _ (hE.trans (Ext_put _ _ _)) hs') h
    ·exact h.elim
   ·exact h.elim
  ·exact h.elim
 | _=>rw [ho] at h; exact h.elim
theorem opT_ext {e:En} (he:e.ok) {o:Oper} (hk:∀ s',Ext s s'->k s'->k' s') (h:opT e o s k):opT e o s k':=by
 unfold opT at h ⊢
 split at h
 ·rename_i hq
  exact qT_mono (fun v hv=>hk _ ((Ext_preF _ _).trans (Ext_put _ _ _)) hv) h
 ·exact lT_ext he hk h
end
section
variable {P:Program} {g:G} {Q:Exit->S->Prop} {s:St}
def AOt (P:Program) (g:G) (o:Oper) (k:St->Prop) (Q:Exit->S->Prop) (s:St):Prop:=
 ∀ a w,R g s.toS a w->o.wp P a w (fun a' w'=>∃ s':St,k s'/\R g s'.toS a' w') (lift g Q)
def PQ (pk:PKt):Exit->S->Prop:=fun x s=>∃ v,∃ t:St,x=.panic (chn v)/\s=t.toS/\pk v t
theorem AOt_lT {e:En} (he:e.ok) (hpk:∀ x s,PQ e.pk x s->Q x s) {o:Oper} {k:St->Prop} (hc:opC g.nt o=true) (hq:isQ o=false) (h:lT e o s k):AOt e.P g o k Q s:=by
 intro a w hR
 obtain ⟨H,γ,F,hX⟩:=hR
 have hn:=ND_of hX
 have base:∀ {s1:St},(∃ H' F',RX g s1.toS a w H' γ F')->opK e.P [] o s1.toS (upS k)->o.wp e.P a w (fun a' w'=>∃ s':St,k s'/\R g s'.toS a' w') (lift g Q):=by
  intro s1 ⟨H',F',hX1⟩ hop
  exact Oper_wp_mono (fun a' w' ⟨s',⟨t,e,hk⟩,hR'⟩=>⟨t,hk,R_SEq e hR'⟩) (fun _ _ _ h=>h) (AO_opK (Q:=Q) CT.ok0 hc hop a w ⟨H',γ,F',hX1⟩)
 have hcc:=hc
 unfold opC at hcc
 rw [Bool.and_eq_true] at hcc
 obtain ⟨hd,hcc⟩:=hcc
 unfold lT at h
 cases ho:o.op with
 | store t x v=>
  rw [ho] at h hcc
  simp only [Bool.and_eq_true] at hcc
  have hX1:=RXt_frzTo hX (evA s x) (evA s v)
  refine base hX1 ?_
  obtain ⟨H1,F1,h1⟩:=hX1
  unfold opK
  rw [ho]
  dsimp only
  rw [evA_toV hcc.1,evA_toV hcc.2]
  exact storeT_ok (fun t' hk=>⟨_,put_SEq t' o.dst .any,hk⟩) (ND_of h1) h
 | alloc t=>
  rw [ho] at h
  cases hdd:o.dst with
  | none=>rw [hdd] at h; exact h.elim
  | some d=>
   rw [hdd] at h
   refine base (s1:=s) ⟨H,F,hX⟩ ?_
   unfold opK
   rw [ho,hdd]
   exact allocT_ok hn h
 | box t x=>
  rw [ho] at h hcc
  cases hdd:o.dst with
  | none=>rw [hdd] at h; exact h.elim
  | some d=>
   rw [hdd] at h
   refine base (s1:=s) ⟨H,F,hX⟩ ?_
   unfold opK
   rw [ho,hdd]
   exact boxT_ok hn hcc h
 | buildSlice t n ps=>
  rw [ho] at h hcc
  cases hdd:o.dst with
  | none=>rw [hdd] at h; exact h.elim
  | some d=>
   rw [hdd] at h hd
   have hX1:=RXt_frzAts (ps.toList.map fun x=>evA s x.2) s H F hX
   dsimp only at h
   split at h
   ·refine base hX1 ?_
    unfold opK
    rw [ho,hdd]
    obtain ⟨H1,F1,h1⟩:=hX1
    exact buildSliceT_ok hcc (ND_of h1) h
   ·obtain ⟨H1,F1,h1⟩:=hX1
    obtain ⟨s',y,w',H',γ',F',e1,⟨t',et,hk⟩,e3⟩:=buildSliceK2_ok (P:=e.P) h1 hd hcc (buildSliceT2_ok hcc (ND_of h1) h)
    unfold Oper.wp
    have:(execOp a.eval o).run e.P w=.ok (.value y) w':=by simp only [execOp,ho]; rw [Sem.run_bind,e1]; rfl
    rw [this]
    exact ⟨t',hk,H',γ',F',RX_SEq et (by rw [hdd]; exact e3)⟩
 | call c=>
  rw [ho] at h hcc
  obtain ⟨callee,args,argTypes⟩:=c
  obtain ⟨args⟩:=args
  obtain ⟨argTypes⟩:=argTypes
  dsimp only at h hcc
  cases callee with
  | builtin b=>
   cases b with
   | append=>
    match args,argTypes,h with
    | [x,y],[t,u],h=>
     have h1:okOp x=true/\okOp y=true:=by simpa using hcc
     cases hdd:o.dst with
     | none=>rw [hdd] at h; exact h.elim
     | some d=>
      rw [hdd] at h hd
      dsimp only at h
      split at h
      rotate_left
      ·obtain ⟨s',y',w',H',γ',F',e1,⟨t',et,hk⟩,e3⟩:=appendK2_ok (P:=e.P) (tt:=o.type) hX hd h1.1 h1.2 (appendT2_ok h1.1 h1.2 hn (fun q hq=>by
         have h3:=ev_ok hX h1.2
         rw [evA_toV h1.2,hq] at h3
         obtain ⟨_,h4,_⟩:=h3
         exact okP_rf h4) (fun size s1 sub l q hn1 hb hq=>by
         have hy:=ev_ok hX h1.2
         rw [evA_toV h1.2] at hy
         obtain ⟨_,_,F1,_,hX1,_⟩:=base_ok2 hX hy hb
         have h3:=ev_ok hX1 h1.1
         rw [evA_toV h1.1,hq] at h3
         obtain ⟨_,h4,_⟩:=h3
         exact okP_rf h4) h)
       unfold Oper.wp
       have:(execOp a.eval o).run e.P w=.ok (.value y') w':=by
        simp only [execOp,ho,resolve,invoke,builtin,Sem.run_bind,Sem.run_pure,Result.andThen_ok,List.map_toArray,List.map_cons,List.map_nil]
        rw [e1]; rfl
       rw [this]
       exact ⟨t',hk,H',γ',F',RX_SEq et (by rw [hdd]; exact e3)⟩
      have hX1:=RXt_frzAt hX (evA s y)
      refine base hX1 ?_
      unfold opK
      rw [ho,hdd]
      obtain ⟨H1,F1,h2⟩:=hX1
      exact appendT_ok h1.1 h1.2 (ND_of h2) (fun q hq=>by
       have h3:=ev_ok h2 h1.1
       rw [evA_toV h1.1,hq] at h3
       obtain ⟨_,h4,_⟩:=h3
       exact okP_rf h4) h
   | _=>exact h.elim
  | value v=>
   cases v with
   | func f=>
    dsimp only at h
    cases hg:e.cs.get f with
    | none=>rw [hg] at h; exact h.elim
    | some C=>
     rw [hg] at h
     have hC:=En.ok_get he hg
     have hr:(execOp a.eval o).run e.P w=.ok (.enter f (args.map a.eval).toArray) w:=by
      simp only [execOp,ho,resolve,Act.eval,Deferred.ofValue,Sem.run_bind,Sem.run_pure,Result.andThen_ok,invoke]
      rw [hC.run]
      simp
     unfold Oper.wp
     rw [hr]
     refine Calls.mono (hC.call g e.pk s a w H γ F args _ hX hcc h) (fun e' w' hp=>?_)
     rcases hp with ⟨r,s',av,H',γ',F',k1,k2,k3,k4⟩ | ⟨v,s',k1,k2,k4⟩
     ·subst k1
      exact ⟨_,k2,H',γ',F',RX_SEq (put_SEq s' o.dst av) (k4.put hd k3)⟩
     ·subst k1
      exact ⟨_,hpk _ _ ⟨v,s',rfl,rfl,k2⟩,k4⟩
   | tmp t=>
    dsimp only at h
    split at h
    ·rename_i f hf ht
     cases hg:e.cs.get f with
     | none=>rw [hg] at h; exact h.elim
     | some C=>
      rw [hg] at h
      have hC:=En.ok_get he hg
      have hv:a.eval (.tmp t)=.func (.func f) #[] #[]:=by
       have h3:=hX.t t
       rw [G.tv_lo (show t<TB from Nat.le_of_ble_eq_true ht)] at h3
       unfold fnAt at hf
       split at hf
       ·rename_i f' x y hgt
        split at hf
        ·rename_i hx0 hy0
         simp only [Option.some.injEq] at hf
         subst hf
         rw [show getT s.toS.t t=(gtA s.t t).toV from gtA_toS t s.t,hgt] at h3
         obtain ⟨_,m,h3⟩:=h3
         have e1:a.tmps.getD t undef=.func (.func f') x y:=by cases m <;> exact h3.1
         show a.tmps.getD t undef=_
         rw [e1]
         have ex:x=#[]:=Array.eq_empty_of_size_eq_zero hx0
         have ey:y=#[]:=Array.eq_empty_of_size_eq_zero hy0
         rw [ex,ey]
        ·cases hf
       ·cases hf
      have hr:(execOp a.eval o).run e.P w=.ok (.enter f (args.map a.eval).toArray) w:=by
       simp only [execOp,ho,resolve,hv,Deferred.ofValue,Sem.run_bind,Sem.run_pure,Result.andThen_ok,invoke]
       rw [hC.run]
       simp
      unfold Oper.wp
      rw [hr]
      refine Calls.mono (hC.call g e.pk s a w H γ F args _ hX hcc h) (fun e' w' hp=>?_)
      rcases hp with ⟨r,s',av,H',γ',F',k1,k2,k3,k4⟩ | ⟨v,s',k1,k2,k4⟩
      ·subst k1
       exact ⟨_,k2,H',γ',F',RX_SEq (put_SEq s' o.dst av) (k4.put hd k3)⟩
      ·subst k1
       exact ⟨_,hpk _ _ ⟨v,s',rfl,rfl,k2⟩,k4⟩
    ·exact h.elim
   | _=>exact h.elim
  | invoke r n=>exact h.elim
 | _=>rw [ho] at h; exact h.elim
theorem AOt_opT {e:En} (he:e.ok) (hpk:∀ x s,PQ e.pk x s->Q x s) {o:Oper} {k:St->Prop} (hc:opC g.nt o=true) (h:opT e o s k):AOt e.P g o k Q s:=by
 unfold opT at h
 split at h
 ·rename_i hq
  intro a w ⟨H,γ,F,hX⟩
  obtain ⟨H1,F1,hX1⟩:=RXt_preF hX o
  obtain ⟨z,d,B,_,e1,e2,e3⟩:=qK_ok hX1 hc (qT_ok hX1 hc h)
  obtain ⟨v',rfl,hk⟩:=e3
  unfold Oper.wp
  rw [e1 w (fun _ _=>rfl)]
  exact ⟨_,hk,H1,γ,F1,RX_SEq (put_SEq _ _ _) (hX1.put (opC_dst hc) e2)⟩
 ·rename_i hq
  exact AOt_lT he hpk hc hq h
theorem AO_SEq {o:Oper} {K:S->Prop} {s s':S} (e:SEq s s') (h:AO P g o K Q s'):AO P g o K Q s:=fun a w hR=>h a w (R_SEq e hR)
theorem AL_SEq {ops rest:List Oper} {s s':S} (e:SEq s s') (h:AL P g ops rest Q s'):AL P g ops rest Q s:=fun a w hR=>h a w (R_SEq e hR)
theorem AO_of_t {o:Oper} {K:S->Prop} (h:AOt P g o (fun t=>K t.toS) Q s):AO P g o K Q s.toS:=fun a w hR=>
 Oper_wp_mono (fun a' w' ⟨s',hk,hR'⟩=>⟨s'.toS,hk,hR'⟩) (fun _ _ _ h=>h) (h a w hR)
theorem gtA_eq {d:Nat} {v:At} (h:gtA s.t d=v):getT s.toS.t d=v.toV:=by rw [<- h]; exact gtA_toS d s.t
theorem put_SEq' (s:St) (d:Nat) (b:Bool):SEq (s.toS.put (some d) (.one (.c (.d (.bool b))))) (s.put (some d) (sct (.bo b))).toS:=put_SEq s (some d) (sct (.bo b))
theorem put2_SEq (s:St) (d:Nat) (b:Bool) (o:Option Tmp):SEq ((s.toS.put (some d) (.one (.c (.d (.bool b))))).put o (.tup [])) ((s.put (some d) (sct (.bo b))).put o (.tup [])).toS:=by
 have h1:=put_SEq' s d b
 have h2:=put_SEq (s.put (some d) (sct (.bo b))) o (.tup [])
 refine ⟨fun i=>?_,?_⟩
 ·rw [<- h2.1 i]
  cases o with
  | none=>exact h1.1 i
  | some o=>show getT (setT _ o _) i=getT (setT _ o _) i; rw [getT_setT,getT_setT,h1.1 i]; rfl
 ·rw [<- h2.2]; cases o <;> exact h1.2
theorem AL_opsT {e:En} (he:e.ok) (hpk:∀ x s,PQ e.pk x s->Q x s) {k:St->Prop} {all:List Oper}:∀ {rest:List Oper} {s:St},opsC g.nt all rest=true->opsT e all rest s k->(∀ t:St,k t->Q .normal t.toS)->AL e.P g all rest Q s.toS
 | [],s,_,h,hQ=>AL_nil (hQ s h)
 | o::r,s,hc,h,hQ=>by
  simp only [opsC,Bool.and_eq_true] at hc
  obtain ⟨⟨hc1,hc2⟩,hc3⟩:=hc
  simp only [opsT] at h
  have run:∀ {s:St},opT e o s (fun s'=>opsT e all r s' k)->AO e.P g o (AL e.P g all r Q) Q s.toS:=fun {s} h=>
   AO_of_t (fun a w hR=>Oper_wp_mono (fun a' w' ⟨s',hk,hR'⟩=>⟨s',AL_opsT he hpk hc3 hk hQ,hR'⟩) (fun _ _ _ h=>h) (AOt_opT he hpk hc1 h a w hR))
  cases hg:o.guard with
  | none=>
   rw [hg] at h
   exact AL_cons hg (run h)
  | some q=>
   obtain ⟨j,want⟩:=q
   rw [hg] at h hc2
   dsimp only at h hc2
   cases hj:(all[j]?).bind (·.dst) with
   | none=>rw [hj] at h; exact h.elim
   | some d=>
    rw [hj] at h hc2
    dsimp only at h hc2
    split at h
    ·rename_i c hcc
     have hgt:getT s.toS.t d=.one (.c (.d (.bool c))):=gtA_eq hcc
     cases want with
     | true=>
      dsimp only at h
      refine AL_guard hg hj hgt hc2 (opC_dst hc1) (fun hc=>?_) (fun hc=>?_)
      ·subst hc; rw [if_pos rfl] at h; exact AO_SEq (put_SEq' s d true) (run h)
      ·subst hc; rw [if_neg (by simp)] at h; exact AL_SEq (put2_SEq s d _ _) (AL_opsT he hpk hc3 h hQ)
     | false=>
      dsimp only at h
      refine AL_guard hg hj hgt hc2 (opC_dst hc1) (fun hc=>?_) (fun hc=>?_)
      ·subst hc; rw [if_neg (by simp)] at h; exact AO_SEq (put_SEq' s d false) (run h)
      ·subst hc; rw [if_pos (by rfl)] at h; exact AL_SEq (put2_SEq s d _ _) (AL_opsT he hpk hc3 h hQ)
    ·rename_i hcc
     exact AL_unguard hg hj (gtA_eq hcc) (opC_dst hc1) (AL_SEq (put_SEq s o.dst (.tup [])) (AL_opsT he hpk hc3 h hQ))
    ·exact h.elim
theorem opsT_ext {e:En} (he:e.ok) {all:List Oper} {k k':St->Prop}:∀ {rest:List Oper} {s:St},(∀ s',Ext s s'->k s'->k' s')->opsT e all rest s k->opsT e all rest s k'
 | [],s,hk,h=>hk s (Ext.refl s) h
 | o::r,s,hk,h=>by
  have run:∀ {s1:St},Ext s s1->opT e o s1 (fun s'=>opsT e all r s' k)->opT e o s1 (fun s'=>opsT e all r s' k'):=fun {s1} h1 h=>
   opT_ext he (fun s' h2 hs'=>opsT_ext he (fun s'' h3=>hk s'' ((h1.trans h2).trans h3)) hs') h
  have rest:∀ {s1:St},Ext s s1->opsT e all r s1 k->opsT e all r s1 k':=fun {s1} h1 h=>opsT_ext he (fun s'' h3=>hk s'' (h1.trans h3)) h
  simp only [opsT] at h ⊢
  split at h
  ·exact run (Ext.refl s) h
  ·rename_i j want hg
   split at h
   ·rename_i d hj
    split at h
    ·rename_i c hcc
     cases want <;> cases c <;> simp only [Bool.false_eq_true,if_true,if_false] at h ⊢
     ·exact run (Ext_put _ _ _) h
     ·exact rest ((Ext_put _ _ _).trans (Ext_put _ _ _)) h
     ·exact rest ((Ext_put _ _ _).trans (Ext_put _ _ _)) h
     ·exact run (Ext_put _ _ _) h
    ·exact rest (Ext_put _ _ _) h
    ·exact h.elim
   ·exact h.elim
end
end Go.Am
end

section
namespace Go.Am
section
variable {e:En} {g:G} {k:St->Prop} {Q:Exit->S->Prop}
theorem isElT_toV {x:At} (h:isElT x=true):isEl x.toV=true:=by
 unfold isElT at h
 split at h
 ·rfl
 ·rfl
 ·cases h
theorem frozenT_ok {s:St} {o:Oper} (hc:opC g.nt o=true) (h:frozenT s o=true):frozenRead s.toS o:=by
 unfold frozenT at h
 unfold frozenRead
 unfold opC at hc
 rw [Bool.and_eq_true] at hc
 cases ho:o.op with
 | load t x=>
  rw [ho] at h hc
  dsimp only at hc ⊢
  rw [evA_toV hc.2]
  exact isElT_toV h
 | _=>trivial
theorem gT_ok {ops:List Oper} {o:Oper} {s:St} {f no:St->Prop} (h:gT ops o s f no):gK ops o s.toS (upS f) (upS no):=by
 unfold gT at h
 unfold gK
 cases hg:o.guard with
 | none=>rw [hg] at h; exact ⟨s,⟨fun _=>rfl,rfl⟩,h⟩
 | some q=>
  obtain ⟨j,want⟩:=q
  rw [hg] at h
  dsimp only at h ⊢
  cases hj:(ops[j]?).bind (·.dst) with
  | none=>rw [hj] at h; exact h.elim
  | some d=>
   rw [hj] at h
   dsimp only at h ⊢
   split at h
   ·rename_i c hcc
    rw [gtA_eq hcc]
    simp only [At.toV,A1.toV,Tt.toT,C.toD]
    cases want <;> cases c <;> simp only [Bool.false_eq_true,if_true,if_false] at h <;> simp only [gsel]
    ·exact ⟨_,put_SEq' s d false,h⟩
    ·exact ⟨_,put2_SEq s d _ _,h⟩
    ·exact ⟨_,put2_SEq s d _ _,h⟩
    ·exact ⟨_,put_SEq' s d true,h⟩
   ·rename_i hcc
    rw [gtA_eq hcc]
    exact ⟨_,put_SEq s o.dst (.tup []),h⟩
   ·exact h.elim
theorem gT_ext {ops:List Oper} {o:Oper} {s:St} {f f' no no':St->Prop} (hf:∀ s',Ext s s'->f s'->f' s') (hn:∀ s',Ext s s'->no s'->no' s') (h:gT ops o s f no):gT ops o s f' no':=by
 unfold gT at h ⊢
 cases hg:o.guard with
 | none=>rw [hg] at h; exact hf _ (Ext.refl s) h
 | some q=>
  obtain ⟨j,want⟩:=q
  rw [hg] at h
  dsimp only at h ⊢
  cases hj:(ops[j]?).bind (·.dst) with
  | none=>rw [hj] at h; exact h.elim
  | some d=>
   rw [hj] at h
   dsimp only at h ⊢
   split at h
   ·rename_i c _
    cases want <;> cases c <;> simp only [Bool.false_eq_true,if_true,if_false] at h ⊢
    ·exact hf _ (Ext_put _ _ _) h
    ·exact hn _ ((Ext_put _ _ _).trans (Ext_put _ _ _)) h
    ·exact hn _ ((Ext_put _ _ _).trans (Ext_put _ _ _)) h
    ·exact hf _ (Ext_put _ _ _) h
   ·exact hn _ (Ext_put _ _ _) h
   ·exact h.elim
theorem AD_takeT {ops:Array Oper} {K:S->Prop} {fuel:Nat} {listed:Array Bool} {i:Nat} {A:List Nat} {fz:Bool} {o:Oper} (hC:guardsC g.nt ops=true) (hs:Region.noSelect ops=true) (hi:ops[i]? = some o)
  (ht:takeC ops listed i A fz=true) {s:St} {D:St->Prop} (hD:∀ s:St,D s->AD e.P g ops Q K fuel (listed.setIfInBounds i true) s.toS)
  (h:gT ops.toList o s (fun s=>(fz=true->frozenT s o=true)/\qT e o s fun v=>D (s.put o.dst v)) D):AD e.P g ops Q K (fuel+1) listed s.toS:=by
 intro a w H γ F Pr hX hPr
 simp only [takeC,Bool.and_eq_true] at ht
 obtain ⟨⟨⟨⟨t1,t2⟩,t3⟩,t4⟩,t5⟩:=ht
 obtain ⟨c1,c2⟩:=guardsC_get hC hi
 have hready:=Region.ready_mem_of_contains t2
 have hbeh:behind .any ops i (fun j=>A.contains j) listed:=by
  intro j hj hun
  have:=List.all_eq_true.1 t4 j (by simpa using hj)
  rw [unlisted_iff.2 hun] at this
  cases ho:ops[j]? with
  | none=>rw [ho] at this; simp at this
  | some oj=>
   rw [ho] at this
   simp only [Bool.not_true,Bool.false_or] at this
   obtain ⟨e,he,h1⟩:=Array.any_eq_true'.1 this
   simp only [Bool.and_eq_true,Bool.or_eq_true,beq_iff_eq] at h1
   exact ⟨oj,rfl,e,he,h1.1.1,unlisted_iff.1 h1.1.2,h1.2⟩
 have hset:∀ j,(listed.setIfInBounds i true).getD j true=false->listed.getD j true=false:=fun j h=>(getD_set_f h).1
 rcases guard_ok hX (gT_ok h) (opC_dst c1) c2 with ⟨hw,s0,⟨s',e0,hf,hq⟩,hX0⟩ | ⟨hw,s0,⟨s',e0,hno⟩,hX0⟩
 ·have hX':=RX_SEq e0 hX0
  obtain ⟨z,d,B,e0,e1,e2,v',e3,hk⟩:=qK_ok hX' c1 (qT_ok hX' c1 hq)
  subst e3
  refine wpAnyL_first (Zx_still g Q) (A:=fun j=>A.contains j) (B:=B) (v:=z) hi (Region.noSelect_spec hs) fuel listed Pr (fun j b=>Pr j b\/(A.contains j=false/\B b)) a w (fun j b h=>.inl h) (fun j b h1 h2=>.inr ⟨h1,h2⟩)
   (Region.free_spec hi t1) hbeh hready (.inl ⟨hw,fun w2 hs2=>e1 w2 hs2⟩) (hD _ hk (a.put o.dst z) w H γ F _ (RX_SEq (put_SEq _ _ _) (hX'.put (opC_dst c1) e2)) ?_)
  intro j oj hj hun
  obtain ⟨hun1,hji⟩:=getD_set_f hun
  rcases hPr j oj hj hun1 with hp | hp
  ·exact .inl hp
  cases hfz:fz with
  | true=>
   refine .inr fun b hb=>?_
   rcases hb with hb | ⟨_,hb⟩
   ·exact hp b hb
   ·exact e0 (frozenT_ok c1 (hf hfz)) b hb
  | false=>
   rw [hfz,Bool.false_or] at t5
   have:=List.all_eq_true.1 t5 j (List.mem_range.2 (Array.getElem?_eq_some_iff.1 hj).1)
   rw [unlisted_iff.2 hun1,hj] at this
   simp only [Bool.not_true,Bool.false_or,Bool.or_eq_true,beq_iff_eq] at this
   rcases this with (this | this) | this
   ·exact absurd this hji
   ·refine .inr fun b hb=>?_
    rcases hb with hb | ⟨hb,_⟩
    ·exact hp b hb
    ·rw [this] at hb; cases hb
   ·exact .inl this
 ·have hX':=RX_SEq e0 hX0
  refine wpAnyL_first (Zx_still g Q) (A:=fun _=>false) (B:=fun _=>False) (v:=undef) hi (Region.noSelect_spec hs) fuel listed Pr Pr a w (fun j b h=>h) (fun j b _ h2=>h2.elim)
   (Region.free_spec hi t1) (fun j h=>by cases h) hready (.inr ⟨hw,rfl⟩) (hD _ hno (a.put o.dst undef) w H γ F _ hX' (hPr.mono hset (fun _ _ _ h=>h)))
theorem AD_stepT {ops:Array Oper} {K:S->Prop} {fuel:Nat} {listed:Array Bool} {i:Nat} {o:Oper} (he:e.ok) (hpk:∀ x s,PQ e.pk x s->Q x s) (hC:guardsC g.nt ops=true) (hun:listed.getD i true=false) (hi:ops[i]? = some o) {s:St}
  {D:St->Prop} (hD:∀ s:St,D s->AD e.P g ops Q K fuel (listed.setIfInBounds i true) s.toS) (h:gT ops.toList o s (fun s=>opT e.cl o s D) D) {a:Act} {w:World} {H:FH} {γ:Gam} {F:Nm->Fp} {Pr:Nat->Bs} (hX:RX g s.toS a w H γ F) (hPr:PrOK ops listed H Pr) :
  lOp e.P ops (Zx g Q) Pr i (fun a' w'=>∃ Pr':Nat->Bs,(∀ j b,Pr j b->Pr' j b)/\wpAnyL e.P .any ops (Zx g Q) (fun a w=>∃ s',K s'/\R g s' a w) fuel (listed.setIfInBounds i true) Pr' a' w') a w:=by
 have hset:∀ j,(listed.setIfInBounds i true).getD j true=false->listed.getD j true=false:=fun j h=>(getD_set_f h).1
 unfold lOp
 rw [hi]
 obtain ⟨c1,c2⟩:=guardsC_get hC hi
 dsimp only
 rcases guard_ok hX (gT_ok h) (opC_dst c1) c2 with ⟨hw,s0,⟨s',e0,hop⟩,hX0⟩ | ⟨hw,s0,⟨s',e0,hno⟩,hX0⟩
 ·have hX':=RX_SEq e0 hX0
  rw [if_pos hw]
  by_cases hq:isQ o=true
  ·unfold opT at hop
   rw [hq] at hop
   dsimp only at hop
   obtain ⟨H1,F1,hX1,hH1⟩:=RXt_mono hX' (fun g' H F hx=>RXt_preF hx o)
   obtain ⟨z,d,B,_,e1,e2,e3⟩:=qK_ok hX1 c1 (qT_ok hX1 c1 hop)
   obtain ⟨v',rfl,hk⟩:=e3
   unfold Oper.wp
   rw [e1 w (fun _ _=>rfl)]
   exact ⟨fun _ _=>rfl,Pr,fun _ _ h=>h,hD _ hk (a.put o.dst z) w H1 γ F1 Pr (RX_SEq (put_SEq _ _ _) (hX1.put (opC_dst c1) e2)) (hPr.mono hset hH1)⟩
  ·have hp:∀ b,Pr i b->∃ x y,H b x=some y:=by
    rcases hPr i o hi hun with h | h
    ·exact absurd h hq
    ·exact h
   let g':G:=⟨g.nt,w,H,tot F s'.toS.m,g.out,g.ex,g.dfs⟩
   have hX2:RX g' s'.toS a w H γ F:=⟨hX'.mem,Fr.refl' rfl rfl rfl rfl (fun _ h=>h),hX'.nt,⟨hX'.df.1,hX'.df.2.1,RX_globs hX'⟩,hX'.t⟩
   refine Oper_wp_mono ?_ (fun x a' w' h=>?_) (AOt_opT (g:=g') (e:=e.cl) (Q:=PQ e.cl.pk) he (fun _ _ h=>h) c1 hop a w ⟨H,γ,F,hX2⟩)
   ·intro a' w' ⟨s2,hs2,H2,γ2,F2,hX3⟩
    have hfr:=hX3.fr
    refine ⟨fun b hb=>?_,Pr,fun _ _ h=>h,?_⟩
    ·obtain ⟨x,y,hxy⟩:=hp b hb
     have hc:=hX'.mem.agree b x y hxy
     refine hfr.block b ?_ ?_
     ·show b<w.heap.size
      rcases Nat.lt_or_ge b w.heap.size with h | h
      ·exact h
      ·simp [World.cell?,Array.getElem?_eq_none h] at hc
     ·show tot F s'.toS.m b=0
      rcases Nat.eq_zero_or_pos (tot F s'.toS.m b) with h | h
      ·exact h
      ·have:=hX'.mem.nofz b (by omega) x
       rw [hxy] at this; cases this
    ·exact hD _ hs2 a' w' H2 γ2 F2 Pr ⟨hX3.mem,hX'.fr.trans hfr,hX3.nt,⟨hX3.df.1,hX3.df.2.1,hX'.df.2.2⟩,hX3.t⟩ (hPr.mono hset hfr.hold)
   ·obtain ⟨s2,⟨v,t,rfl,rfl,hv⟩,H2,γ2,F2,hX3⟩:=h
    exact ⟨t.clr.toS,rfl,hpk _ _ ⟨v,t.clr,rfl,rfl,hv⟩,H2,γ2,F2,RX_noT ⟨hX3.mem,hX'.fr.trans hX3.fr,hX3.nt,⟨hX3.df.1,hX3.df.2.1,hX'.df.2.2⟩,hX3.t⟩ rfl rfl⟩
 ·have hX':=RX_SEq e0 hX0
  rw [if_neg (by rw [hw]; simp)]
  exact ⟨Pr,fun _ _ h=>h,hD _ hno (a.put o.dst undef) w H γ F Pr hX' (hPr.mono hset (fun _ _ _ h=>h))⟩
theorem pickQ_spec {ops:Array Oper} {listed:Array Bool} {s:St} {i:Nat} {A:List Nat} {fz:Bool}:∀ {rd:List Nat},pickQ ops listed s rd=some (i,A,fz) ->
  ∃ o,ops[i]? = some o/\takeC ops listed i A fz=true/\(fz=true->frozenT s o=true)/\isQ o=true
 | [],h=>by cases h
 | j::r,h=>by
  simp only [pickQ] at h
  split at h
  ·exact pickQ_spec h
  ·rename_i o ho
   split at h
   ·exact pickQ_spec h
   ·rename_i hq
    split at h
    ·rename_i hf
     split at h
     ·rename_i ht
      simp only [Option.some.injEq,Prod.mk.injEq] at h
      obtain ⟨rfl,rfl,rfl⟩:=h
      exact ⟨o,ho,ht,fun _=>hf,hq⟩
     ·exact pickQ_spec h
    ·split at h
     ·rename_i ht
      simp only [Option.some.injEq,Prod.mk.injEq] at h
      obtain ⟨rfl,rfl,rfl⟩:=h
      exact ⟨o,ho,ht,fun h=>(by cases h),hq⟩
     ·exact pickQ_spec h
theorem allT_mem {f:Nat->Prop}:∀ {l:List Nat},allT f l->∀ i∈l,f i
 | [i],h,j,hj=>by simp only [List.mem_singleton] at hj; subst hj; exact h
 | i::i'::r,h,j,hj=>by
  simp only [List.mem_cons] at hj
  rcases hj with rfl | hj
  ·exact h.1
  ·exact allT_mem h.2 j (by simpa using hj)
theorem preF_load {s:St} {o:Oper} {t:TypeId} {x:Operand} (h:o.op=.load t x):preF s o=s:=by unfold preF; rw [h]
theorem AD_drawT (he:e.ok) (hpk:∀ x s,PQ e.pk x s->Q x s) {ops:Array Oper} {K:S->Prop} (hC:guardsC g.nt ops=true) (hs:Region.noSelect ops=true) (hK:∀ t:St,k t->K t.toS) :
  ∀ (fuel:Nat) (listed:Array Bool) (s:St),drawT e ops fuel listed s k->AD e.P g ops Q K fuel listed s.toS
 | 0,listed,s,h=>by
  simp only [drawT] at h
  split at h
  ·rename_i hr; exact AD_nil hr (hK s h) 0
  ·exact h.elim
 | fuel+1,listed,s,h=>by
  simp only [drawT] at h
  split at h
  ·rename_i hr; exact AD_nil hr (hK s h) _
  ·rename_i i0 rd hr
   split at h
   ·rename_i i A fz hp
    obtain ⟨o,hi,ht,hf,hq⟩:=pickQ_spec hp
    rw [hi] at h
    dsimp only at h
    obtain ⟨c1,c2⟩:=guardsC_get hC hi
    split at h
    ·rename_i hg
     intro a w H γ F Pr hX hPr
     obtain ⟨H1,F1,hX1,hH1⟩:=RXt_mono hX (fun g' H F hx=>RXt_preF hx o)
     refine AD_takeT (D:=fun s'=>drawT e ops fuel (listed.setIfInBounds i true) s' k) hC hs hi ht (fun s' hs'=>AD_drawT he hpk hC hs hK fuel _ _ hs') ?_ a w H1 γ F1 Pr hX1 (hPr.mono (fun _ h=>h) hH1)
     unfold gT
     rw [hg]
     refine ⟨fun hfz=>?_,h⟩
     have:=hf hfz
     cases hop:o.op with
     | load t x=>rw [preF_load hop]; exact this
     | _=>unfold frozenT; rw [hop]
    ·rename_i q hg
     refine AD_takeT (D:=fun s'=>drawT e ops fuel (listed.setIfInBounds i true) s' k) hC hs hi ht (fun s' hs'=>AD_drawT he hpk hC hs hK fuel _ _ hs') ?_
     refine gT_ext (fun s' _ hs'=>?_) (fun _ _ h=>h) h
     split at hs'
     ·rename_i hb
      refine ⟨fun hfz=>?_,hs'⟩
      rw [hfz] at hb
      simpa using hb
     ·exact hs'.elim
   ·intro a w H γ F Pr hX hPr
    refine ⟨fun h0=>absurd (hr ▸ h0) (by simp),fun i hi=>?_⟩
    have hun:listed.getD i true=false:=(mem_ready.1 hi).1
    have hfi:=allT_mem h i (hr ▸ hi)
    cases ho:ops[i]? with
    | none=>rw [ho] at hfi; exact hfi.elim
    | some o=>
     rw [ho] at hfi
     exact AD_stepT he hpk hC hun ho (fun s hs'=>AD_drawT he hpk hC hs hK fuel _ s hs') hfi hX hPr
theorem AW_drawT {id:Nat} {l:List Oper} (he:e.ok) (hpk:∀ x s,PQ e.pk x s->Q x s) (hm:e.P.follows .mixedOrders=true) (hC:guardsC g.nt l.toArray=true) (hs:Region.noSelect l.toArray=true) {s:St}
  (hQ:∀ t:St,k t->Q .normal t.toS) (h:drawT e l.toArray l.toArray.size (Array.replicate l.toArray.size false) s k):AW e.P g (.region id l.toArray true) Q s.toS:=by
 intro a w hR
 refine wp_region_any hm (wpAny_of_L (Z:=Zx g Q) (Q:=fun a w=>∃ s',Q .normal s'/\R g s' a w) (fun a w h=>h) (fun e a w h=>Zx_lift h) _ _ (fun _ _=>False) _ _ ?_)
 obtain ⟨H,γ,F,hX⟩:=hR
 exact AD_drawT (Q:=Q) he hpk hC hs hQ _ _ s h a _ H γ F _ (RX_drawn hX _ rfl rfl rfl rfl) (fun j o _ _=>.inr fun b hb=>hb.elim)
theorem allT_ext {f f':Nat->Prop} (h:∀ i,f i->f' i):∀ {l:List Nat},allT f l->allT f' l
 | [],_=>trivial
 | [i],hh=>h i hh
 | i::i'::r,hh=>⟨h i hh.1,allT_ext h (l:=i'::r) hh.2⟩
theorem drawT_ext (he:e.ok) {ops:Array Oper} {k':St->Prop}:∀ {fuel:Nat} {listed:Array Bool} {s:St},(∀ s',Ext s s'->k s'->k' s')->drawT e ops fuel listed s k->drawT e ops fuel listed s k'
 | 0,listed,s,hk,h=>by
  simp only [drawT] at h ⊢
  split at h
  ·exact hk _ (Ext.refl s) h
  ·exact h.elim
 | fuel+1,listed,s,hk,h=>by
  simp only [drawT] at h ⊢
  split at h
  ·exact hk _ (Ext.refl s) h
  ·split at h
   ·split at h
    ·split at h
     ·exact qT_mono (fun v hv=>drawT_ext he (fun s' hE=>hk s' (((Ext_preF _ _).trans (Ext_put _ _ _)).trans hE)) hv) h
     ·refine gT_ext (fun s1 h1 hs1=>?_) (fun s1 h1 hs1=>drawT_ext he (fun s' hE=>hk s' (h1.trans hE)) hs1) h
      split at hs1
      ·exact qT_mono (fun v hv=>drawT_ext he (fun s' hE=>hk s' ((h1.trans (Ext_put _ _ _)).trans hE)) hv) hs1
      ·exact hs1.elim
    ·exact h.elim
   ·refine allT_ext (fun i hi=>?_) h
    split at hi
    ·exact gT_ext (fun s1 h1 hs1=>opT_ext (e:=e.cl) he (fun s2 h2 hs2=>drawT_ext he (fun s' hE=>hk s' ((h1.trans h2).trans hE)) hs2) hs1) (fun s1 h1 hs1=>drawT_ext he (fun s' hE=>hk s' (h1.trans hE)) hs1) hi
    ·exact hi.elim
end
end Go.Am
end

section
namespace Go.Am
def TinN (N:List Nm):T->Prop
 | .pl p=>p.root∈N
 | .rf p=>p.root∈N
 | _=>True
def A1inN (N:List Nm):AV1->Prop
 | .c t=>TinN N t
 | .agg ts=>∀ t∈ts,TinN N t
def AinN (N:List Nm):AV->Prop
 | .one x=>A1inN N x
 | .tup xs=>∀ x∈xs,A1inN N x
 | .any=>True
def canonR (r:Root):Root:=⟨r.blk,r.cells.map T.canon⟩
def CanR (r r':Root):Prop:=r'.blk=r.blk/\r'.cells.length=r.cells.length/\∀ (i:Nat) t t',r.cells[i]? = some t->r'.cells[i]? = some t'->t'=t\/t'=t.canon
theorem CanR.refl (r:Root):CanR r r:=⟨rfl,rfl,fun i t t' h1 h2=>.inl (by rw [h1] at h2; exact (Option.some.inj h2).symm)⟩
theorem CanR.canon (r:Root):CanR r (canonR r):=⟨rfl,by simp [canonR],fun i t t' h1 h2=>.inr (by simp only [canonR,List.getElem?_map,h1,Option.map_some,Option.some.injEq] at h2; exact h2.symm)⟩
theorem CanR.of {r r':Root} (h:r'=r\/r'=canonR r):CanR r r':=by
 rcases h with rfl | rfl
 ·exact CanR.refl _
 ·exact CanR.canon _
theorem getR_nodup:∀ {m:Mm} {n:Nm} {r:Root},(m.map (·.1)).Nodup->(n,r)∈m->getR m n=some r
 | [],_,_,_,h=>by cases h
 | (k,x)::m,n,r,hn,h=>by
  simp only [List.map_cons,List.nodup_cons] at hn
  simp only [getR]
  rcases List.mem_cons.1 h with h | h
  ·cases h; rw [if_pos rfl]
  ·rw [if_neg (fun e=>hn.1 (by subst e; exact List.mem_map_of_mem (f:=(·.1)) h)),getR_nodup hn.2 h]
theorem tot_sub2 {F:Nm->Fp} {b:Nat}:∀ {m' m:Mm},(m'.map (·.1)).Nodup->(m.map (·.1)).Nodup->(∀ x∈m',∃ r,getR m x.1=some r)->tot F m' b<=tot F m b
 | [],_,_,_,_=>Nat.zero_le _
 | x::m',m,h1,h2,h=>by
  simp only [List.map_cons,List.nodup_cons] at h1
  obtain ⟨r,hr⟩:=h x (by simp)
  have e:=tot_delR_eq (F:=F) hr b
  have ih:=tot_sub2 (F:=F) (b:=b) (m':=m') (m:=delR m x.1) h1.2 (nodup_delR h2) (fun y hy=>by
   obtain ⟨r',hr'⟩:=h y (List.mem_cons_of_mem _ hy)
   refine ⟨r',?_⟩
   rw [getR_delR (fun e=>h1.1 (by rw [<- e]; exact List.mem_map_of_mem (f:=(·.1)) hy))]
   exact hr')
  show F x.1 b+tot F m' b<=tot F m b
  omega
section
variable {g:G} {a:Act} {w:World} {H:FH} {γ:Gam} {F:Nm->Fp}
theorem Cs_imp {R R':T->Fp->Value->Prop}:∀ {ts:List T} {ts':List T} {f:Fp} {vs:List Value},ts'.length=ts.length->(∀ (i:Nat) t t' f v,ts[i]? = some t->ts'[i]? = some t'->R t f v->R' t' f v)->Ts R ts f vs->Ts R' ts' f vs
 | [],[],_,_,_,_,h=>h
 | t::ts,t'::ts',f,vs,hl,hi,h=>by
  obtain ⟨v,r,f1,f2,e1,e2,h1,h2⟩:=h
  exact ⟨v,r,f1,f2,e1,e2,hi 0 t t' _ _ rfl rfl h1,Cs_imp (by simpa using hl) (fun i=>hi (i+1)) h2⟩
theorem RX_sub {s s':S} (hX:RX g s a w H γ F) (hnd:(s'.m.map (·.1)).Nodup)
  (hm:∀ x∈s'.m,∃ r,getR s.m x.1=some r/\CanR r x.2/\∀ t∈r.cells,TinN (s'.m.map (·.1)) t)
  (ht:∀ i,getT s'.t i=.any\/((getT s'.t i=getT s.t i\/getT s'.t i=(getT s.t i).map T.canon)/\AinN (s'.m.map (·.1)) (getT s.t i))):RX g s' a w H γ F:=by
 have hget:∀ n,n∈s'.m.map (·.1)->∃ r r',getR s.m n=some r/\getR s'.m n=some r'/\CanR r r':=by
  intro n hn
  obtain ⟨x,hx,rfl⟩:=List.mem_map.1 hn
  obtain ⟨r,h1,h2,_⟩:=hm x hx
  exact ⟨r,x.2,h1,getR_nodup hnd hx,h2⟩
 have cell:∀ {r r':Root},CanR r r'->r'.cells.length=r.cells.length/\∀ (i:Nat) sub l,r.cells[i]? = some (.ow sub l)->r'.cells[i]? = some (.ow sub l):=by
  rintro r r' ⟨_,h2,h3⟩
  refine ⟨h2,fun i sub l h=>?_⟩
  have hlt:i<r'.cells.length:=by rw [h2]; exact lt_of_get h
  rw [List.getElem?_eq_getElem hlt]
  rcases h3 i _ _ h (List.getElem?_eq_getElem hlt) with e | e
  ·rw [e]
  ·rw [e]; rfl
 have pl:∀ p,p.root∈s'.m.map (·.1)->okPl s.m p->okPl s'.m p:=by
  intro p hp h
  obtain ⟨r,r',e1,e2,e3⟩:=hget _ hp
  obtain ⟨c1,c2⟩:=cell e3
  unfold okPl at h ⊢
  rw [e1] at h
  rw [e2]
  dsimp only at h ⊢
  cases hpath:p.path with
  | nil=>rw [hpath] at h; dsimp only at h ⊢; omega
  | cons st q=>
   rw [hpath] at h
   dsimp only at h ⊢
   split at h
   ·rename_i sub l hc; rw [c2 _ _ _ hc]; exact h
   ·exact h.elim
 have rf:∀ p,p.root∈s'.m.map (·.1)->okRf s.m p->okRf s'.m p:=by
  intro p hp h
  obtain ⟨r,r',e1,e2,e3⟩:=hget _ hp
  obtain ⟨c1,c2⟩:=cell e3
  unfold okRf at h ⊢
  rw [e1] at h
  rw [e2]
  dsimp only at h ⊢
  split at h
  ·rename_i sub l hc hpath; rw [c2 _ _ _ hc,hpath]; trivial
  ·rename_i sub l st q hc hpath; rw [c2 _ _ _ hc,hpath]; exact h
  ·exact h.elim
 have tr:∀ {t:T} {f:Fp} {v:Value},TinN (s'.m.map (·.1)) t->TR w H γ s.m t f v->TR w H γ s'.m t f v:=by
  intro t f v hin h
  cases t with
  | pl p=>exact ⟨h.1,pl p hin h.2.1,h.2.2⟩
  | rf p=>exact ⟨h.1,rf p hin h.2.1,h.2.2⟩
  | _=>exact h
 have trc:∀ {t:T} {f:Fp} {v:Value},TinN (s'.m.map (·.1)) t->TR w H γ s.m t f v->TR w H γ s'.m t.canon f v:=by
  intro t f v hin h
  have h':=tr hin h
  cases t with
  | nil=>exact ⟨h'.1,(TR_canon (w:=w) (H:=H) (γ:=γ) (m:=s'.m) .nil v ⟨fun _=>rfl,h'.2⟩).2⟩
  | _=>exact h'
 have hsub:∀ b,tot F s'.m b<=tot F s.m b:=fun b=>tot_sub2 hnd hX.mem.keys (fun x hx=>by obtain ⟨r,h,_⟩:=hm x hx; exact ⟨r,h⟩)
 refine ⟨⟨hX.mem.agree,fun x hx=>?_,hnd,fun b=>Nat.le_trans (hsub b) (hX.mem.le1 b),fun b hb=>hX.mem.lt b (by have:=hsub b; omega),fun b hb=>hX.mem.nofz b (by have:=hsub b; omega)⟩,
  ⟨hX.fr.size,hX.fr.os,hX.fr.tape,hX.fr.output,hX.fr.block,hX.fr.hold,hX.fr.hnew,fun b hb=>hX.fr.tt b (by have:=hsub b; omega)⟩,hX.nt,hX.df,fun i=>?_⟩
 ·obtain ⟨r,h1,h2,h3⟩:=hm x hx
  have hR:=hX.mem.roots _ (getR_mem h1)
  have hlen:=(cell h2).1
  have key:∀ (i:Nat) t t' f v,r.cells[i]? = some t->x.2.cells[i]? = some t'->TR w H γ s.m t f v->TR w H γ s'.m t' f v:=by
   intro i t t' f v e1 e2 h
   have hin:=h3 t (List.mem_of_getElem? e1)
   rcases h2.2.2 i t t' e1 e2 with e | e
   ·rw [e]; exact tr hin h
   ·rw [e]; exact trc hin h
  have hblk:x.2.blk=r.blk:=h2.1
  unfold RootR at hR ⊢
  rw [hblk]
  split at hR
  ·rename_i hb
   rw [if_pos hb]
   obtain ⟨b,cs,ty,fz,g',k1,k2,k3,k4,k5,k6⟩:=hR
   exact ⟨b,cs,ty,fz,g',k1,k2,k3,by rw [hlen]; exact k4,Cs_imp hlen key k5,k6⟩
  ·rename_i hb
   rw [if_neg hb]
   obtain ⟨v,t,k1,k2,k3⟩:=hR
   dsimp only at k2
   rw [k2] at hlen key
   match hc:x.2.cells,hlen with
   | [t'],_=>exact ⟨v,t',k1,rfl,key 0 t t' _ _ rfl (by rw [hc]; rfl) k3⟩
 ·rcases ht i with h | ⟨h,hin⟩
  ·rw [h]; trivial
  ·have hv:=hX.t i
   have one:∀ {x:AV1} {y:Value},A1inN (s'.m.map (·.1)) x->AR1 w H γ s.m x y->AR1 w H γ s'.m x y:=by
    intro x y hin h
    cases x with
    | c t=>exact tr hin h
    | agg ts=>
     obtain ⟨cs,e1,e2,e3⟩:=h
     refine ⟨cs,e1,e2,Cs_imp rfl (fun i t t' f v h1 h2 h=>?_) e3⟩
     rw [h1] at h2; obtain rfl:=Option.some.inj h2
     exact tr (hin t (List.mem_of_getElem? h1)) h
   have all:AR w H γ s'.m (getT s.t i) (g.tv a i):=by
    revert hv hin
    cases getT s.t i with
    | one x=>exact fun hin hv=>one hin hv
    | tup xs=>
     rintro hin ⟨l,e,hl⟩
     refine ⟨l,e,?_⟩
     have:∀ (xs:List AV1) (ys:List Value),(∀ x∈xs,A1inN (s'.m.map (·.1)) x)->ARs w H γ s.m xs ys->ARs w H γ s'.m xs ys:=by
      intro xs
      induction xs with
      | nil=>intro ys _ h; cases ys <;> exact h
      | cons x xs ih=>
       intro ys hin h
       cases ys with
       | nil=>exact h.elim
       | cons y ys=>exact ⟨one (hin x (by simp)) h.1,ih ys (fun z hz=>hin z (List.mem_cons_of_mem _ hz)) h.2⟩
     exact this xs _ hin hl
    | any=>exact fun _ _=>trivial
   rcases h with h | h
   ·rw [h]; exact all
   ·rw [h]; exact AR_map TR_canon all
end
end Go.Am
end
