/-
  Part 12: AmNice18v · AmG31 · AmL31 · AmG32 · AmG33 · AmL32 · AmPkS.
-/
import Derived.Test.YteooihiebpbaiaaGreatDoorVp11
set_option linter.unusedSimpArgs false
set_option linter.unusedVariables false
set_option linter.unusedSectionVars false
set_option linter.unnecessarySimpa false
open Lt
open Go.IntKind (i64)
section
namespace Lt
open Go
def B1(s:a8)(b:Block):List a8:=(b.End.To.filter λn=>decide (n=s)).map λ_=>b.Name
def frm(B:List Block)(s:a8):List a8:=B.flatMap (B1 s)
def sN:List a8->List In->Bool
 |_,[]=>true
 |l,x::r=>decide (x.Block∈l)&&sN (l.filter λs=>!decide (s=x.Block)) r
def K8(x:Phi)(l:List a8):Prop:=x.Ins.length<=1000000/\l.length<=100000000
def so(x:Phi)(l:List a8):Bool:=decide ((x.Ins.length:Int)=(l.length:Int))&&sN l x.Ins
def Ba(f:Func):Prop:=f.Blocks.length<=6000/\∀b∈f.Blocks,b.End.To.length<=6000/\b.Phis.length<=1000000/\∀p∈b.Phis,p.Ins.length<=1000000
def tb(B:List Block)(i:Nat):Bool:=!(decide (i=0)&&decide (0 < (B.getD i default).Phis.length))&&(B.getD i default).Phis.all λx=>so x (frm B (nmB B i))
def iA(f:Func):Bool:=(List.range f.Blocks.length).all (tb f.Blocks)
def o7(i:Instr)(a:Arg):Virt×Bool:=if a.Kind=5/\0<=a.N/\a.N < (i.Objs.length:Int)then(i.Objs.getD a.N.toNat default,true)else(⟨[],[]⟩,false)
def vOf(f:Func)(i:Instr)(a:Arg):a8×Bool:=if(o7 i a).2=true then((o7 i a).1.Class,true)else cw f a
def Ae(f:Func)(i:Instr):List Bind->List a8->Bool
 |[],_=>true
 |b::r,K=>if !(vOf f i b.A).2||decide (b.Name∈K)then false else Ae f i r (K++[b.Name])
def oZ(f:Func)(i:Instr)(x:Frame):Bool:=Ae f i x.Vars []
def xT(f:Func)(i:Instr):List Arg->List Var->Bool
 |a::l,v::r=>(vOf f i a).2&&(bB (vOf f i a).1 v.Type_&&xT f i l r)
 |_,_=>true
def sv(p:Program)(f:Func)(i:Instr)(o:Virt):Bool:=(az p o.Class).2&&(decide (((az p o.Class).1.Fields.length:Int)=(o.Vals.length:Int))&&xT f i o.Vals (az p o.Class).1.Fields)
def lE(p:Program)(f:Func)(i:Instr):Bool:=i.Frames.all (oZ f i)&&(i.Objs.all (sv p f i)&&decide ((0:Int) < (i.Frames.length:Int)))
def tE(p:Program)(f:Func)(i:Instr):Bool:=jW p f i&&(!(decide (i.Op=31)||decide (i.Op=34))||lE p f i)
def nT(p:Program)(f:Func)(b:Block):Bool:=b.Code.all (tE p f)&&xF f b.End
def o6(p:Program)(f:Func):Bool:=f.Blocks.all (nT p f)
def iX(_:Program)(f:Func):Prop:=∀b∈f.Blocks,∀i∈b.Code,i.Args.length<=1000000
def Cu(f:Func)(x:Phi):Bool:=(cw f ⟨1,x.Dst,0⟩).2&&x.Ins.all λi=>(cw f i.A).2&&bB (cw f i.A).1 (cw f ⟨1,x.Dst,0⟩).1
def BM(_:Program)(f:Func):Bool:=f.Blocks.all λb=>b.Phis.all (Cu f)
def cx(B:List Block):List a8:=B.flatMap λb=>b.Phis.map (·.Dst)++bq b
def sr(_:Program)(f:Func):Bool:=(f.Vars.all λv=>decide (((cx f.Blocks).count v.Name:Int)=1))&&((f.Params.all λv=>decide (((cx f.Blocks).count v.Name:Int)=0))&&true)
def nI(_:Program)(f:Func):Prop:=f.Blocks.length<=1000000/\∀b∈f.Blocks,b.Phis.length<=1000000/\b.Code.length<=1000000
noncomputable def vF(p:Program):List Func->Int
 |[]=>0
 |f::r=>if dF f=false\/iA f=false then 5 else if o6 p f=false\/BM p f=false\/sr p f=false\/gr f=false then 4 else vF p r
noncomputable def cT(p:Program):Int:=if bt p=false\/p.SSA=false then 3 else if iv p=false then 4 else vF p p.Funcs
def cu(p:Program):Prop:=jy p/\∀f∈p.Funcs,iX p f/\Ba f/\nI p f/\uZ f/\f.Params.length<=1000000/\(∀b∈f.Blocks,b.Phis.length<=1000000/\b.Code.length<=1000000)/\∀b∈f.Blocks,∀x∈b.Code,fP x
def Qg:Bool:=true
end Lt
end

section
namespace Go.Am
open Go
def PP(a:Lt.Phi)(b:List a8)(KK:Bool->Prop):Prop:=(a.Ins.length<=4611686018427387904->(b.length<=4611686018427387904->if !decide ((a.Ins.length:Int)=(b.length:Int))then(KK false)else((b.length<=4611686018427387904->ab (α:=Int×List (a8×Bool)) (λd c=>if decide (c.1 < (b.length:Int))then((0<=c.1/\c.1.toNat<b.length)/\d ((i64.wrap (c.1+1)),(bP .s c.2 (b.getD c.1.toNat default) true)))else((a.Ins.length<=4611686018427387904->ab (α:=Int×List (a8×Bool)) (λe v4=>if decide (v4.1 < (a.Ins.length:Int))then((0<=v4.1/\v4.1.toNat<a.Ins.length)/\if !((aw (β:=Bool) .s v4.2 ((a.Ins.getD v4.1.toNat default).Block)).getD (dflt .bo))then(KK false)else(e ((i64.wrap (v4.1+1)),(rR .s v4.2 ((a.Ins.getD v4.1.toNat default).Block)))))else(KK true)) (0,c.2)))) (0,[])))))
def G9(a:Lt.Func)(KK:Bool->Prop):Prop:=(a.Blocks.length<=4611686018427387904->ab (α:=Int×List (a8×List a8)) (λi e=>have c:=a.Blocks.getD e.1.toNat default;if decide (e.1 < (a.Blocks.length:Int))then((0<=e.1/\e.1.toNat<a.Blocks.length)/\(((c.End).To).length<=4611686018427387904->ab (α:=Int×List (a8×List a8)) (λj v4=>have z3:=((c.End).To).getD v4.1.toNat default;have z4:=(aw (β:=List a8) .s v4.2 z3).getD [];if decide (v4.1 < (((c.End).To).length:Int))then((0<=v4.1/\v4.1.toNat < ((c.End).To).length)/\(z4.length+([c.Name]:List a8).length<=4611686018427387904/\(z4.length+([c.Name]:List a8).length)*16<=140737488355328)/\z3=z3/\j ((i64.wrap (v4.1+1)),(bP .s v4.2 z3 (z4++([c.Name]:List a8)))))else(i ((i64.wrap (e.1+1)),v4.2))) (0,e.2)))else((a.Blocks.length<=4611686018427387904->ab (α:=Int) (λk f=>have d:=a.Blocks.getD f.toNat default;have z5:=(aw (β:=List a8) .s e.2 (d.Name)).getD (dflt (.sl .s));if decide (f < (a.Blocks.length:Int))then((0<=f/\f.toNat<a.Blocks.length)/\aa (α:=Bool) (λg=>if decide (f=0)then(g (decide (0 < ((d.Phis).length:Int))))else(g false)) (λh=>if h then(KK false)else(((d.Phis).length<=4611686018427387904->ab (α:=Int) (λl b=>if decide (b < ((d.Phis).length:Int))then((0<=b/\b.toNat < (d.Phis).length)/\(K8 ((d.Phis).getD b.toNat default) z5)/\if !(so ((d.Phis).getD b.toNat default) z5)then(KK false)else(l (i64.wrap (b+1))))else(k (i64.wrap (f+1)))) 0))))else(KK true)) 0))) (0,[]))
end Go.Am
end

section
namespace Go.Am
open Go
open Lt (nmB toB Gd Rc)
def RL(m:List (a8×Bool))(K:List a8):Prop:=∀k,(aw (β:=Bool) .s m k).getD false=decide (k∈K)
theorem RL.ins{m:List (a8×Bool)}{K:List a8}(h:RL m K)(k0:a8):RL (bP .s m k0 true) (K++[k0]):=by
 intro k;rw[nC];by_cases e:k0=k
 .rw[if_pos e];simp[e]
 rw[if_neg e,h k,decide_eq_decide,ak3,ak6];exact⟨.inl,λh=>h.elim id λh=>absurd h.symm e⟩
variable{β:Type}
theorem QI:∀(m:List (a8×β))(k:a8),k ∉ m.map (·.1)->aw .s m k=none
 |[],_,_=>rfl
 |x::l,k,h=>by simp only[List.map_cons,akX,not_or]at h;simp only[aw,mG];rw[decide_eq_false (λe=>h.1 e.symm)];exact QI l k h.2
theorem DD(v:β):∀(m:List (a8×β))(k0 x:a8),x∈(bP .s m k0 v).map (·.1)->x=k0\/x∈m.map (·.1)
 |[],k0,x,h=>by simpa[bP]using h
 |y::l,k0,x,h=>by
  simp only[bP,mG]at h;by_cases e:y.1=k0
  .rw[decide_eq_true e]at h;simp only[List.map_cons,akX]at h|-;exact h.elim .inl λh=>.inr (.inr h)
  rw[decide_eq_false e]at h;simp only[List.map_cons,akX]at h|-;rcases h with h|h
  .exact .inr (.inl h)
  exact(DD v l k0 x h).elim .inl λh=>.inr (.inr h)
theorem Aq(v:β):∀(m:List (a8×β))(k0:a8),(m.map (·.1)).Nodup->((bP .s m k0 v).map (·.1)).Nodup
 |[],k0,_=>by simp[bP]
 |y::l,k0,h=>by
  obtain⟨h1,h2⟩:=alG.1 h;simp only[bP,mG];by_cases e:y.1=k0
  .rw[decide_eq_true e];simp only[List.map_cons,alG];exact⟨e ▸ h1,h2⟩
  rw[decide_eq_false e];simp only[List.map_cons,alG];refine⟨λhm=>?_,Aq v l k0 h2⟩;rcases DD v l k0 _ hm with h3|h3
  .exact e h3
  exact h1 h3
theorem I9:∀(m:List (a8×β))(k0 x:a8),x∈(rR .s m k0).map (·.1)->x∈m.map (·.1)
 |[],k0,x,h=>h
 |y::l,k0,x,h=>by
  simp only[rR,mG]at h;by_cases e:y.1=k0
  .rw[decide_eq_true e]at h;simp only[List.map_cons,akX];exact .inr h
  rw[decide_eq_false e]at h;simp only[List.map_cons,akX]at h|-;exact h.elim .inl λh=>.inr (I9 l k0 x h)
theorem Dk:∀(m:List (a8×β))(k0:a8),(m.map (·.1)).Nodup->((rR .s m k0).map (·.1)).Nodup
 |[],_,h=>h
 |y::l,k0,h=>by
  obtain⟨h1,h2⟩:=alG.1 h;simp only[rR,mG];by_cases e:y.1=k0
  .rw[decide_eq_true e];exact h2
  rw[decide_eq_false e];simp only[List.map_cons,alG];exact⟨λhm=>h1 (I9 l k0 _ hm),Dk l k0 h2⟩
theorem KD:∀(m:List (a8×β))(k0 k:a8),(m.map (·.1)).Nodup->aw .s (rR .s m k0) k=if k0=k then none else aw .s m k
 |[],k0,k,_=>by simp[rR,aw]
 |y::l,k0,k,h=>by
  obtain⟨h1,h2⟩:=alG.1 h;simp only[rR,aw,mG];by_cases e:y.1=k0
  .rw[decide_eq_true e];by_cases a:k0=k
   .rw[if_pos a];exact QI l k (a ▸ e ▸ h1)
   rw[if_neg a,decide_eq_false (λb=>a (e.symm.trans b))]
  rw[decide_eq_false e];simp only[aw,mG];by_cases a:y.1=k
  .rw[decide_eq_true a,if_neg (λb=>e (a.trans b.symm))]
  rw[decide_eq_false a];exact KD l k0 k h2
theorem TX(x:Lt.Phi)(l:List a8)(hp:K8 x l)(KK:Bool->Prop)(h:KK (so x l)):PP x l KK:=by
 unfold PP;obtain⟨hx,hl⟩:=hp;intro _ _;unfold so at h;refine ifk (λhc=>?_) (λhc _=>?_)
 .have:decide ((x.Ins.length:Int)=(l.length:Int))=false:=by simpa using hc
  rw[this]at h;exact h
 have:decide ((x.Ins.length:Int)=(l.length:Int))=true:=by simpa using hc
 rw[this,ak9]at h;refine af _ l.length (λi v=>v.1=(i:Int)/\(v.2.map (·.1)).Nodup/\RL v.2 (l.take i)) (λR i v hi⟨e,hd,hm⟩ih=>?_) (λR v⟨e,hd,hm⟩=>?_) _ ⟨rfl,.nil,λ_=>rfl⟩
 .obtain⟨b,a⟩:=v;dsimp only at e hd hm|-;subst e;rw[if_pos (aF hi)];refine⟨ob hi,ih _ ⟨ac kQ1,Aq _ _ _ hd,?_⟩⟩;rw[Int.toNat_natCast,aA _ hi];exact hm.ins _
 obtain⟨b,a⟩:=v;dsimp only at e hd hm|-;subst e;rw[if_neg (by simp)];rw[alI]at hm;intro _;refine af _ x.Ins.length (λi v=>v.1=(i:Int)/\(v.2.map (·.1)).Nodup/\∃K,RL v.2 K/\KK (sN K (x.Ins.drop i))) (λR i v hi⟨e,hd,K,hm,hk⟩ih=>?_) (λR v⟨e,hd,K,hm,hk⟩=>?_) _ ⟨rfl,hd,l,hm,h⟩
 .obtain⟨b,a⟩:=v;dsimp only at e hd hm|-;subst e;rw[if_pos (aF hi)];refine⟨ob hi,?_⟩;rw[Int.toNat_natCast];rw[dh _ hi]at hk;unfold sN at hk;generalize x.Ins.getD i default=y at hk;have hy:(aw (β:=Bool) .s a y.Block).getD (dflt .bo)=decide (y.Block∈K):=hm y.Block
  rw[hy];refine ifk (λhc=>?_) (λhc=>?_)
  .have:decide (y.Block∈K)=false:=by simpa using hc
   rw[this,alX]at hk;exact hk
  have:decide (y.Block∈K)=true:=by simpa using hc
  rw[this,ak9]at hk;refine ih _ ⟨ac kQ1,Dk _ _ hd,_,λk=>?_,hk⟩;dsimp only;show(aw (β:=Bool) .s (rR .s a y.Block) k).getD (dflt .bo)=_
  rw[KD _ _ _ hd];by_cases e:y.Block=k
  .rw[if_pos e];subst e;rw[decide_eq_false (λhm=>by have:=(anD.1 hm).2;simp at this)];rfl
  rw[if_neg e];refine(hm k).trans ?_;rw[decide_eq_decide,anD];exact⟨λh=>⟨h,by simpa using λe'=>e e'.symm⟩,(·.1)⟩
 obtain⟨b,a⟩:=v;dsimp only at e hd hm|-;subst e;rw[if_neg (by simp)];rw[alZ]at hk;exact hk
theorem Xr(s:a8)(b:Lt.Block):(B1 s b).length<=b.End.To.length:=by unfold B1;rw[akV];exact amC _ _
theorem Xs(B:List Lt.Block)(s:a8){i:Nat}(h:i<B.length):Lt.frm (B.take (i+1)) s=Lt.frm (B.take i) s++B1 s (B.getD i default):=by unfold Lt.frm;rw[aA B h,List.flatMap_append,List.flatMap_singleton]
theorem NO(f:Lt.Func)(hp:Ba f)(KK:Bool->Prop)(h:KK (iA f)):G9 f KK:=by
 unfold G9;obtain⟨hn,hb⟩:=hp;have g:∀(i:Nat)(s:a8),i<=f.Blocks.length->(Lt.frm (f.Blocks.take i) s).length<=36000000:=λi s hi=>by unfold Lt.frm;refine alC (pY _ 6000 _ (λb A=>alC (Xr s b) (hb b (amE A)).1)) ?_;rw[amL,Nat.min_eq_left hi];exact alC (alS 6000 (alC hi hn)) kQ1
 intro _;refine af _ f.Blocks.length (λi v=>v.1=(i:Int)/\∀s,(aw (β:=List a8) .s v.2 s).getD []=Lt.frm (f.Blocks.take i) s) (λR i v hi⟨e,hm⟩ih=>?_) (λR v⟨e,hm⟩=>?_) _ ⟨rfl,λs=>rfl⟩
 .obtain⟨r,u⟩:=v;dsimp only at e hm|-;subst e;rw[if_pos (aF hi)];refine⟨ob hi,λ_=>?_⟩;dsimp +instances only [Int.toNat_natCast]
  have hs:=λs=>Xs f.Blocks s hi
  have q:=(hb _ (au _ hi)).1
  generalize f.Blocks.getD i default=b at hs q;refine af _ b.End.To.length (λk v=>v.1=(k:Int)/\∀s,(aw (β:=List a8) .s v.2 s).getD []=Lt.frm (f.Blocks.take i) s++((b.End.To.take k).filter λn=>decide (n=s)).map λ_=>b.Name) (λR k v hk⟨e,hm⟩ih=>?_) (λR v⟨e,hm⟩=>?_) _ ⟨rfl,λs=>by simpa using hm s⟩
  .obtain⟨r,u⟩:=v;dsimp only at e hm|-;subst e;rw[if_pos (aF hk)];dsimp +instances only [Int.toNat_natCast]
   have c:=aA b.End.To hk
   generalize b.End.To.getD k default=t at c;have B:((aw (β:=List a8) .s u t).getD []).length<=37000000:=by
    rw[hm t,ak1,akV];have h2:∀p:a8->Bool,((b.End.To.take k).filter p).length<=6000:=λp=>alC (amC _ _) (by rw[amL];omega)
    exact alC (Nat.add_le_add (g i t kQ1) (h2 _)) kQ1
   refine⟨ob hk,⟨by simp only[akY,ak7];omega,by simp only[akY,ak7];omega⟩,rfl,ih _ ⟨ac kQ1,λs=>?_⟩⟩;dsimp only;rw[nC,c,anB,al0,<- al2];by_cases e:t=s
   .subst e;rw[if_pos rfl,alK,hm t];simp
   rw[if_neg e,hm s];simp[e]
  obtain⟨r,u⟩:=v;dsimp only at e hm|-;subst e;rw[if_neg (by simp)];refine ih _ ⟨ac kQ1,λs=>?_⟩;rw[hs s];have:=hm s
  rw[alI]at this;exact this
 obtain⟨r,m⟩:=v;dsimp only at e hm|-;subst e;rw[if_neg (by simp)];rw[alI]at hm;intro _;have o:∀i,i<f.Blocks.length->tb f.Blocks i=false->KK false:=λi hi hf=>by
  have:iA f=false:=by unfold iA;rw[al9];exact⟨i,am9.2 hi,by rw[hf];simp⟩
  rw[this]at h;exact h
 refine af _ f.Blocks.length (λi v=>v=(i:Int)/\∀j,j<i->tb f.Blocks j=true) (λR i v hi⟨e,ha⟩ih=>?_) (λR v⟨e,ha⟩=>?_) _ ⟨rfl,λj hj=>by omega⟩
 .subst e;rw[if_pos (aF hi)];refine⟨ob hi,λJ C=>?_⟩;dsimp +instances only [Int.toNat_natCast]
  have o:=o i hi
  have d:=hb _ (au _ hi)
  have fr:∀s,(aw (β:=List a8) .s m s).getD (dflt (.sl .s))=Lt.frm f.Blocks s:=hm
  have eP:tb f.Blocks i=(!(decide (i=0)&&decide (0 < (f.Blocks.getD i default).Phis.length))&&(f.Blocks.getD i default).Phis.all λx=>so x (Lt.frm f.Blocks (nmB f.Blocks i))):=rfl
  have E:(!(decide (i=0)&&decide (0 < (f.Blocks.getD i default).Phis.length)))=true->J false:=λh0=>by
   rw[h0,ak9]at eP;refine C false ?_;dsimp only;rw[if_neg (by simp)];dsimp +instances only [Int.toNat_natCast]
   intro _;rw[show(aw (β:=List a8) .s m (f.Blocks.getD i default).Name).getD (dflt (.sl .s))=Lt.frm f.Blocks (nmB f.Blocks i)from fr _];have w:(Lt.frm f.Blocks (nmB f.Blocks i)).length<=36000000:=by have:=g f.Blocks.length (nmB f.Blocks i) (akR _);rw[alI]at this;exact this
   generalize f.Blocks.getD i default=b at eP d;generalize Lt.frm f.Blocks (nmB f.Blocks i)=l at eP w;refine af _ b.Phis.length (λk v=>v=(k:Int)/\∀x∈b.Phis.take k,so x l=true) (λF k v hk⟨e,hx⟩z=>?_) (λF v⟨e,hx⟩=>?_) _ ⟨rfl,λx hx=>by simp at hx⟩
   .subst e;rw[if_pos (aF hk)];refine⟨ob hk,?_⟩;rw[Int.toNat_natCast];have a:=au b.Phis hk
    have c:=aA b.Phis hk
    generalize b.Phis.getD k default=x at a c;refine⟨⟨d.2.2 x a,by omega⟩,ifk (λhc=>o ?_) (λhc=>z _ ⟨ac kQ1,λy hy=>?_⟩)⟩
    .rw[eP,al9];exact⟨x,a,by simpa using hc⟩
    rw[c]at hy;rcases ak3.1 hy with hy|hy
    .exact hx y hy
    obtain rfl:=ak6.1 hy;simpa using hc
   subst e;rw[if_neg (by simp)];rw[alI]at hx;refine ih _ ⟨ac kQ1,λj hj=>?_⟩;rcases al8 j i with h'|h'
   .exact ha j h'
   obtain rfl:j=i:=by omega
   rw[eP];exact ak0.2 hx
  by_cases e0:i=0
  .rw[if_pos (by rw[e0];rfl)];by_cases D:0 < (f.Blocks.getD i default).Phis.length
   .rw[decide_eq_true kQ1];refine C true ?_;dsimp only;rw[if_pos rfl];refine o ?_;rw[eP,decide_eq_true e0,decide_eq_true D];rfl
   rw[decide_eq_false kQ1];exact E (by rw[decide_eq_false D];simp)
  rw[if_neg (by simpa using e0)];exact E (by rw[decide_eq_false e0];rfl)
 subst e;rw[if_neg (by simp)];have:iA f=true:=by unfold iA;rw[ak0];exact λi hi=>ha i (am9.1 hi)
 rw[this]at h;exact h
end Go.Am
end

section
namespace Go.Am
open Go
def C4(b:Lt.Instr)(a:Lt.Arg)(KK:(Lt.Virt×Bool)->Prop):Prop:=aa (α:=Bool) (λc=>if !decide (a.Kind=5)then(c true)else(if decide (a.N < 0)then(c true)else(c (decide ((b.Objs.length:Int)<=a.N))))) (λd=>if d then(KK ((Lt.Virt.mk ([]:List UInt8) []),false))else((0<=a.N/\a.N.toNat<b.Objs.length)/\KK ((b.Objs.getD a.N.toNat default),true)))
def aeQ(b:Lt.Func)(c:Lt.Instr)(a:Lt.Arg)(KK:(a8×Bool)->Prop):Prop:=if (o7 c a).2 then(KK (((o7 c a).1).Class,true))else(KK ((cw b a).1,(cw b a).2))
def Ih(d:Lt.Func)(c:Lt.Instr)(a:Lt.Frame)(KK:Bool->Prop):Prop:=(a.Vars.length<=4611686018427387904->ab (α:=Int×List (a8×Bool)) (λf b=>if decide (b.1 < (a.Vars.length:Int))then((0<=b.1/\b.1.toNat<a.Vars.length)/\aa (α:=Bool) (λe=>if !((Lt.vOf d c ((a.Vars.getD b.1.toNat default).A)).2)then(e true)else(e ((aw (β:=Bool) .s b.2 ((a.Vars.getD b.1.toNat default).Name)).getD (dflt .bo)))) (λv4=>if v4 then(KK false)else(f ((i64.wrap (b.1+1)),(bP .s b.2 ((a.Vars.getD b.1.toNat default).Name) true)))))else(KK true)) (0,[]))
def PZ(b:Lt.Program)(d:Lt.Func)(c:Lt.Instr)(a:Lt.Virt)(KK:Bool->Prop):Prop:=aa (α:=Bool) (λf=>if !((az b a.Class).2)then(f true)else(f (!decide (((((az b a.Class).1).Fields).length:Int)=(a.Vals.length:Int))))) (λi=>if i then(KK false)else((a.Vals.length<=4611686018427387904->ab (α:=Int) (λg v4=>if decide (v4 < (a.Vals.length:Int))then((0<=v4/\v4.toNat<a.Vals.length)/\aa (α:=Bool) (λe=>if !((Lt.vOf d c (a.Vals.getD v4.toNat default)).2)then(e true)else((0<=v4/\v4.toNat < (((az b a.Class).1).Fields).length)/\e (!(bB ((Lt.vOf d c (a.Vals.getD v4.toNat default)).1) (((((az b a.Class).1).Fields).getD v4.toNat default).Type_))))) (λh=>if h then(KK false)else(g (i64.wrap (v4+1)))))else(KK true)) 0)))
def Ii(d:Lt.Program)(b:Lt.Func)(a:Lt.Instr)(KK:Bool->Prop):Prop:=(a.Frames.length<=4611686018427387904->ab (α:=Int) (λe c=>if decide (c < (a.Frames.length:Int))then((0<=c/\c.toNat<a.Frames.length)/\if !(oZ b a (a.Frames.getD c.toNat default))then(KK false)else(e (i64.wrap (c+1))))else((a.Objs.length<=4611686018427387904->ab (α:=Int) (λf v4=>if decide (v4 < (a.Objs.length:Int))then((0<=v4/\v4.toNat<a.Objs.length)/\if !(sv d b a (a.Objs.getD v4.toNat default))then(KK false)else(f (i64.wrap (v4+1))))else((a.Frames.length<=4611686018427387904->KK (decide (0 < (a.Frames.length:Int)))))) 0))) 0)
def C3(b:Lt.Program)(a:Lt.Func)(KK:Bool->Prop):Prop:=(a.Blocks.length<=4611686018427387904->ab (α:=Int) (λg e=>have c:=a.Blocks.getD e.toNat default;if decide (e < (a.Blocks.length:Int))then((0<=e/\e.toNat<a.Blocks.length)/\((c.Code).length<=4611686018427387904->ab (α:=Int) (λh v4=>have d:=(c.Code).getD v4.toNat default;if decide (v4 < ((c.Code).length:Int))then((0<=v4/\v4.toNat < (c.Code).length)/\aa (α:=Bool) (λf=>(afL b a d)/\if !(jW b a d)then(f true)else(if decide (d.Op=31)then(f (!(lE b a d)))else(if decide (d.Op=34)then(f (!(lE b a d)))else(f false)))) (λi=>if i then(KK false)else(h (i64.wrap (v4+1)))))else(if !(xF a (Lt.Term.mk ((c.End).Kind) ((c.End).A) ((c.End).To) ((c.End).N)))then(KK false)else(g (i64.wrap (e+1))))) 0))else(KK true)) 0)
def PY(f:Lt.Program)(a:Lt.Func)(KK:Bool->Prop):Prop:=(a.Blocks.length<=4611686018427387904->ab (α:=Int) (λi d=>have e:=(a.Blocks.getD d.toNat default).Phis;if decide (d < (a.Blocks.length:Int))then((0<=d/\d.toNat<a.Blocks.length)/\(e.length<=4611686018427387904->ab (α:=Int) (λj v4=>have b:=e.getD v4.toNat default;if decide (v4 < (e.length:Int))then((0<=v4/\v4.toNat<e.length)/\if !((cw a (Lt.Arg.mk 1 (b.Dst) 0)).2)then(KK false)else(((b.Ins).length<=4611686018427387904->ab (α:=Int) (λk c=>if decide (c < ((b.Ins).length:Int))then((0<=c/\c.toNat < (b.Ins).length)/\aa (α:=Bool) (λg=>if !((cw a (((b.Ins).getD c.toNat default).A)).2)then(g true)else(g (!(bB ((cw a (((b.Ins).getD c.toNat default).A)).1) ((cw a (Lt.Arg.mk 1 (b.Dst) 0)).1))))) (λh=>if h then(KK false)else(k (i64.wrap (c+1)))))else(j (i64.wrap (v4+1)))) 0)))else(i (i64.wrap (d+1)))) 0))else(KK true)) 0)
def PX(j:Lt.Program)(a:Lt.Func)(KK:Bool->Prop):Prop:=(a.Blocks.length<=4611686018427387904->ab (α:=Int×List (a8×Int)) (λm f=>have d:=a.Blocks.getD f.1.toNat default;if decide (f.1 < (a.Blocks.length:Int))then((0<=f.1/\f.1.toNat<a.Blocks.length)/\((d.Phis).length<=4611686018427387904->ab (α:=Int×List (a8×Int)) (λn v4=>if decide (v4.1 < ((d.Phis).length:Int))then((0<=v4.1/\v4.1.toNat < (d.Phis).length)/\n ((i64.wrap (v4.1+1)),(bP .s v4.2 (((d.Phis).getD v4.1.toNat default).Dst) (i64.wrap (((aw (β:=Int) .s v4.2 (((d.Phis).getD v4.1.toNat default).Dst)).getD (dflt (.i .i64)))+1)))))else(((d.Code).length<=4611686018427387904->ab (α:=Int×List (a8×Int)) (λo e=>have h:=(d.Code).getD e.1.toNat default;if decide (e.1 < ((d.Code).length:Int))then(aa (α:=List (a8×Int)) (λk=>(0<=e.1/\e.1.toNat < (d.Code).length)/\if !decide (h.Dst=([]:List UInt8))then(k (bP .s e.2 (h.Dst) (i64.wrap (((aw (β:=Int) .s e.2 (h.Dst)).getD (dflt (.i .i64)))+1))))else(k e.2)) (λl=>o ((i64.wrap (e.1+1)),l)))else(m ((i64.wrap (f.1+1)),e.2))) (0,v4.2)))) (0,f.2)))else((a.Vars.length<=4611686018427387904->ab (α:=Int) (λp b=>if decide (b < (a.Vars.length:Int))then((0<=b/\b.toNat<a.Vars.length)/\if !decide (((aw (β:=Int) .s f.2 ((a.Vars.getD b.toNat default).Name)).getD (dflt (.i .i64)))=1)then(KK false)else(p (i64.wrap (b+1))))else((a.Params.length<=4611686018427387904->ab (α:=Int) (λg c=>if decide (c < (a.Params.length:Int))then((0<=c/\c.toNat<a.Params.length)/\if !decide (((aw (β:=Int) .s f.2 ((a.Params.getD c.toNat default).Name)).getD (dflt (.i .i64)))=0)then(KK false)else(g (i64.wrap (c+1))))else(KK true)) 0))) 0))) (0,[]))
def yZ(a:Lt.Program)(KK:Int->Prop):Prop:=have d:=(([(Lt.Clo.mk 17 []),(Lt.Clo.mk 18 []),(Lt.Clo.mk 19 []),(Lt.Clo.mk 20 [])].length:Nat):Int);if !(bt a)then(KK 3)else(if !a.SSA then(KK 3)else((jy a)/\if !(iv a)then(KK 4)else((a.Funcs.length<=4611686018427387904->ab (α:=Int) (λe c=>have b:=a.Funcs.getD c.toNat default;if decide (c < (a.Funcs.length:Int))then((0<=c/\c.toNat<a.Funcs.length)/\(YL b)/\if !(dF b)then(KK 5)else((Ba b)/\if !(iA b)then(KK 5)else(([(Lt.Clo.mk 17 []),(Lt.Clo.mk 18 []),(Lt.Clo.mk 19 []),(Lt.Clo.mk 20 [])].length<=4611686018427387904->((0:Int)<=0/\0<d)/\(iX a b)/\if !(o6 a b)then(KK 4)else(((0:Int)<=1/\1<d)/\if !(BM a b)then(KK 4)else(((0:Int)<=2/\2<d)/\(nI a b)/\if !(sr a b)then(KK 4)else(((0:Int)<=3/\3<d)/\(FT b)/\if !(gr b)then(KK 4)else(e (i64.wrap (c+1))))))))))else(KK 0)) 0))))
theorem Kr(i:Lt.Instr)(a:Lt.Arg)(KK:Lt.Virt×Bool->Prop)(h:KK (o7 i a)):C4 i a KK:=by
 unfold C4;simp only[jval,bor,ae];unfold o7 at h;refine ifk (λhc=>?_) (λhc=>?_)
 .rw[if_neg (by simp only[alP,alA,decide_eq_false_iff_not,decide_eq_true_eq]at hc;omega)]at h;exact h
 simp only[alP,alA,decide_eq_false_iff_not,decide_eq_true_eq]at hc;rw[if_pos kQ1]at h;exact⟨⟨by omega,by omega⟩,h⟩
theorem acQ(f:Lt.Func)(i:Lt.Instr)(a:Lt.Arg)(KK:a8×Bool->Prop)(h:KK (Lt.vOf f i a)):aeQ f i a KK:=by unfold aeQ;unfold Lt.vOf at h;exact ifk (λhc=>by rw[if_pos hc]at h;exact h) (λhc=>by rw[if_neg hc]at h;exact h)
theorem NV(f:Lt.Func)(i:Lt.Instr)(x:Lt.Frame)(KK:Bool->Prop)(h:KK (oZ f i x)):Ih f i x KK:=by
 unfold Ih;unfold oZ at h;intro _;refine dU x.Vars (λm i=>(i,m)) (λr m=>∃K,RL m K/\KK (Ae f i r K)) (λR m k b r hk hx _ ih⟨K,hm,h⟩=>?_) (λR m⟨K,hm,h⟩=>?_) [] ⟨[],λ_=>rfl,h⟩
 .dsimp only;rw[if_pos (aF hk)];refine⟨ob hk,?_⟩;dsimp +instances only [Int.toNat_natCast]
  rw[hx,show(aw (β:=Bool) .s m b.Name).getD (dflt .bo)=decide (b.Name∈K)from hm _];simp only[jval,bor,ae];unfold Ae at h;exact ifk (λhc=>by rw[if_pos hc]at h;exact h) (λhc=>by rw[if_neg hc]at h;exact ih (by assumption) _ ⟨_,hm.ins _,h⟩)
 dsimp only;rw[if_neg (by simp)];exact h
theorem T5(p:Lt.Program)(f:Lt.Func)(i:Lt.Instr)(o:Lt.Virt)(KK:Bool->Prop)(h:KK (sv p f i o)):PZ p f i o KK:=by
 unfold PZ;simp only[jval,bor,ae];unfold sv at h;refine ifk (λhc=>?_) (λhc _=>?_)
 .rcases(alP _ _).mp hc with hc|hc
  .rw[show(az p o.Class).2=false from by simpa using hc,alX]at h;exact h
  rw[show decide (((az p o.Class).1.Fields.length:Int)=(o.Vals.length:Int))=false from by simpa using hc,alX,Bool.and_false]at h;exact h
 simp only[alP,alA,not_or,alE]at hc;rw[hc.1,hc.2,ak9,ak9]at h;have hl:=of_decide_eq_true hc.2
 generalize(az p o.Class).1.Fields=fs at h hl;refine af _ o.Vals.length (λk v=>v=(k:Int)/\KK (xT f i (o.Vals.drop k) (fs.drop k))) (λR k v hk⟨e,h⟩ih=>?_) (λR v⟨e,h⟩=>?_) _ ⟨rfl,h⟩
 .subst e;rw[if_pos (aF hk)];have b:k<fs.length:=by omega
  refine⟨ob hk,?_⟩;dsimp +instances only [Int.toNat_natCast]
  rw[dh _ hk,dh _ b]at h;unfold xT at h;generalize o.Vals.getD k default=a at h;generalize fs.getD k default=v at h;intro J c;refine ifk (λhc=>c true ?_) (λhc=>⟨ob b,c _ ?_⟩)
  .rw[show(Lt.vOf f i a).2=false from by simpa using hc,alX]at h;exact h
  rw[show(Lt.vOf f i a).2=true from by simpa using hc,ak9]at h;refine ifk (λhc=>?_) (λhc=>ih _ ⟨ac kQ1,?_⟩)
  .rw[show bB (Lt.vOf f i a).1 v.Type_=false from by simpa using hc,alX]at h;exact h
  rw[show bB (Lt.vOf f i a).1 v.Type_=true from by simpa using hc,ak9]at h;exact h
 subst e;rw[if_neg (by simp)];rw[alZ]at h;unfold xT at h;exact h
theorem NW(p:Lt.Program)(f:Lt.Func)(i:Lt.Instr)(KK:Bool->Prop)(h:KK (lE p f i)):Ii p f i KK:=by
 unfold Ii;unfold lE at h;intro _;refine cU i.Frames (oZ f i) _ KK (λR k x hk hx _ ih hf=>?_) (λR h=>?_) h
 .rw[if_pos (aF hk)];refine⟨ob hk,?_⟩;rw[Int.toNat_natCast,hx];exact ifk (λhc=>hf (by simpa using hc)) (λhc=>ih (by assumption) (by simpa using hc))
 rw[if_neg (by simp)];intro _;refine cU i.Objs (sv p f i) _ KK (λR k x hk hx _ ih hf=>?_) (λR h=>?_) h
 .rw[if_pos (aF hk)];refine⟨ob hk,?_⟩;rw[Int.toNat_natCast,hx];exact ifk (λhc=>hf (by simpa using hc)) (λhc=>ih (by assumption) (by simpa using hc))
 rw[if_neg (by simp)];exact λ_=>h
def on2(A B:Prop)(c:Bool):Prop:=(c=true->A)/\(c=false->B)
theorem Kq(p:Lt.Program)(f:Lt.Func)(hp:iX p f)(KK:Bool->Prop)(h:KK (o6 p f)):C3 p f KK:=by
 unfold C3;intro _;refine cU f.Blocks (nT p f) true KK (λR k b hk hx hb ih hf=>?_) (λR h=>?_) (by rw[amN];exact h)
 .rw[if_pos (aF hk)];refine⟨ob hk,?_⟩;dsimp +instances only [Int.toNat_natCast]
  rw[hx];intro _;refine cU b.Code (tE p f) (xF f b.End) (on2 (R (i64.wrap ((k:Int)+1))) (KK false)) (λi j x hj hy hm a d=>?_) (λi h3=>?_) ⟨ih (by assumption),hf⟩
  .rw[if_pos (aF hj)];refine⟨ob hj,?_⟩;dsimp +instances only [Int.toNat_natCast]
   rw[hy];intro J g;refine⟨hp b hb x hm,?_⟩;have fin:∀c:Bool,c=!tE p f x->J c:=λc e=>by
    subst e;refine g _ ?_;cases hv:tE p f x with
    |false=>exact(d hv).2 rfl
    |true=>exact a (by assumption) hv
   unfold tE at fin;refine ifk (λhc=>fin _ (by rw[show jW p f x=false from by simpa using hc];rfl)) (λhc=>?_);rw[show jW p f x=true from by simpa using hc]at fin;refine ifk (λhc=>fin _ (by rw[hc];rfl)) (λhc=>?_);rw[show decide (x.Op=31)=false from by simpa using hc]at fin;exact ifk (λhc=>fin _ (by rw[hc];rfl)) (λhc=>fin _ (by rw[show decide (x.Op=34)=false from by simpa using hc];rfl))
  rw[if_neg (by simp)];exact ifk (λhc=>h3.2 (by simpa using hc)) (λhc=>h3.1 (by simpa using hc))
 rw[if_neg (by simp)];exact h
theorem T4(p:Lt.Program)(f:Lt.Func)(KK:Bool->Prop)(h:KK (BM p f)):PY p f KK:=by
 unfold PY;intro _;refine cU f.Blocks (λb=>b.Phis.all (Cu f)) true KK (λR k b hk hx hb ih hf=>?_) (λR h=>?_) (by rw[amN];exact h)
 .rw[if_pos (aF hk)];refine⟨ob hk,?_⟩;dsimp +instances only [Int.toNat_natCast]
  rw[hx];intro _;refine cU b.Phis (Cu f) true (on2 (R (i64.wrap ((k:Int)+1))) (KK false)) (λl j x hj hy hm c a=>?_) (λl h3=>?_) (by rw[amN];exact⟨ih (by assumption),hf⟩)
  .rw[if_pos (aF hj)];refine⟨ob hj,?_⟩;dsimp +instances only [Int.toNat_natCast]
   rw[hy];unfold Cu at c a;generalize cw f ⟨1,x.Dst,0⟩=w at c a;refine ifk (λhc=>(a (by rw[show w.2=false from by simpa using hc];rfl)).2 rfl) (λhc _=>?_);rw[show w.2=true from by simpa using hc]at c a;refine cU x.Ins (λi=>(cw f i.A).2&&bB (cw f i.A).1 w.1) true (on2 (l (i64.wrap ((j:Int)+1))) (KK false)) (λm n y hn o _ d g=>?_) (λm h5=>?_) (by rw[amN];exact⟨λe=>c (by assumption) (by rw[e];rfl),λe=>(a (by rw[e];rfl)).2 rfl⟩)
   .rw[if_pos (aF hn)];refine⟨ob hn,?_⟩;dsimp +instances only [Int.toNat_natCast]
    rw[o];simp only[jval,bor,ae];refine ifk (λhc=>(g ?_).2 rfl) (λhc=>d (by assumption) ?_)
    .cases h1:(cw f y.A).2<;>simp_all
    cases h1:(cw f y.A).2<;>simp_all
   rw[if_neg (by simp)];exact h5.1 rfl
  rw[if_neg (by simp)];exact h3.1 rfl
 rw[if_neg (by simp)];exact h
def Rk(m:List (a8×Int))(L:List a8):Prop:=∀k,(aw (β:=Int) .s m k).getD 0=(L.count k:Int)
theorem Rk.ins{m:List (a8×Int)}{L:List a8}(h:Rk m L)(hl:L.length<=4000000000000000)(k0:a8):Rk (bP .s m k0 (i64.wrap ((aw (β:=Int) .s m k0).getD (dflt (.i .i64))+1))) (L++[k0]):=by
 intro k;rw[nC,show(aw (β:=Int) .s m k0).getD (dflt (.i .i64))=(L.count k0:Int)from h k0,am2,List.count_singleton];have:=amF (a:=k0) (l:=L)
 by_cases e:k0=k
 .subst e;rw[if_pos rfl,ac kQ1];simp
 rw[if_neg e,h k];simp[e]
theorem ED(B:List Lt.Block){i:Nat}(h:i<B.length):cx (B.take (i+1))=cx (B.take i)++((B.getD i default).Phis.map (·.Dst)++bq (B.getD i default)):=by unfold cx;rw[aA B h,List.flatMap_append,List.flatMap_singleton]
theorem T3(p:Lt.Program)(f:Lt.Func)(hp:nI p f)(KK:Bool->Prop)(h:KK (sr p f)):PX p f KK:=by
 unfold PX;obtain⟨hn,hb⟩:=hp;have l:∀i,(cx (f.Blocks.take i)).length<=2000000000000:=fun i=>by
  unfold cx;refine alC (pY _ 2000000 _ fun b hm=>?_) (alC (alS 2000000 (alC (amP _ _) hn)) (by decide));have:=hb b (amE hm)
  unfold bq;rw[ak1,akV];have h2:=amC (fun d=>!decide (d=([]:List UInt8))) (b.Code.map (·.Dst))
  rw[akV]at h2;omega
 intro _;refine af _ f.Blocks.length (fun i v=>v.1=(i:Int)/\Rk v.2 (cx (f.Blocks.take i))) (fun R i v hi⟨e,hm⟩ih=>?_) (fun R v⟨e,hm⟩=>?_) _ ⟨rfl,fun _=>rfl⟩
 ·obtain⟨c,n⟩:=v;dsimp only at e hm⊢;subst e;rw[if_pos (aF hi)];refine⟨ob hi,?_⟩;dsimp +instances only [Int.toNat_natCast]
  have hs:=ED f.Blocks hi
  have hl:=l i
  have q:=hb _ (au _ hi)
  generalize cx (f.Blocks.take i)=L at hm hs hl;generalize f.Blocks.getD i default=b at hs q;intro _;refine af _ b.Phis.length (fun j v=>v.1=(j:Int)/\Rk v.2 (L++(b.Phis.take j).map (·.Dst))) (fun u j v hj⟨e,hm⟩o=>?_) (fun u v⟨e,hm⟩=>?_) _ ⟨rfl,by simpa using hm⟩
  ·obtain⟨c,n⟩:=v;dsimp only at e hm⊢;subst e;rw[if_pos (aF hj)];refine⟨ob hj,o _ ⟨ac kQ1,?_⟩⟩;dsimp +instances only [Int.toNat_natCast]
   rw[aA _ hj,al0,<- al2];exact hm.ins (by rw[ak1,akV,amL];omega) _
  obtain⟨c,n⟩:=v;dsimp only at e hm⊢;subst e;rw[if_neg (by simp)];rw[alI]at hm;intro _;refine af _ b.Code.length (fun j v=>v.1=(j:Int)/\Rk v.2 (L++b.Phis.map (·.Dst)++((b.Code.take j).map (·.Dst)).filter fun d=>!decide (d=[]))) (fun w j v hj⟨e,hm⟩g=>?_) (fun w v⟨e,hm⟩=>?_) _ ⟨rfl,by simpa using hm⟩
  ·obtain⟨c,n⟩:=v;dsimp only at e hm⊢;subst e;rw[if_pos (aF hj)];intro J r;refine⟨ob hj,?_⟩;dsimp +instances only [Int.toNat_natCast]
   have a:=aA b.Code hj
   have t:(((b.Code.take j).map (·.Dst)).filter fun d=>!decide (d=([]:List UInt8))).length<=1000000:=by
    have h2:=amC (fun d=>!decide (d=([]:List UInt8))) ((b.Code.take j).map (·.Dst))
    rw[akV,amL]at h2;omega
   generalize b.Code.getD j default=x at a;refine ifk (fun hc=>r _ (g _ ⟨ac kQ1,?_⟩)) (fun hc=>r _ (g _ ⟨ac kQ1,?_⟩))
   ·dsimp only;rw[a,al0,anB,List.map_singleton,List.filter_cons,if_pos hc,List.filter_nil,<- al2];exact hm.ins (by simp only[ak1,akV];omega) _
   dsimp only;rw[a,al0,anB,List.map_singleton,List.filter_cons,if_neg hc,List.filter_nil,List.append_nil];exact hm
  obtain⟨c,n⟩:=v;dsimp only at e hm⊢;subst e;rw[if_neg (by simp)];rw[alI]at hm;refine ih _ ⟨ac kQ1,?_⟩;dsimp only;rw[hs,<- al2];exact hm
 obtain⟨c,m⟩:=v;dsimp only at e hm⊢;subst e;rw[if_neg (by simp)];rw[alI]at hm;have hm:∀k,(aw (β:=Int) .s m k).getD (dflt (.i .i64))=((cx f.Blocks).count k:Int):=hm
 unfold sr at h;intro _;refine cU f.Vars _ _ KK (fun R k x hk hx _ ih hf=>?_) (fun R h=>?_) h
 ·rw[if_pos (aF hk)];refine⟨ob hk,?_⟩;rw[Int.toNat_natCast,hx,hm];exact ifk (fun hc=>hf (by simpa using hc)) (fun hc=>ih (by assumption) (by simpa using hc))
 rw[if_neg (by simp)];intro _;refine cU f.Params _ _ KK (fun R k x hk hx _ ih hf=>?_) (fun R h=>?_) h
 ·rw[if_pos (aF hk)];refine⟨ob hk,?_⟩;rw[Int.toNat_natCast,hx,hm];exact ifk (fun hc=>hf (by simpa using hc)) (fun hc=>ih (by assumption) (by simpa using hc))
 rw[if_neg (by simp)];exact h
theorem Fq(p:Lt.Program)(hp:cu p)(KK:Int->Prop)(h:KK (cT p)):yZ p KK:=by
 unfold yZ;unfold cT at h;obtain⟨m,hf⟩:=hp;dsimp only;refine ifk (λhc=>by rw[if_pos (.inl (by simpa using hc))]at h;exact h) (λhc=>?_);refine ifk (λa=>by rw[if_pos (.inr (by simpa using a))]at h;exact h) (λa=>?_);rw[if_neg (by simp only[alA,alE]at hc a;rw[hc,a];simp)]at h;refine⟨m,ifk (λc=>by rw[if_pos (by simpa using c)]at h;exact h) (λc _=>?_)⟩;rw[if_neg (by simpa using c)]at h;refine da p.Funcs (λl=>KK (Lt.vF p l)) (λR i x r hi hx hm ih h=>?_) (λR h=>?_) h
 .rw[if_pos (aF hi)];refine⟨ob hi,?_⟩;dsimp +instances only [Int.toNat_natCast]
  rw[hx];obtain⟨h1,h2,h3,h4,h5,h6,h7⟩:=hf x hm;unfold Lt.vF at h;refine⟨h4,ifk (λb=>by rw[if_pos (.inl (by simpa using b))]at h;exact h) (λb=>?_)⟩;have b:dF x=true:=by simpa using b
  refine⟨h2,ifk (λf=>by rw[if_pos (.inr (by simpa using f))]at h;exact h) (λf _=>?_)⟩;have f:iA x=true:=by simpa using f
  rw[if_neg (by rw[b,f];simp)]at h;have k:Lt.Gd x.Blocks:=by unfold dF at b;exact oJ.1 b
  refine⟨⟨by simp,by simp only[akY,ak7];omega⟩,h1,ifk (λg=>by rw[if_pos (.inl (by simpa using g))]at h;exact h) (λg=>?_)⟩;have g:o6 p x=true:=by simpa using g
  refine⟨⟨by simp,by simp only[akY,ak7];omega⟩,ifk (λe=>by rw[if_pos (.inr (.inl (by simpa using e)))]at h;exact h) (λe=>?_)⟩;have e:BM p x=true:=by simpa using e
  refine⟨⟨by simp,by simp only[akY,ak7];omega⟩,h3,ifk (λj=>by rw[if_pos (.inr (.inr (.inl (by simpa using j))))]at h;exact h) (λj=>?_)⟩;have j:sr p x=true:=by simpa using j
  refine⟨⟨by simp,by simp only[akY,ak7];omega⟩,⟨⟨h4,k,h5,h6⟩,h7⟩,ifk (λd=>by rw[if_pos (.inr (.inr (.inr (by simpa using d))))]at h;exact h) (λd=>?_)⟩;have d:gr x=true:=by simpa using d
  rw[if_neg (by rw[g,e,j,d];simp)]at h;exact ih (by assumption) h
 rw[if_neg (by simp)];exact h
variable{α:Type}
theorem kk{KK:α->Prop}{a b:α}(h:KK a)(e:a=b):KK b:=e ▸ h
theorem XS(s:a8)(KK:Bool->Prop)(h:KK (Lt.kept s)):Vx s KK:=by simp_all[Vx,ae,jval,Lt.kept,Bool.or_assoc]
theorem XT(s:a8)(KK:Bool->Prop)(h:KK (Lt.kind s)):Vy s KK:=by simp_all[Vy,ae,jval,Lt.kind,Bool.or_assoc]
theorem No(c:UInt8)(KK:Bool->Prop)(h:KK (Lt.letter c)):GK c KK:=by
 unfold GK;(try simp only[ae,am,aq,jval,bor,band,bnand,bimp,and_self])
 grind [Lt.letter,uH]
theorem Ce(c:UInt8)(KK:Bool->Prop)(h:KK (kE c)):xh c KK:=by unfold xh;(try simp only[ae,am,aq,jval,bor,band,bnand,bimp,and_self]);exact h
theorem Tu(n:Int)(KK:Int->Prop)(h:KK (Lt.Plain n)):Ps n KK:=by simp_all[Ps,ae,jval,Lt.Plain]
theorem XP(s:a8)(KK:Bool->Prop)(h:KK (Lt.Name s)):Vr s KK:=by
 unfold Vr;(try simp only[ae,am,aq,jval,bor,band,bnand,bimp,and_self,iC,oX,oY]);have hn:¬ s=[]->0<s.length:=by grind
 refine⟨λh1 h2=>⟨Int.le_refl _,by grind⟩,?_⟩;split
 .grind [Lt.Name]
 intro hl;refine dy (α:=UInt8) s hl iq true KK _ (λR i hi ih a=>?_) (λR h=>?_) (kk h ?_)
 all_goals grind [iq,Lt.Name]
theorem T2(l:List Lt.Var)(most:Int)(KK:Bool->Prop)(h:KK (Lt.typed l most)):PW l most KK:=by
 unfold PW;(try simp only[ae,am,aq,jval,bor,band,bnand,bimp,and_self]);unfold Lt.typed at h;intro hl;split
 .grind
 intro _;refine dy l hl (λv=>Lt.Name v.Name&&Lt.kind v.Type_) true KK _ (λR i hi ih a=>?_) (λR h=>?_) (kk h ?_)
 all_goals grind
theorem Cf(a:Lt.Arg)(KK:Bool->Prop)(h:KK (bE a)):xi a KK:=by
 unfold xi;(try simp only[ae,am,aq,jval,bor,band,bnand,bimp,and_self])
 grind [bE]
theorem Fm(l:List Lt.Arg)(objs:Bool)(KK:Bool->Prop)(h:KK (bH l objs)):yX l objs KK:=by
 unfold yX;(try simp only[ae,am,aq,jval,bor,band,bnand,bimp,and_self]);intro hl;refine dy l hl (bb objs) true KK _ (λR i hi ih a=>?_) (λR h=>?_) (kk h ?_)
 all_goals grind [bb,bH]
theorem Wn(a:Lt.Arg)(o:Bool):bH [a] o=bb o a:=by simp[bH]
theorem Ty(f:Lt.Frame)(KK:Bool->Prop)(h:KK (Lt.frame f)):Pw f KK:=by
 unfold Pw;(try simp only[ae,am,aq,jval,bor,band,bnand,bimp,and_self]);unfold Lt.frame at h;split
 .grind
 intro hl;refine dy f.Vars hl iN true KK _ (λR i hi ih a=>?_) (λR h=>?_) (kk h ?_)
 all_goals grind [Int.toNat_natCast,Wn,iN]
theorem acL(l:a8)(n:Int)(KK:a8->Prop)(h:KK (Lt.nth l n)):aeM l n KK:=by
 unfold aeM;(try simp only[ae,am,aq,bd,bL,jval,bor,band,bnand,bimp,and_self]);unfold Lt.nth at h;by_cases hl:l.length<=LEN
 .refine af _ (l.length+1) (λk x=>∃(n:Int)(f i:Nat),x=(n,(f:Int),(i:Int))/\i=k+1/\f<i/\f<=l.length/\KK (Uc l (l.length+1-k) n f i)) (λR k x hk b d=>?_) (λR x b=>?_) _ ⟨n,0,1,rfl,by omega,by omega,by omega,h⟩
  .obtain⟨n,f,i,rfl,a,hf,c,h⟩:=b;intro _;by_cases hi:i<l.length
   .simp only[aF hi,if_true,Int.toNat_natCast];refine⟨⟨akW i,hi⟩,?_⟩;rw[show l.length+1-k=(l.length+1 - (k+1))+1 by omega]at h;simp only[Uc,hi,if_true]at h
    grind [ac]
   have hf:decide ((i:Int) < (l.length:Int))=false:=by grind
   simp only[hf,akS,if_false];rw[show l.length+1-k=(l.length+1 - (k+1))+1 by omega]at h
   grind [Uc]
  obtain⟨n,f,i,rfl,a,hf,c,h⟩:=b;intro _;have hf:decide ((i:Int) < (l.length:Int))=false:=by grind
  simp only[hf,akS,if_false];rw[show l.length+1 - (l.length+1)=0 by omega]at h;exact h
 exact⟨1,λh=>absurd h hl⟩
theorem ahD(op:Int)(KK:Lt.Form×Bool->Prop)(h:KK (Lt.Of op)):aiA op KK:=by
 unfold aiA;(try simp only[ae,am,aq,jval,bor,band,bnand,bimp,and_self])
 grind [Lt.Of,Lt.two]
theorem acR(l:List α):((l.length:Int)=0)=(l=[]):=by simp_all
theorem acM(x:Lt.Phi)(KK:Bool->Prop)(h:KK (Lt.phi x)):aeN x KK:=by
 unfold aeN;(try simp only[ae,am,aq,bd,bL,jval,bor,band,bnand,bimp,and_self]);have e0:=acR x.Ins
 unfold Lt.phi at h;split
 .grind
 intro hl;refine dy x.Ins hl oG true KK _ (λR i hi ih a=>?_) (λR h=>?_) (kk h ?_)
 all_goals grind [Int.toNat_natCast,Wn,oG]
theorem Yp(a:Lt.Arg):(decide (a.Kind=0)&&(decide (a.S=([]:List UInt8))&&decide (a.N=0)))=DP a:=by
 obtain⟨k,s,n⟩:=a
 grind [DP]
theorem Kk(t:Lt.Term)(KK:Bool->Prop)(h:KK (fh t)):CX t KK:=by
 unfold CX;(try simp only[ae,am,aq,bd,bL,jval,bor,band,bnand,bimp,and_self]);intro hl;unfold fh at h;refine dy t.To hl Lt.Name _ KK _ (λR i hi ih b=>?_) (λR h=>?_) h
 .grind
 simp only[ld,akS,if_false,Yp,Wn];have e0:((t.To.length:Int)=0)=(t.To.length=0):=propext kQ1
 have a:((t.To.length:Int)=1)=(t.To.length=1):=propext kQ1
 have c:((t.To.length:Int)=2)=(t.To.length=2):=propext kQ1
 grind
theorem Tz(x:Lt.Instr)(KK:Bool->Prop)(h:KK (Lt.instr x)):Px x KK:=by
 unfold Px;dsimp only;(try simp only[ae,am,aq,jval,bor,band,bnand,bimp,and_self]);have e0:=acR x.Frames
 have d:=acR x.Objs
 unfold Lt.instr at h;refine ifk (λhc=>kk h (by grind)) (λf hl=>?_);refine ifk (λhc=>kk h (by grind)) (λc=>?_);refine ifk (λhc hl=>kk h (by grind)) (λe hl=>?_);refine dy x.Frames hl Lt.frame (x.Objs.all Lt.virt) KK _ (λR i hi ih b=>?_) (λR h=>?_) (kk h ?_)
 .grind [Int.toNat_natCast]
 .simp only[ld,akS,if_false];intro a;refine dy x.Objs a Lt.virt true KK _ (λR i hi ih b=>?_) (λR h=>?_) (kk h ?_)
  all_goals grind [Int.toNat_natCast,Lt.virt]
 grind
theorem Tw(b:Lt.Block)(KK:Bool->Prop)(h:KK (Lt.block b)):Pu b KK:=by
 unfold Pu;(try simp only[ae,am,aq,jval,bor,band,bnand,bimp,and_self]);unfold Lt.block at h;split
 .grind
 intro hl;refine dy b.Phis hl Lt.phi (b.Code.all Lt.instr) KK _ (λR i hi ih c=>?_) (λR h=>?_) (kk h ?_)
 .grind [Int.toNat_natCast]
 .simp only[ld,akS,if_false];intro a;refine dy b.Code a Lt.instr true KK _ (λR i hi ih c=>?_) (λR h=>?_) (kk h ?_)
  all_goals grind [Int.toNat_natCast]
 grind
theorem wt(f:Lt.Func)(KK:Bool->Prop)(h:KK (aJ f)):pw f KK:=by
 unfold pw;dsimp only;(try simp only[ae,am,aq,jval,bor,band,bnand,bimp,and_self]);have e0:=acR f.Blocks
 unfold aJ at h;refine ifk (λhc=>kk h (by grind)) (λj hl=>?_);refine sP f.Blocks hl (λ(b:{b:Nat // b<=1024}) i=>((b.1:Int),i)) (λt b=>Lt.blocks t b.1) KK _ (λR b i hi ih h=>?_) (λR b h=>?_) ⟨0,by omega⟩ (kk h (by grind))
 .obtain⟨b,hb⟩:=b;simp only[aF hi,if_true,Int.toNat_natCast]
  try dsimp +instances only [Int.toNat_natCast]
  refine⟨⟨akW i,hi⟩,?_⟩;generalize f.Blocks.getD i default=x at h;obtain⟨g,c,d,⟨k,a,t,n⟩⟩:=x;dsimp only at h ih|-;simp only[Lt.blocks]at h;intro _;refine ifk (λhc=>kk h (by grind)) (λhc _ _=>?_);simp only[alP,decide_eq_true_eq,not_or]at hc;have w1:i64.wrap ((c.length:Int)+(d.length:Int))=((c.length+d.length:Nat):Int):=by grind [cF]
  have w2:i64.wrap ((b:Int)+((c.length+d.length:Nat):Int))=((b+(c.length+d.length):Nat):Int):=by grind [cF]
  rw[w1,w2];refine ifk (λhc=>kk h (by grind)) (λhc=>?_);have e:b+(c.length+d.length)<=1024:=by grind
  exact ih ⟨_,e⟩ (kk h (by grind))
 grind [Lt.blocks]
theorem B9(p:Lt.Program)(KK:Bool->Prop)(h:KK (bt p)):xe p KK:=by
 unfold xe;dsimp only;(try simp only[ae,am,aq,jval,bor,band,bnand,bimp,and_self]);unfold bt at h;intro _;refine ifk (λhc=>kk h (by grind)) (λd hl=>?_);refine dy p.Classes hl cV (p.Externs.all cP&&p.Funcs.all aJ) KK _ (λR i hi ih c=>?_) (λR h=>?_) (kk h (by grind))
 .grind [Int.toNat_natCast,cV]
 simp only[ld,akS,if_false];intro a;refine dy p.Externs a cP (p.Funcs.all aJ) KK _ (λR i hi ih c=>?_) (λR h=>?_) h
 .grind [Int.toNat_natCast,cP]
 simp only[ld,akS,if_false];intro b;refine dy p.Funcs b aJ true KK _ (λR i hi ih c=>?_) (λR h=>?_) (kk h (by simp))
 all_goals grind [Int.toNat_natCast]
theorem cC[Inhabited α]{l:List α}{P:α->Prop}(h:∀x∈l,P x){i:Nat}(hi:i<l.length):P (l.getD i default):=h _ (au l hi)
theorem dS[Inhabited α](l:List α)(most:Int)(a:List α->Int->Int)(h0:∀b,a [] b=b)(h1:∀x r b,¬ b<=most->a (x::r) b=b)(KK:Int->Prop)(A B:(Int×Int->Prop)->Int×Int->Prop)
  (hs:∀R b i,l.length<=LEN->i<l.length->b<=most->(∀b',KK (a (l.drop (i+1)) b')->R (b',i64.wrap ((i:Int)+1)))->KK (a (l.getD i default::l.drop (i+1)) b)->A R (b,(i:Int)))
  (c:∀R b i,KK b->B R (b,i)) (b:Int) (h:KK (a l b)):ab (λR v=>l.length<=4611686018427387904->if decide (v.2 < (l.length:Int))&&decide (v.1<=most)then A R v else B R v) (b,0):=by
 by_cases hl:l.length<=LEN
 .refine S0 l hl a KK _ (λR b i hi ih h _=>?_) (λR b h _=>?_) b h
  all_goals grind
 exact⟨1,λh=>absurd h hl⟩
theorem B7(l:List Lt.Var)(most:Int)(KK:Int->Prop)(h:KK (dc l most)):xc l most KK:=by
 unfold xc;(try simp only[ae,am,aq,bd,bL,jval,bor,band,bnand,bimp,and_self]);unfold dc at h;intro _;refine ifk (λhc=>kk h (by grind)) (λhc _=>?_);refine dS l most (zG most) (λ_=>rfl) (λx r b hb=>by simp[zG,hb]) KK _ _ (λR b i hl hi hb ih h=>?_) (λR b i h=>h) _ (kk h (by grind))
 grind [zG]
theorem B6(l:List Lt.Arg)(most:Int)(KK:Int->Prop)(h:KK (fL l most)):xb l most KK:=by
 unfold xb;(try simp only[ae,am,aq,bd,bL,jval,bor,band,bnand,bimp,and_self]);unfold fL at h;intro _;refine ifk (λhc=>kk h (by grind)) (λhc _=>?_);refine dS l most (zF most) (λ_=>rfl) (λx r b hb=>by simp[zF,hb]) KK _ _ (λR b i hl hi hb ih h=>?_) (λR b i h=>h) _ (kk h (by grind))
 grind [zF]
theorem AA(x:Lt.Instr)(most:Int)(hp:afH x most)(KK:Int->Prop)(h:KK (gE x most)):tV x most KK:=by
 obtain⟨⟨_,okF,_⟩,hm⟩:=hp;unfold tV;dsimp only;(try simp only[ae,am,aq,jval,bor,band,bnand,bimp,and_self]);unfold gE at h;intro _;refine ifk (λhc=>kk h (by grind)) (λhc _ _ _=>?_);rw[if_neg hc]at h;intro J l;have hj:J (Lt.upto most (Lt.plus (Lt.plus (Lt.plus 1 x.Dst.length) x.Frames.length) x.Objs.length) (x.Name.length:Int)):=by
  refine l _ ?_;dsimp only;refine dS x.Frames most (lR most) (λ_=>rfl) (λx r b hb=>by simp[lR,hb]) (λn=>KK (uj most x.Objs n)) _ _ (λR b i hl hi hb ih h=>?_) (λR b i h=>?_) _ (kk h (by grind [Lt.upto]))
  .simp only[Int.toNat_natCast]
   try dsimp +instances only [Int.toNat_natCast]
   have o:(0:Int)<=(i:Int)/\i<x.Frames.length:=⟨akW i,hi⟩
   simp only[o,and_self,true_and];intro _;simp only[lR,Lt.plus,hb,if_true]at h;have c:=cC okF hi
   generalize x.Frames.getD i default=f at h c|-;intro g a;have m:g (if i64.wrap (b+(f.Func.length:Int))<=most then i64.wrap (i64.wrap (b+(f.Func.length:Int))+(f.Block.length:Int))else i64.wrap (b+(f.Func.length:Int))):=by
    refine a _ ?_;refine dS f.Vars most (pM most) (λ_=>rfl) (λx r b hb=>by simp[pM,hb]) (λn=>KK (uj most x.Objs (lR most (x.Frames.drop (i+1)) n))) _ _ (λd b2 j e hj p k h=>?_) (λd b2 j h=>?_) _ (kk h (by grind))
    .simp only[Int.toNat_natCast]
     try dsimp +instances only [Int.toNat_natCast]
     have o2:(0:Int)<=(j:Int)/\j<f.Vars.length:=⟨akW j,hj⟩
     simp only[o2,and_self,true_and];(try simp only[ae,am,aq,bd,bL,jval,bor,band,bnand,bimp,and_self])
     grind [pM]
    grind
   grind
  refine dS x.Objs most (uj most) (λ_=>rfl) (λx r b hb=>by simp[uj,hb]) KK _ _ (λR b i hl hi hb ih h=>?_) (λR b i h=>h) _ h;simp only[Int.toNat_natCast]
  try dsimp +instances only [Int.toNat_natCast]
  have o:(0:Int)<=(i:Int)/\i<x.Objs.length:=⟨akW i,hi⟩
  simp only[o,and_self,true_and];(try simp only[ae,am,aq,bd,bL,jval,bor,band,bnand,bimp,and_self])
  grind [uj]
 grind [Lt.upto]
theorem Az(b:Lt.Block)(most:Int)(hp:afG b most)(KK:Int->Prop)(h:KK (gD b most)):tU b most KK:=by
 obtain⟨⟨okP,okC,f⟩,hm⟩:=hp;unfold tU;dsimp only;(try simp only[ae,am,aq,jval,bor,band,bnand,bimp,and_self]);unfold gD at h;intro _;refine ifk (λhc=>kk h (by grind)) (λhc _=>?_);rw[if_neg (by grind)]at h;intro J d;have hj:J (Lt.upto most (Lt.plus 1 b.Name.length) (b.End.A.S.length:Int)):=by
  refine d _ ?_;refine dS b.End.To most (Lt.cTo most) (λ_=>rfl) (λx r b hb=>by simp[Lt.cTo,hb]) (λn=>KK (r6 most b.Code (uk most b.Phis n))) _ _ (λR n i hl hi hb ih h=>?_) (λR n i h=>?_) _ h
  .grind [Lt.cTo]
  refine dS b.Phis most (uk most) (λ_=>rfl) (λx r b hb=>by simp[uk,hb]) (λn=>KK (r6 most b.Code n)) _ _ (λR n i hl hi hb ih h=>?_) (λR n i h=>?_) _ h
  .simp only[Int.toNat_natCast]
   try dsimp +instances only [Int.toNat_natCast]
   have o:(0:Int)<=(i:Int)/\i<b.Phis.length:=⟨akW i,hi⟩
   simp only[o,and_self,true_and];intro _;simp only[uk,Lt.plus,hb,if_true]at h;generalize b.Phis.getD i default=x at h|-;refine dS x.Ins most (IR most) (λ_=>rfl) (λx r b hb=>by simp[IR,hb]) (λn=>KK (r6 most b.Code (uk most (b.Phis.drop (i+1)) n))) _ _ (λa b2 j g hj e c h=>?_) (λa b2 j h=>?_) _ h
   .simp only[Int.toNat_natCast]
    try dsimp +instances only [Int.toNat_natCast]
    have o2:(0:Int)<=(j:Int)/\j<x.Ins.length:=⟨akW j,hj⟩
    simp only[o2,and_self,true_and];(try simp only[ae,am,aq,bd,bL,jval,bor,band,bnand,bimp,and_self])
    grind [IR]
   grind
  refine dS b.Code most (r6 most) (λ_=>rfl) (λx r b hb=>by simp[r6,hb]) KK _ _ (λR n i hl hi hb ih h=>?_) (λR n i h=>h) _ h;simp only[Int.toNat_natCast]
  try dsimp +instances only [Int.toNat_natCast]
  refine⟨⟨akW i,hi⟩,⟨cC okC hi,hm⟩,?_⟩
  grind [r6]
 grind [Lt.upto]
theorem JT(f:Lt.Func)(most:Int)(hp:afI f most)(KK:Int->Prop)(h:KK (nX f most)):CE f most KK:=by
 obtain⟨okB,hm⟩:=hp;unfold CE;dsimp only;(try simp only[ae,am,aq,jval,bor,band,bnand,bimp,and_self]);unfold nX at h;intro _;refine ifk (λhc=>kk h (by grind)) (λhc _=>?_);rw[if_neg (by grind)]at h;intro J a;have hj:J (Lt.upto most (Lt.plus 1 f.Name.length) (f.Result.length:Int)):=by
  refine a _ ?_;refine dS f.Blocks most (oe most) (λ_=>rfl) (λx r b hb=>by simp[oe,hb]) KK _ _ (λR n i hl hi hb ih h=>?_) (λR n i h=>h) _ (kk h (by grind [Lt.upto]));simp only[Int.toNat_natCast]
  try dsimp +instances only [Int.toNat_natCast]
  refine⟨⟨akW i,hi⟩,⟨cC okB hi,hm⟩,?_⟩
  simp_all[oe]
 grind [Lt.upto]
theorem acK(p:Lt.Program)(most:Int)(hp:Ox p most)(KK:Bool->Prop)(h:KK (Lt.Few p most)):aeL p most KK:=by
 obtain⟨okF,hm⟩:=hp;unfold aeL;dsimp only;(try simp only[ae,am,aq,bd,bL,jval,bor,band,bnand,bimp,and_self]);unfold Lt.Few at h;intro _;refine ifk (λhc=>kk h (by grind)) (λhc=>?_);rw[if_neg (by grind)]at h;refine dS p.Classes most (kN most) (λ_=>rfl) (λx r b hb=>by simp[kN,hb]) (λn=>KK (decide (og most p.Funcs (jr most p.Externs n)<=most))) _ _ (λR n i hl hi hb ih h=>?_) (λR n i h=>?_) _ h
 .grind [kN]
 refine dS p.Externs most (jr most) (λ_=>rfl) (λx r b hb=>by simp[jr,hb]) (λn=>KK (decide (og most p.Funcs n<=most))) _ _ (λR n i hl hi hb ih h=>?_) (λR n i h=>?_) _ h
 .grind [jr]
 refine dS p.Funcs most (og most) (λ_=>rfl) (λx r b hb=>by simp[og,hb]) (λn=>KK (decide (n<=most))) _ _ (λR n i hl hi hb ih h=>?_) (λR n i h=>h) _ h;simp only[Int.toNat_natCast]
 try dsimp +instances only [Int.toNat_natCast]
 refine⟨⟨akW i,hi⟩,⟨cC okF hi,hm⟩,?_⟩
 grind [og]
end Go.Am
end
