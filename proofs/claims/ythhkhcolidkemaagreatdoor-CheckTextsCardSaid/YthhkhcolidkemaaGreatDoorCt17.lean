/-
  Part 17: AmG40 · AmL40 · AmL41 · AmL42 · AmL43 · AmL44 · AmG24 · AmPkL · AmPkRa · AmPkRb.
-/
import Derived.Test.YthhkhcolidkemaaGreatDoorCt16
set_option linter.unusedSimpArgs false
set_option linter.unusedVariables false
set_option linter.unusedSectionVars false
set_option linter.unnecessarySimpa false
open Lt
open Go.IntKind (i64)
section
namespace Go.Am
open Go
def Rv(a:Lt.Program)(b:List UInt8)(KK:(Lt.Class×Bool)->Prop):Prop:=ab (α:=Int) (λd c=>(a.Classes.length<=4611686018427387904->if decide (c < (a.Classes.length:Int))then((0<=c/\c.toNat<a.Classes.length)/\if decide ((a.Classes.getD c.toNat default).Name=b)then((0<=c/\c.toNat<a.Classes.length)/\KK ((a.Classes.getD c.toNat default),true))else(d (i64.wrap (c+1))))else(KK ((Lt.Class.mk ([]:List UInt8) []),false)))) 0
def VS(a:Lt.Program)(b:List UInt8)(KK:(Lt.Func×Bool)->Prop):Prop:=ab (α:=Int) (λd c=>(a.Funcs.length<=4611686018427387904->if decide (c < (a.Funcs.length:Int))then((0<=c/\c.toNat<a.Funcs.length)/\if decide ((a.Funcs.getD c.toNat default).Name=b)then((0<=c/\c.toNat<a.Funcs.length)/\KK ((a.Funcs.getD c.toNat default),true))else(d (i64.wrap (c+1))))else(KK ((Lt.Func.mk ([]:List UInt8) ([]:List UInt8) [] [] []),false)))) 0
def L3(a:Lt.Program)(b:List UInt8)(KK:(Lt.Extern×Bool)->Prop):Prop:=ab (α:=Int) (λd c=>(a.Externs.length<=4611686018427387904->if decide (c < (a.Externs.length:Int))then((0<=c/\c.toNat<a.Externs.length)/\if decide ((a.Externs.getD c.toNat default).Name=b)then((0<=c/\c.toNat<a.Externs.length)/\KK ((a.Externs.getD c.toNat default),true))else(d (i64.wrap (c+1))))else(KK ((Lt.Extern.mk ([]:List UInt8) 0),false)))) 0
def afV(a:List Lt.Var)(b:List UInt8)(KK:(Lt.Var×Bool)->Prop):Prop:=ab (α:=Int) (λd c=>(a.length<=4611686018427387904->if decide (c < (a.length:Int))then((0<=c/\c.toNat<a.length)/\if decide ((a.getD c.toNat default).Name=b)then((0<=c/\c.toNat<a.length)/\KK ((a.getD c.toNat default),true))else(d (i64.wrap (c+1))))else(KK ((Lt.Var.mk ([]:List UInt8) ([]:List UInt8)),false)))) 0
def Rx(c:Lt.Program)(a:List UInt8)(b:List UInt8)(KK:(Lt.Var×Bool)->Prop):Prop:=KK (((sv (((bG c a).1).Fields) b).1),(sv (((bG c a).1).Fields) b).2)
def L4(b:Lt.Program)(a:List UInt8)(KK:(Lt.Var×Bool)->Prop):Prop:=KK (((sv b.Globals a).1),(sv b.Globals a).2)
def PC(b:Lt.Func)(a:List UInt8)(KK:(Lt.Var×Bool)->Prop):Prop:=if (sv b.Params a).2 then(KK (((sv b.Params a).1),true))else(KK (((sv b.Vars a).1),(sv b.Vars a).2))
def VT(b:Lt.Func)(a:Lt.Arg)(KK:(List UInt8×Bool)->Prop):Prop:=if decide (a.Kind=1)then(KK (((iz b a.S).1).Type_,(iz b a.S).2))else(aa (α:=Bool) (λc=>if decide (2<=a.Kind)then(c (decide (a.Kind<=4)))else(c false)) (λd=>if d then(((0:Int)<=a.Kind/\a.Kind < ((5:Nat):Int))/\a.Kind.toNat<[(([]:List UInt8):List UInt8),(([]:List UInt8):List UInt8),([105,110,116]:List UInt8),([102,108,111,97,116]:List UInt8),([110,117,108,108]:List UInt8)].length/\KK (([(([]:List UInt8):List UInt8),(([]:List UInt8):List UInt8),([105,110,116]:List UInt8),([102,108,111,97,116]:List UInt8),([110,117,108,108]:List UInt8)].getD a.Kind.toNat default),true))else(KK (([]:List UInt8),false))))
def Pz(a:List UInt8)(KK:Bool->Prop):Prop:=if !decide (a=[105,110,116])then(KK (!decide (a=[102,108,111,97,116])))else(KK false)
def VR(b:List UInt8)(a:List UInt8)(KK:Bool->Prop):Prop:=aa (α:=Bool) (λc=>if decide (b=a)then(c true)else(if decide (b=[110,117,108,108])then(c (iy a))else(c false))) (λd=>KK d)
def VQ(a:List (List UInt8))(b:List Lt.Var)(KK:Bool->Prop):Prop:=ab (α:=Int) (λe c=>(a.length<=4611686018427387904->if decide (c < (a.length:Int))then(aa (α:=Bool) (λd=>(b.length<=4611686018427387904->if decide ((b.length:Int)<=c)then(d true)else((0<=c/\c.toNat<a.length)/\(0<=c/\c.toNat<b.length)/\d (!(fj (a.getD c.toNat default) ((b.getD c.toNat default).Type_)))))) (λv4=>if v4 then(KK false)else(e (i64.wrap (c+1)))))else((a.length<=4611686018427387904->(b.length<=4611686018427387904->KK (decide ((a.length:Int)=(b.length:Int)))))))) 0
def CQ(b:Lt.Program)(f:Lt.Func)(a:Lt.Instr)(KK:Bool->Prop):Prop:=have u:=fR b a.Name;have m:=(iz f a.Dst).1;aa (α:=Bool) (λp=>if !((Lt.rOf a.Op).2)then(p true)else(if decide ((a.Args.length:Int) < ((Lt.rOf a.Op).1).Least)then(p true)else(if decide (((Lt.rOf a.Op).1).Most < (a.Args.length:Int))then(p true)else(if ((Lt.rOf a.Op).1).Dst then(p (!((iz f a.Dst).2)))else(p false))))) (λF=>if F then(KK false)else(ab (α:=List (List UInt8)×Int) (λD v4=>have t:=((0:Int)<=1/\1 < ((v4.1.length:Nat):Int));have z5:=([(iC f (a.Args.getD v4.2.toNat default)).1]:List (List UInt8));have i:=((0:Int)<=0/\0 < ((v4.1.length:Nat):Int));have c:=pd b (v4.1.getD 0 default) a.Name;(a.Args.length<=4611686018427387904->if decide (v4.2 < (a.Args.length:Int))then((0<=v4.2/\v4.2.toNat<a.Args.length)/\if !((iC f (a.Args.getD v4.2.toNat default)).2)then(KK false)else((v4.1.length+z5.length<=4611686018427387904/\(v4.1.length+z5.length)*16<=140737488355328)/\D ((v4.1++z5),(i64.wrap (v4.2+1)))))else(aa (α:=List UInt8) (λC=>aa (α:=Bool) (λv=>if decide (15<=a.Op)then(if decide (a.Op<=21)then(v true)else(v (decide (a.Op=23))))else(v (decide (a.Op=23)))) (λH=>if H then(C [102,108,111,97,116])else(C [105,110,116]))) (λE=>aa (α:=List UInt8) (λB=>aa (α:=Bool) (λn=>if decide (15<=a.Op)then(if decide (a.Op<=18)then(n true)else(n (decide (a.Op=22))))else(n (decide (a.Op=22)))) (λx=>if x then(B [102,108,111,97,116])else(B [105,110,116]))) (λA=>aa (α:=Unit) (λq=>if decide (a.Op=24)then(i/\KK (fj (v4.1.getD 0 default) (m.Type_)))else(if decide (a.Op=25)then(aa (α:=Bool) (λh=>if (bG b a.Name).2 then(if decide (m.Type_=a.Name)then(if decide ((v4.1.length:Int)=0)then(h true)else(h (g9 v4.1 (((bG b a.Name).1).Fields))))else(h false))else(h false)) (λz=>KK z))else(if decide (a.Op=26)then(aa (α:=Bool×Lt.Var) (λe=>have z3:=((e (c.2,(c.1)))/\(e (c.2,(c.1))))/\(e (c.2,(c.1)));i/\(z3/\z3/\(e (c.2,(c.1))))/\(z3/\z3/\(e (c.2,(c.1))))/\(z3/\z3/\(e (c.2,(c.1))))/\(e (c.2,(c.1)))) (λo=>aa (α:=Bool) (λk=>((0:Int)<=0/\0<a.Args.length)/\if decide ((a.Args.getD 0 default).Kind=1)then(if o.1 then(k (decide (o.2.Type_=m.Type_)))else(k false))else(k false)) (λv20=>KK v20)))else(if decide (a.Op=27)then(aa (α:=Bool×Lt.Var) (λd=>have z4:=((d (c.2,(c.1)))/\(d (c.2,(c.1))))/\(d (c.2,(c.1)));i/\(z4/\z4/\(d (c.2,(c.1))))/\(z4/\z4/\(d (c.2,(c.1))))/\(z4/\z4/\(d (c.2,(c.1))))/\(d (c.2,(c.1)))) (λs=>aa (α:=Bool) (λj=>((0:Int)<=0/\0<a.Args.length)/\if decide ((a.Args.getD 0 default).Kind=1)then(if s.1 then(t/\j (fj (v4.1.getD 1 default) s.2.Type_))else(j false))else(j false)) (λv24=>KK v24)))else(if decide (a.Op=28)then(aa (α:=Bool) (λg=>if decide (m.Type_=[105,110,116])then(i/\if iy (v4.1.getD 0 default)then(t/\if iy (v4.1.getD 1 default)then(i/\t/\if decide ((v4.1.getD 0 default)=(v4.1.getD 1 default))then(g true)else(i/\if decide ((v4.1.getD 0 default)=[110,117,108,108])then(g true)else(t/\g (decide ((v4.1.getD 1 default)=[110,117,108,108])))))else(g false))else(g false))else(g false)) (λv26=>KK v26))else(if decide (a.Op=29)then(if u.2 then(KK (decide ((u.1).Type_=m.Type_)))else(KK false))else(if decide (a.Op=30)then(if u.2 then(i/\KK (fj (v4.1.getD 0 default) ((u.1).Type_)))else(KK false))else(if decide (a.Op=31)then(aa (α:=Bool) (λl=>if (lJ b a.Name).2 then(if g9 v4.1 (((lJ b a.Name).1).Params)then(l (decide (((lJ b a.Name).1).Result=m.Type_)))else(l false))else(l false)) (λv28=>KK v28))else(if decide (a.Op=33)then(i/\if decide ((v4.1.getD 0 default)=[105,110,116])then(KK true)else(i/\KK (decide ((v4.1.getD 0 default)=[102,108,111,97,116]))))else(if decide (a.Op=34)then(KK true)else(if decide (a.Op=32)then(aa (α:=Bool) (λr=>if !((gG b a.Name).2)then(r true)else(r (!decide (((gG b a.Name).1).N=(v4.1.length:Int))))) (λy=>if y then(KK false)else(q ())))else(q ())))))))))))) (λG=>ab (α:=Int) (λw v32=>(v4.1.length<=4611686018427387904->if decide (v32 < (v4.1.length:Int))then(((0:Int)<=v32/\v32 < ((v4.1.length:Nat):Int))/\if !decide ((v4.1.getD v32.toNat default)=E)then(KK false)else(w (i64.wrap (v32+1))))else(KK (decide (m.Type_=A))))) 0)))))) ([],0)))
def Py(c:Lt.Func)(a:Lt.Term)(KK:Bool->Prop):Prop:=have z3:=(iC c a.A).2;have e:=fj ((iC c a.A).1) c.Result;have d:=decide (a.Kind=4);aa (α:=Bool) (λb=>if decide (a.Kind=1)then(b true)else(if decide (a.Kind=2)then(if z3 then(if decide ((iC c a.A).1=[105,110,116])then(b true)else(if decide (a.Kind=3)then(if z3 then(if e then(b true)else(if d then(b (decide (10<=a.N)))else(b false)))else(if d then(b (decide (10<=a.N)))else(b false)))else(if d then(b (decide (10<=a.N)))else(b false))))else(if decide (a.Kind=3)then(if z3 then(if e then(b true)else(if d then(b (decide (10<=a.N)))else(b false)))else(if d then(b (decide (10<=a.N)))else(b false)))else(if d then(b (decide (10<=a.N)))else(b false))))else(if decide (a.Kind=3)then(if z3 then(if e then(b true)else(if d then(b (decide (10<=a.N)))else(b false)))else(if d then(b (decide (10<=a.N)))else(b false)))else(if d then(b (decide (10<=a.N)))else(b false))))) (λf=>KK f)
def Ry(c:Lt.Program)(a:List Lt.Var)(KK:Bool->Prop):Prop:=ab (α:=Int) (λg b=>(a.length<=4611686018427387904->if decide (b < (a.length:Int))then(aa (α:=Bool) (λe=>(0<=b/\b.toNat<a.length)/\((e ((bG c ((a.getD b.toNat default).Type_)).2))/\(e ((bG c ((a.getD b.toNat default).Type_)).2)))/\(e ((bG c ((a.getD b.toNat default).Type_)).2))) (λv4=>aa (α:=Bool) (λf=>(0<=b/\b.toNat<a.length)/\if iy ((a.getD b.toNat default).Type_)then(f (!v4))else(f false)) (λh=>if h then(KK false)else(ab (α:=Int) (λi d=>if decide (d<b)then((0<=d/\d.toNat<a.length)/\(0<=b/\b.toNat<a.length)/\if decide ((a.getD d.toNat default).Name=(a.getD b.toNat default).Name)then(KK false)else(i (i64.wrap (d+1))))else(g (i64.wrap (b+1)))) 0))))else(KK true))) 0
def CP(a:Lt.Program)(KK:Bool->Prop):Prop:=if !(cV a a.Globals)then(KK false)else(ab (α:=Int) (λn f=>(a.Classes.length<=4611686018427387904->if decide (f < (a.Classes.length:Int))then(ab (α:=Int) (λo v4=>if decide (v4<f)then((0<=v4/\v4.toNat<a.Classes.length)/\(0<=f/\f.toNat<a.Classes.length)/\if decide ((a.Classes.getD v4.toNat default).Name=(a.Classes.getD f.toNat default).Name)then(KK false)else(o (i64.wrap (v4+1))))else((0<=f/\f.toNat<a.Classes.length)/\if !(cV a ((a.Classes.getD f.toNat default).Fields))then(KK false)else(n (i64.wrap (f+1))))) 0)else(ab (α:=Int) (λr i=>(a.Externs.length<=4611686018427387904->if decide (i < (a.Externs.length:Int))then(ab (α:=Int) (λq j=>if decide (j<i)then((0<=j/\j.toNat<a.Externs.length)/\(0<=i/\i.toNat<a.Externs.length)/\if decide ((a.Externs.getD j.toNat default).Name=(a.Externs.getD i.toNat default).Name)then(KK false)else(q (i64.wrap (j+1))))else(r (i64.wrap (i+1)))) 0)else(ab (α:=Int) (λp c=>have g:=(0<=c/\c.toNat<a.Funcs.length);have e:=a.Funcs.getD c.toNat default;have z3:=(bG a (e.Result)).2;(a.Funcs.length<=4611686018427387904->if decide (c < (a.Funcs.length:Int))then(ab (α:=Int) (λl d=>if decide (d<c)then((0<=d/\d.toNat<a.Funcs.length)/\g/\if decide ((a.Funcs.getD d.toNat default).Name=e.Name)then(KK false)else(l (i64.wrap (d+1))))else(g/\(([]:List Lt.Var).length+(e.Params).length<=4611686018427387904/\(([]:List Lt.Var).length+(e.Params).length)*32<=140737488355328)/\g/\((e.Params).length+(e.Vars).length<=4611686018427387904/\((e.Params).length+(e.Vars).length)*32<=140737488355328)/\aa (α:=Bool) (λb=>((g/\(b z3)/\(b z3))/\(g/\b z3))/\(g/\((b z3)/\(b z3))/\(b z3))/\(g/\b z3)) (λm=>aa (α:=Bool) (λh=>if !(cV a ((e.Params)++(e.Vars)))then(h true)else(g/\if iy (e.Result)then(h (!m))else(h false))) (λk=>if k then(KK false)else(p (i64.wrap (c+1))))))) 0)else(KK true))) 0))) 0))) 0)
theorem ad0(op:Int):(Lt.rOf op).2=(Lt.Of op).2/\(Lt.rOf op).1.Dst=(Lt.Of op).1.Dst/\(Lt.rOf op).1.Least=(Lt.Of op).1.Least/\(Lt.rOf op).1.Most=(Lt.Of op).1.Most:=by
 by_cases h:1<=op/\op<=34
 .obtain⟨k,rfl⟩:=alG (show 0<=op by omega);have:∀k:Fin 35,1<=k.1->(Lt.rOf (k.1:Int)).2=(Lt.Of (k.1:Int)).2/\(Lt.rOf (k.1:Int)).1.Dst=(Lt.Of (k.1:Int)).1.Dst/\(Lt.rOf (k.1:Int)).1.Least=(Lt.Of (k.1:Int)).1.Least/\(Lt.rOf (k.1:Int)).1.Most=(Lt.Of (k.1:Int)).1.Most:=by decide +kernel
  exact this ⟨k,by omega⟩ (by grind)
 grind (splits:=20) [Lt.rOf,Lt.Of]
variable{α:Type}
theorem uL[Inhabited α](nm:α->List UInt8)(s:List UInt8)(l:List α)(KK:α×Bool->Prop)(h:KK (Lt.fnd nm s l)):ab (α:=Int) (λR v=>(l.length<=4611686018427387904->if decide (v < (l.length:Int))then((0<=v/\v.toNat<l.length)/\if decide (nm (l.getD v.toNat default)=s)then((0<=v/\v.toNat<l.length)/\KK (l.getD v.toNat default,true))else(R (i64.wrap (v+1))))else(KK (default,false)))) 0:=by
 refine b9 l (λl=>KK (Lt.fnd nm s l)) (λR i x r hi hx _ ih h hl=>?_) (λR h hl=>?_) h
 .grind [Lt.fnd]
 rw[if_neg (by simp)];exact h
theorem JU(p:Lt.Program)(s:List UInt8)(KK:Lt.Class×Bool->Prop)(h:KK (bG p s)):Rv p s KK:=uL _ s p.Classes KK h
theorem Nv(p:Lt.Program)(s:List UInt8)(KK:Lt.Func×Bool->Prop)(h:KK (lJ p s)):VS p s KK:=uL _ s p.Funcs KK h
theorem Fg(p:Lt.Program)(s:List UInt8)(KK:Lt.Extern×Bool->Prop)(h:KK (gG p s)):L3 p s KK:=uL _ s p.Externs KK h
theorem Yt(l:List Lt.Var)(s:List UInt8)(KK:Lt.Var×Bool->Prop)(h:KK (sv l s)):afV l s KK:=uL _ s l KK h
theorem JV(p:Lt.Program)(c s:List UInt8)(KK:Lt.Var×Bool->Prop)(h:KK (pd p c s)):Rx p c s KK:=h
theorem Fh(p:Lt.Program)(s:List UInt8)(KK:Lt.Var×Bool->Prop)(h:KK (fR p s)):L4 p s KK:=h
theorem TQ(f:Lt.Func)(s:List UInt8)(KK:Lt.Var×Bool->Prop)(h:KK (iz f s)):PC f s KK:=by grind [PC,iz]
theorem Yu(f:Lt.Func)(a:Lt.Arg)(KK:List UInt8×Bool->Prop)(h:KK (iC f a)):VT f a KK:=by
 unfold VT;unfold iC at h;simp only[aX,ac]
 grind
theorem TP(t:List UInt8)(KK:Bool->Prop)(h:KK (iy t)):Pz t KK:=by grind [Pz,iy]
theorem Nu(a b:List UInt8)(KK:Bool->Prop)(h:KK (fj a b)):VR a b KK:=by
 unfold fj at h;intro J c
 grind
theorem Nt(l:List (List UInt8))(v:List Lt.Var)(KK:Bool->Prop)(h:KK (g9 l v)):VQ l v KK:=by
 refine ao _ l.length (λi x=>x=(i:Int)/\i<=v.length/\KK (g9 (l.drop i) (v.drop i))) (λR i x hi hx ih hl=>?_) (λR x hx hl=>?_) 0 ⟨rfl,alJ _,h⟩
 .obtain⟨rfl,a,h⟩:=hx;rw[if_pos (aW hi),Int.toNat_natCast];rw[fE l hi]at h;simp only[ap,aX,am,ac];intro hv;refine ifk (λhc=>?_) (λhc=>⟨by omega,by grind,?_⟩)
  .have hc:=of_decide_eq_true hc
   rw[show v.drop i=[]from List.drop_eq_nil_of_le kQ1]at h;exact h
  grind [fE,g9,ae]
 obtain⟨rfl,a,h⟩:=hx;rw[if_neg (by simp)];intro _ _;rw[alM]at h;rcases alY l.length v.length with e|e
 .rw[fE v e]at h;rw[decide_eq_false kQ1];exact h
 rw[List.drop_eq_nil_of_le kQ1]at h;rw[decide_eq_true kQ1];exact h
theorem p5[Inhabited α]{l:List α}{nm:α->List UInt8}{i:Nat}{A B:Prop}(hi:i<l.length)(hl:l.length<=4611686018427387904)(a:nm (l.getD i default)∈(l.take i).map nm->A)(b:nm (l.getD i default) ∉ (l.take i).map nm->B) :
  ab (α:=Int) (λR v=>if decide (v < (i:Int))then((0<=v/\v.toNat<l.length)/\((0:Int)<=(i:Int)/\i<l.length)/\if decide (nm (l.getD v.toNat default)=nm (l.getD i default))then A else(R (i64.wrap (v+1))))else B) 0:=by
 refine ao _ i (λk v=>v=(k:Int)/\nm (l.getD i default) ∉ (l.take k).map nm) (λR k v hk⟨e,h⟩ih=>?_) (λR v⟨e,h⟩=>?_) _ ⟨rfl,by simp⟩
 .subst e;rw[if_pos (aW hk),Int.toNat_natCast];have hs:=aZ l (i:=k) kQ1
  refine⟨by omega,by omega,ifk (λhc=>a ?_) (λhc=>ih _ ⟨ae kQ1,?_⟩)⟩
  .have:(l.take (k+1))=(l.take i).take (k+1):=by grind
   grind [List.mem_of_mem_take]
  grind
 grind
theorem vd[Inhabited α]{body:(Int->Prop)->Int->Prop}(l:List α)(nm:α->List UInt8)(ok:α->Prop)(N:Prop)
  (hs:∀R(i:Nat)x,i<l.length->l.getD i default=x->x∈l->(nm x∈(l.take i).map nm->N)->(nm x ∉ (l.take i).map nm->ok x->l.length<=4611686018427387904->R (i64.wrap ((i:Int)+1)))->body R (i:Int))
  (a:∀R,(∀x∈l,ok x)->(l.map nm).Nodup->body R (l.length:Int)) (hN:¬ (l.map nm).Nodup->N):ab body 0:=by
 refine ao _ l.length (λi x=>x=(i:Int)/\(∀x∈l.take i,ok x)/\((l.take i).map nm).Nodup) (λR i x hi⟨e,h1,h2⟩ih=>?_) (λR x⟨e,h1,h2⟩=>?_) _ ⟨rfl,by simp,by simp⟩
 .grind [ae,aZ]
 grind
theorem JY(p:Lt.Program)(l:List Lt.Var)(KK:Bool->Prop)(h:KK (cV p l)):Ry p l KK:=by
 unfold cV at h;refine vd l (·.Name) (λx=>ij p x.Type_=true) (KK false) (λR i x hi hx hm h1 h2 hl=>?_) (λR ho hd _=>?_) (λhd=>by grind [mI])
 .simp only[aW hi,Int.toNat_natCast,hi,akQ,and_self,true_and,ac];intro J a;have j:J (!ij p x.Type_):=a _ (by
   refine ifk (λhc=>?_) (λhc=>?_)
   .grind
   have:=p5 (l:=l) (nm:=(·.Name)) (A:=KK false) (B:=R (i64.wrap ((i:Int)+1))) hi hl (by grind) (by grind)
   grind)
  grind [ij]
 grind [mI]
theorem JW(p:Lt.Program)(hp:jR p)(KK:Bool->Prop)(h:KK (gm p)):CP p KK:=by
 unfold CP;have a:∀b1 b2 b3 b4 b5 b6:Bool,gm p=(b1&&b2&&b3&&b4&&b5&&b6)->(b1=false\/b2=false\/b3=false\/b4=false\/b5=false\/b6=false)->KK false:=by grind
 have a:=a _ _ _ _ _ _ rfl
 have r:∀x∈p.Classes,(!cV p x.Fields)=true->KK false:=λx hm hc=>by grind
 have o:∀x∈p.Funcs,(!(ij p x.Result&&cV p (x.Params++x.Vars)))=true->KK false:=λx hm hc=>by grind
 refine ifk (λhc=>a (by grind)) (λs=>?_);refine vd p.Classes (·.Name) (λc=>cV p c.Fields=true) (KK false) (λR i x hi hx hm h1 h2 hl=>?_) (λR n k _=>?_) (λhd=>a (.inl (decide_eq_false hd)))
 .rw[if_pos (aW hi)];have:=p5 (l:=p.Classes) (nm:=(·.Name)) (A:=KK false) (B:=(((0:Int)<=(i:Int)/\(i:Int).toNat<p.Classes.length)/\if !(cV p ((p.Classes.getD (i:Int).toNat default).Fields))then(KK false)else(R (i64.wrap ((i:Int)+1))))) hi hl (by grind) (by grind)
  exact this
 rw[if_neg (by simp)];refine vd p.Externs (·.Name) (λ_=>True) (KK false) (λR i x hi hx hm h1 h2 hl=>?_) (λR _ g _=>?_) (λhd=>a (.inr (.inl (decide_eq_false hd))))
 .rw[if_pos (aW hi)];exact p5 (l:=p.Externs) (nm:=(·.Name)) hi hl (by grind) (by grind)
 rw[if_neg (by simp)];refine vd p.Funcs (·.Name) (λf=>(ij p f.Result&&cV p (f.Params++f.Vars))=true) (KK false) (λR i x hi hx hm h1 h2 hl=>?_) (λR d m _=>?_) (λhd=>a (.inr (.inr (.inl (decide_eq_false hd)))))
 .rw[if_pos (aW hi)];refine p5 (l:=p.Funcs) (nm:=(·.Name)) hi hl (by grind) (λhn=>?_);rw[Int.toNat_natCast,hx];have hb:=hp x hm
  have hz:(0:Int)<=(i:Int)/\i<p.Funcs.length:=⟨by omega,hi⟩
  refine⟨hz,⟨by grind,by grind⟩,hz,⟨by omega,by omega⟩,λJ e=>?_⟩;have j:J (bG p x.Result).2:=e _ (by
   intro q b
   grind [ij])
  grind
 grind [gm,mI]
theorem TO(f:Lt.Func)(t:Lt.Term)(KK:Bool->Prop)(h:KK (vz f t)):Py f t KK:=by
 unfold Py;dsimp only;unfold vz at h;intro J a
 grind
theorem aaO(n:Int)(h:(Lt.Of n).2=true):1<=n/\n<=34/\((n≠25/\n≠29/\n≠31/\n≠32/\n≠34)->1<=(Lt.Of n).1.Least)/\((n=27\/n=28)->2<=(Lt.Of n).1.Least)/\((n≠27/\n≠30/\n≠33/\n≠34)->(Lt.Of n).1.Dst=true):=by
 by_cases hn:1<=n/\n<=34
 .obtain⟨k,rfl⟩:=alG (show 0<=n by omega);have:∀k:Fin 35,(((k.1:Int)≠25/\(k.1:Int)≠29/\(k.1:Int)≠31/\(k.1:Int)≠32/\(k.1:Int)≠34)->1<=(k.1:Int)->1<=(Lt.Of (k.1:Int)).1.Least)/\(((k.1:Int)=27\/(k.1:Int)=28)->2<=(Lt.Of (k.1:Int)).1.Least)/\(((k.1:Int)≠27/\(k.1:Int)≠30/\(k.1:Int)≠33/\(k.1:Int)≠34)->1<=(k.1:Int)->(Lt.Of (k.1:Int)).1.Dst=true):=by decide +kernel
  obtain⟨a,b,c⟩:=this ⟨k,by omega⟩
  grind
 unfold Lt.Of at h
 repeat rw[if_neg kQ1]at h
 cases h
theorem JX(p:Lt.Program)(f:Lt.Func)(i:Lt.Instr)(hp:Zl p f i)(KK:Bool->Prop)(h:KK (lP p f i)):CQ p f i KK:=by
 unfold CQ;obtain⟨I,z,F,y⟩:=ad0 i.Op;rw[I,z,F,y];dsimp only;have hp:i.Args.length<=1000000:=hp
 have s:(jo f i&&i.Args.all λa=>(iC f a).2)=false->KK false:=λe=>by grind [lP,pu]
 intro J o;have j:J (!jo f i):=o _ (by
  dsimp only;refine ifk (λhc=>s (by grind)) (λhc=>?_);have hf:jo f i=true:=by grind
  refine dJ i.Args (λ(q:List (List UInt8)) (k:Int)=>(q,k)) (λr q=>(i.Args.all λa=>(iC f a).2)=(r.all λa=>(iC f a).2)/\q++l4 f r=l4 f i.Args) (λR q k x r hi hx _ ih hq=>?_) (λR q hq=>?_) _ ⟨rfl,rfl⟩
  .rw[Int.toNat_natCast,hx]
   grind [l4,akT]
  obtain⟨q2,n⟩:=hq;dsimp only;intro hl;rw[if_neg (by simp)];have n:q=l4 f i.Args:=by grind [l4]
  rw[amV]at q2;unfold lP pu at h;rw[if_pos (by grind),alH]at h;unfold jo at hf;simp only[akI,decide_eq_true_eq]at hf;obtain⟨f1,G,B,f4⟩:=hf;have K:q.length=i.Args.length:=by grind [l4]
  rw[<- n]at h;obtain⟨o1,o2,o3,w,u⟩:=aaO _ f1;have hd:(Lt.Of i.Op).1.Dst=true->IX f i=(iz f i.Dst).1.Type_:=λh=>by grind [IX]
  generalize IX f i=v at h hd;generalize(iz f i.Dst).1.Type_=l at hd|-;clear s o;refine λC d=>?_
  have M:C (if(15<=i.Op/\i.Op<=21)\/i.Op=23 then [102,108,111,97,116]else [105,110,116]):=d _ (by
   dsimp only;generalize hw:(if(15<=i.Op/\i.Op<=21)\/i.Op=23 then [102,108,111,97,116]else [105,110,116]:List UInt8)=want;refine λA g=>?_
   have O:A (if(15<=i.Op/\i.Op<=18)\/i.Op=22 then [102,108,111,97,116]else [105,110,116]):=g _ (by
    dsimp only;generalize hs:(if(15<=i.Op/\i.Op<=18)\/i.Op=22 then [102,108,111,97,116]else [105,110,116]:List UInt8)=set;refine λm b=>?_
    have H:KK (q.all (λx=>decide (x=want))&&decide (l=set))->m ():=λhk=>b _ (by
     refine kK q (λx=>decide (x=want)) (decide (l=set)) KK (λR k x hk hx _ ih hf hl=>?_) (λR h hl=>?_) hk
     all_goals grind [Int.toNat_natCast])
    clear b g d;unfold vR at h;dsimp only at h;simp only[decide_eq_true_eq];have hv:(i.Op≠27/\i.Op≠30/\i.Op≠33/\i.Op≠34)->v=l:=λx=>hd (u x)
    have P:(i.Op≠25/\i.Op≠29/\i.Op≠31/\i.Op≠32/\i.Op≠34)->0<q.length:=λx=>by omega
    have l1:(i.Op=27\/i.Op=28)->1<q.length:=λx=>by omega
    clear o3 w u hd f1 G B f4 q2 n;by_cases c:i.Op=24
    .grind
    by_cases c:i.Op=25
    .simp[c,BN]at h|-;refine λJ o=>?_;grind
    by_cases c:i.Op=26
    .simp[c,am,aX,ac,gP]at h|-;grind
    by_cases c:i.Op=27
    .simp[c,am,aX,ac,gP]at h|-;grind
    by_cases c:i.Op=28
    .simp[c,am,aX,ac,Lw]at h|-;grind
    by_cases c:i.Op=29
    .grind [oc]
    by_cases c:i.Op=30
    .grind [oc]
    by_cases c:i.Op=31
    .simp[aX,ac]at h|-;grind
    by_cases c:i.Op=33
    .grind [iy]
    by_cases c:i.Op=34
    .grind
    by_cases c:i.Op=32
    .have h:KK ((gG p i.Name).2&&(decide ((q.length:Int)=(gG p i.Name).1.N)&&(q.all (λx=>decide (x=[105,110,116]))&&decide (l=[105,110,116])))):=by grind [lQ,af4]
     simp only[c,aX,ac]
     grind
    have h:KK (q.all (λx=>decide (x=want))&&decide (l=set)):=by grind [lQ,af4]
    grind)
   refine λD t=>?_
   grind)
  refine λL E=>?_
  grind)
 grind [jo]
end Go.Am
end

section
namespace Go.Am
open Go
open Lt (nmB toB Gd Rc uniq)
theorem No(f:Lt.Func)(s:List UInt8)(KK:Int×Bool->Prop)(h:KK (aR f s)):VO f s KK:=by
 refine ao _ f.Blocks.length (λi x=>x=(i:Int)/\KK (jE s (f.Blocks.drop i) (i:Int))) (λR i x hi⟨e,h⟩ih hl=>?_) (λR x⟨e,h⟩hl=>?_) 0 ⟨rfl,h⟩
 .rw[fE _ hi]at h
  grind [jE,ae]
 subst e;rw[if_neg (by simp)];rw[alM]at h;exact h
theorem Nj(f:Lt.Func)(i k:Int)(hp:rV f i k)(KK:Bool->Prop)(h:KK (ql f i k)):GD f i k KK:=by
 unfold GD;unfold ql at h;have hb:0<=i/\i.toNat<f.Blocks.length:=by obtain⟨a,b⟩:=hp;omega
 simp only[hb,true_and];generalize hT:(f.Blocks.getD i.toNat default).End.To=T;have c:toB f.Blocks i.toNat=T:=hT
 rw[c]at h;refine ao _ T.length (λj x=>x=(j:Int)/\KK ((T.drop j).any λs=>(aR f s).2&&decide ((aR f s).1=k))) (λR j x hj⟨e,h⟩ih hl=>?_) (λR x⟨e,h⟩hl=>?_) 0 ⟨rfl,h⟩
 .subst e;rw[fE _ hj,List.any_cons]at h;rw[if_pos (aW hj)];refine⟨ob hj,λJ d=>?_⟩
  grind [ae]
 grind
variable{f:Lt.Func}
theorem rD(b:uniq f.Blocks)(i k:Int):ql f i k=true ↔ 0<=k/\k.toNat<f.Blocks.length/\nmB f.Blocks k.toNat∈toB f.Blocks i.toNat:=by
 unfold ql;rw[List.any_eq_true];constructor
 .grind [dX,aR]
 rintro⟨h0,h1,h2⟩
 have h3:=(dX (nmB f.Blocks k.toNat) f.Blocks 0).2 ⟨k.toNat,h1,rfl⟩
 obtain⟨j,c,d,a⟩:=(dX _ f.Blocks 0).1 h3;have e:=b j k.toNat c h1 a
 grind [aR]
def FJ(f:Lt.Func)(l:List Bool):Prop:=l.length=f.Blocks.length/\∀k,l.getD k false=true->Rc f.Blocks k
theorem FJ.set{l:List Bool}(h:FJ f l){k:Nat}(hk:k<f.Blocks.length)(hr:Rc f.Blocks k):FJ f (l.set k true):=by
 refine⟨by rw[amL];exact h.1,λj hj=>?_⟩;have:=h.2 j
 grind
def ab4(f:Lt.Func)(l:List Bool)(i:Nat):Prop:=l.getD i false=true->∀k,k<f.Blocks.length->nmB f.Blocks k∈toB f.Blocks i->l.getD k false=true
theorem ab7(l:List Bool)(k:Nat):jl (l.set k true)<=jl l:=by
 cases h:l.getD k true with
 |false=>grind [lk]
 |true=>
  have e:l.set k true=l:=by
   rcases alY k l.length with h'|h'
   .refine alP λj=>?_
    grind
   exact List.set_eq_of_length_le h'
  grind
theorem TI(f:Lt.Func)(hp:KU f)(KK:List Bool->Prop)(h:∀y,DW f y->KK y):Pt f KK:=by
 unfold Pt;obtain⟨hp,O⟩:=hp;dsimp only;have hn:((f.Blocks.length:Int)).toNat=f.Blocks.length:=Int.toNat_natCast _
 intro _;refine⟨⟨by omega,by omega,by omega⟩,λ_=>?_⟩;have J:FJ f (List.replicate (f.Blocks.length:Int).toNat (dflt .bo)):=by
  refine⟨by simp,λk hk=>?_⟩;rw[List.getD,List.getElem?_replicate]at hk;split at hk
  .exact absurd hk (by decide)
  grind
 refine ml (λx=>FJ f x.1/\(x.2=true->0<f.Blocks.length)/\(x.2=false->0<f.Blocks.length->x.1.getD 0 false=true/\∀i,i<f.Blocks.length->ab4 f x.1 i)) (λx=>2*jl x.1+x.2.toNat) (λR x⟨hx,B,s⟩ih=>?_) _ ⟨J,λhb=>by grind,λhb h0=>by grind⟩
 obtain⟨l,b⟩:=x;dsimp only at hx B s ih|-;refine ifk (λhb=>?_) (λhb=>h l ⟨hx.1,λk hk=>⟨hx.2 k,λhr=>?_⟩⟩)
 rotate_left
 .obtain⟨h0,u⟩:=s (by grind) kQ1;induction hr with
  |first _=>exact h0
  |next i k _ hi hk hm ih=>exact u i hi (ih hi) k hk hm
 subst hb;have d:=B rfl
 have hl:=hx.1
 refine⟨⟨by omega,by omega⟩,by omega,?_⟩;have I:FJ f (l.set 0 true):=hx.set d (.first d)
 have S:=ab7 l 0
 refine ml (λv=>FJ f v.1/\v.1.getD 0 false=true/\jl v.1+v.2.1.toNat<=jl (l.set 0 true)/\0<=v.2.2/\v.2.2<=(f.Blocks.length:Int)/\(v.2.1=false->∀i:Nat,(i:Int)<v.2.2->ab4 f v.1 i)) (λv=>((f.Blocks.length:Int)-v.2.2).toNat) (λP v⟨h1,o,h2,h3,h4,h5⟩C=>?_) _ ⟨I,xb kQ1 _ _,by simp,by simp,by simp,λ_ i hi=>by grind⟩;obtain⟨l3,Y,i⟩:=v;dsimp only at h1 o h2 h3 h4 h5 C|-;intro _;have N:=h1.1
 rw[N];refine ifk (λhi=>?_) (λhi=>ih _ ⟨h1,λ_=>d,λhm _=>⟨o,λj hj=>h5 hm j (by grind)⟩⟩ ?_)
 rotate_left
 .grind
 have hi:i < (f.Blocks.length:Int):=by grind
 refine ml (λv=>FJ f v.1/\v.1.getD 0 false=true/\jl v.1+v.2.1.toNat<=jl (l.set 0 true)/\0<=v.2.2/\v.2.2<=(f.Blocks.length:Int)/\(v.2.1=false->(∀j:Nat,(j:Int)<i->ab4 f v.1 j)/\(v.1.getD i.toNat false=true->∀k:Nat,(k:Int)<v.2.2->nmB f.Blocks k∈toB f.Blocks i.toNat->v.1.getD k false=true))) (λv=>((f.Blocks.length:Int)-v.2.2).toNat) (λQ v⟨g1,n,g2,g3,g4,g5⟩r=>?_) _ ⟨h1,o,h2,by simp,by simp,λhm=>⟨h5 hm,λ_ k hk=>by grind⟩⟩;obtain⟨q,E,k⟩:=v;dsimp only at g1 n g2 g3 g4 g5 r|-;have F:=g1.1
 have c:(E=false->ab4 f q i.toNat)->P (q,E,i64.wrap (i+1)):=λu=>by
  rw[dF kQ1 kQ1];refine C _ ⟨g1,n,g2,by grind,by grind,λhm j hj=>?_⟩ (by grind);dsimp only at hj;rcases Int.lt_or_le (j:Int) i with h'|h'
  .grind
  grind (splits:=20)
 intro Z z;rw[F];intro _;refine ifk (λhk=>⟨⟨h3,hi⟩,z _ ?_⟩) (λhk=>z _ (by exact c λhm g k' w=>(g5 hm).2 g k' (by grind)))
 have hk:k < (f.Blocks.length:Int):=by grind
 dsimp only;refine ifk (λhm=>?_) (λhm=>c λ_ g=>absurd g hm);have K:Rc f.Blocks i.toNat:=g1.2 _ hm
 have on:∀p D,FJ f p->p.getD 0 false=true->jl p+D.toNat<=jl (l.set 0 true)->(D=false->p=q/\E=false/\(nmB f.Blocks k.toNat∈toB f.Blocks i.toNat->q.getD k.toNat false=true))->Q (p,D,i64.wrap (k+1)):=by
  intro p D k1 H k2 k3;rw[dF kQ1 kQ1];refine r _ ⟨k1,H,k2,by grind,by grind,λM=>?_⟩ (by grind);obtain⟨rfl,T,e3⟩:=k3 M;refine⟨(g5 T).1,λg k' w=>?_⟩;dsimp only at w;rcases Int.lt_or_le (k':Int) k with h'|h'
  .grind
  have:k'=k.toNat:=by omega
  grind
 intro J9 A W m;refine⟨⟨g3,by omega⟩,?_⟩;have X:k.toNat<q.length:=by omega
 refine ifk (λG=>⟨⟨h3,hi⟩,m _ ?_⟩) (λG=>m _ ?_)
 .dsimp only;refine ifk (λa=>?_) (λa=>A _ (on _ _ g1 n g2 λL=>⟨rfl,L,λt=>absurd ((rD O i k).2 ⟨g3,by omega,t⟩) a⟩));obtain⟨_,q2,V⟩:=(rD O i k).1 a;refine⟨⟨g3,by omega⟩,by omega,A _ (on _ _ (g1.set q2 (.next i.toNat k.toNat K kQ1 q2 V)) ?_ ?_ λe=>by cases e)⟩
  .grind [iv]
  have U:q.getD k.toNat true=false:=by grind
  grind [lk]
 grind
theorem NA(f:Lt.Func)(hp:afJ f)(KK:Bool->Prop)(h:KK (dR f)):GP f KK:=by
 unfold GP;have n:¬ Gd f.Blocks->KK false:=λw=>by grind [dR,tg]
 have kT:Gd f.Blocks->KK true:=λw=>by grind [dR,qi]
 have hn:f.Blocks.length<=1000000:=hp
 have r:∀s z,aR f s=(z,true)->∃k:Nat,k<f.Blocks.length/\z=(k:Int)/\nmB f.Blocks k=s:=λs z e=>by grind [dX,aR]
 have t:∀i,i<f.Blocks.length->(aR f (nmB f.Blocks i)).2=true:=λi hi=>(dX _ f.Blocks 0).2 ⟨i,hi,rfl⟩
 refine ao _ f.Blocks.length (λi x=>x=(i:Int)/\∀j,j<i->(aR f (nmB f.Blocks j)).1=(j:Int)/\(toB f.Blocks j).Nodup/\∀s∈toB f.Blocks j,(aR f s).2=true/\(aR f s).1≠0) (λR i x hi⟨hx,m⟩ih=>?_) (λR x⟨hx,m⟩=>?_) 0 ⟨rfl,λj hj=>by omega⟩
 .subst hx;dsimp only;intro _;rw[if_pos (aW hi)];refine⟨ob hi,?_⟩;rw[Int.toNat_natCast];refine ifk (λhc=>n λg=>?_) (λh1=>⟨⟨akQ i,hi⟩,?_⟩)
  .grind [Gd.nd]
  have h1:(aR f (nmB f.Blocks i)).1=(i:Int):=by grind
  have d:Gd f.Blocks->(toB f.Blocks i).Nodup/\∀s∈toB f.Blocks i,(aR f s).2=true/\(aR f s).1≠0:=λg=>⟨g.tn i hi,λs hs=>by grind [Gd.tr,Gd.nd]⟩
  have c:∀T,T=toB f.Blocks i->T.Nodup->(∀s∈T,(aR f s).2=true/\(aR f s).1≠0)->R (i64.wrap ((i:Int)+1)):=λT e a b=>ih _ ⟨ae kQ1,λj hj=>by grind⟩
  show ab _ _
  have d:Gd f.Blocks->(f.Blocks.getD i default).End.To.Nodup/\∀s∈(f.Blocks.getD i default).End.To,(aR f s).2=true/\(aR f s).1≠0:=d
  have c:=c (f.Blocks.getD i default).End.To rfl
  generalize(f.Blocks.getD i default).End.To=T at d c;refine vd T id (λs=>(aR f s).2=true/\(aR f s).1≠0) (KK false) (λo k s hk hx hm h1 h2 hl=>?_) (λo ho hd _=>?_) (λhd=>n λg=>hd (by grind [List.map_id]))
  .rw[if_pos (aW hk)];refine⟨ob hk,λJ v=>?_⟩;rw[Int.toNat_natCast,hx];have j:J (!(aR f s).2||decide ((aR f s).1=0)):=v _ (by
    refine ifk (λhc=>n λg=>?_) (λhc=>?_)
    .grind
    have:=p5 (l:=T) (nm:=id) (A:=KK false) (B:=o (i64.wrap ((k:Int)+1))) hk hl (by grind) (by grind)
    rw[hx]at this;rw[Int.toNat_natCast,hx];exact this)
   grind
  grind [List.map_id]
 subst hx;dsimp only;intro _;rw[if_neg (by simp)];have q:uniq f.Blocks:=λi j hi hj e=>by grind
 refine⟨⟨hn,q⟩,λy hy=>?_⟩;obtain⟨D,u⟩:=hy;refine ao _ y.length (λi x=>x=(i:Int)/\∀j,j<i->y.getD j false=true) (λR i x hi⟨hx,p⟩ih=>?_) (λR x⟨hx,p⟩=>?_) 0 ⟨rfl,λj hj=>by omega⟩
 .subst hx;intro _;rw[if_pos (aW hi)];refine⟨ob hi,?_⟩;rw[Int.toNat_natCast];refine ifk (λhc=>n λg=>?_) (λhc=>ih _ ⟨ae kQ1,λj hj=>?_⟩)
  all_goals grind [Gd.re]
 subst hx;intro _;rw[if_neg (by simp)];intro _;by_cases h0:0<f.Blocks.length
 .rw[decide_eq_true kQ1];refine kT ⟨h0,q,λi hi=>(m i hi).2.1,λi hi s hs=>?_,λk hk=>(u k hk).1 (p k kQ1)⟩;obtain⟨C,E⟩:=(m i hi).2.2 s hs
  grind
 rw[decide_eq_false kQ1];exact n λg=>h0 g.ps
end Go.Am
end

section
namespace Go.Am
open Go
open Lt (nmB toB Gd Rc uniq bkB phB dp Bare)
theorem I9(s:List UInt8):∀l:List (List UInt8),(l.filter λx=>Op.bytesLess x s).length+(l.filter λx=>!(Op.bytesLess x s||decide (x=s))).length<=l.length
 |[]=>akK _
 |x::l=>by
  have:=I9 s l
  grind
theorem Nq(l:List (List UInt8))(s:List UInt8)(hp:Zk l s)(KK:List (List UInt8)->Prop)(h:∀y,QS l s y->KK y):GJ l s KK:=by
 unfold GJ;have hp:l.length<=1000000:=hp
 have hf:=I9 s l
 have a:∀(p:List UInt8->Bool)i,((l.take i).filter p).length<=l.length:=λp i=>alV (List.length_filter_le _ _) (List.length_take_le' _ _)
 refine ao _ l.length (λi v=>v=((l.take i).filter (λx=>Op.bytesLess x s),(i:Int))) (λR i v hi e ih=>?_) (λR v e=>?_) _ rfl
 .subst e;have c:=a (λx=>Op.bytesLess x s) i
  dsimp only;intro _;rw[if_pos (aW hi)];refine λJ b=>⟨ob hi,?_⟩
  dsimp +instances only [Int.toNat_natCast]at b|-
  grind [ae,aZ]
 subst e;rw[List.take_length];have c:=a (λx=>Op.bytesLess x s) l.length
 rw[List.take_length]at c;dsimp only;intro _;rw[if_neg (by simp)];refine⟨⟨by grind,by grind⟩,?_⟩;refine ao _ l.length (λi v=>v=(l.filter (λx=>Op.bytesLess x s)++[s]++(l.take i).filter (λx=>!(Op.bytesLess x s||decide (x=s))),(i:Int))) (λR i v hi e ih=>?_) (λR v e=>?_) _ (by simp)
 .subst e;have d:=a (λx=>!(Op.bytesLess x s||decide (x=s))) i
  dsimp only;intro _;rw[if_pos (aW hi)];refine λJ b=>⟨ob hi,?_⟩
  dsimp +instances only [Int.toNat_natCast]at b|-
  have j:=b (l.filter (λx=>Op.bytesLess x s)++[s]++(l.take (i+1)).filter (λx=>!(Op.bytesLess x s||decide (x=s)))) (ih _ (by grind [ae]))
  rw[aZ l hi,List.filter_append]at j
  grind
 subst e;dsimp only;intro _;rw[if_neg (by simp),List.take_length];refine h _ ⟨by grind,λv=>?_⟩
 grind
theorem Np(l:List (List UInt8))(a:Lt.Arg)(hp:yE l a)(KK:List (List UInt8)->Prop)(h:∀y,rU l a y->KK y):GI l a KK:=by
 unfold GI;refine ifk (λhc=>⟨hp,λy⟨h1,h2⟩=>h y ⟨h1,λv=>?_⟩⟩) (λhc=>h l ⟨by omega,λv=>?_⟩)
 all_goals grind
def Eo(x:Lt.Instr):List Lt.Arg:=x.Args++(x.Frames.flatMap (λf=>f.Vars.map (·.A))++x.Objs.flatMap (·.Vals))
theorem U5(x:Lt.Instr):(Eo x).length=Ep x:=by grind [Eo,Ep,List.length_flatMap]
theorem U4(x:Lt.Instr)(v:List UInt8):pV x v ↔ ∃a∈Eo x,a.Kind=1/\a.S=v:=by
 unfold Eo pV;simp only[akS,amS,ak5]
 grind
def QU(KK:List (List UInt8)->Prop)(out:List (List UInt8))(r:List Lt.Arg):Prop:=out.length+r.length<=1000000/\∀y,(∀v,v∈y ↔ v∈out\/∃a∈r,a.Kind=1/\a.S=v)->KK y
variable{KK:List (List UInt8)->Prop}
theorem QU.step{out y:List (List UInt8)}{a:Lt.Arg}{r:List Lt.Arg}(h:QU KK out (a::r))(hy:rU out a y):QU KK y r:=by
 obtain⟨h1,h2⟩:=h;obtain⟨h3,h4⟩:=hy;refine⟨by grind,λz hz=>h2 z λv=>?_⟩
 grind
theorem zx{α:Type}[Inhabited α]{body:(List (List UInt8)×Int->Prop)->List (List UInt8)×Int->Prop}{rest:List Lt.Arg}(l:List α)(ar:α->Lt.Arg)
  (hs:∀R(i:Nat)out x,i<l.length->l.getD i default=x->out.length<=1000000->(l.length<=4611686018427387904->∀y,rU out (ar x) y->R (y,i64.wrap ((i:Int)+1)))->body R (out,(i:Int)))
  (a:∀R out,QU KK out rest->body R (out,(l.length:Int))) (out:List (List UInt8)) (h:QU KK out (l.map ar++rest)):ab body (out,0):=
 dJ l (λq i=>(q,i)) (λr out=>QU KK out (r.map ar++rest)) (λR out i x r hi hx _ ih h=>hs R i out x hi hx (by have:=h.1;omega) λhl y hy=>ih hl y (h.step hy)) (λR out h=>a R out h) out h
theorem JP(x:Lt.Instr)(hp:iT x)(KK:List (List UInt8)->Prop)(h:∀y,vj x y->KK y):CM x KK:=by
 unfold CM;have hp:Ep x<=1000000:=hp
 have hq:QU KK [] (Eo x):=⟨by grind [U5],λy hy=>h y λv=>by grind [U4]⟩
 refine zx x.Args id (λR i out a hi hx ho ih=>?_) (λR out hq=>?_) [] (rest:=x.Frames.flatMap (λf=>f.Vars.map (·.A))++x.Objs.flatMap (·.Vals)) (by simpa[Eo]using hq)
 .dsimp only;intro hl;rw[if_pos (aW hi)];refine⟨ob hi,ho,λy hy=>?_⟩
  grind
 dsimp only;intro _;rw[if_neg (by simp)];refine dJ x.Frames (λq i=>(q,i)) (λr out=>QU KK out (r.flatMap (λf=>f.Vars.map (·.A))++x.Objs.flatMap (·.Vals))) (λR out i f r hi hx _ ih hq=>?_) (λR out hq=>?_) out hq
 .dsimp only;intro hl;rw[if_pos (aW hi)];rw[alQ,al1]at hq;rw[Int.toNat_natCast,hx];refine zx f.Vars (·.A) (λR g out a b d ho e=>?_) (λR out hq=>?_) out hq
  .dsimp only;refine⟨⟨by omega,hi⟩,λc=>?_⟩;rw[if_pos (aW b)];refine⟨⟨by omega,hi⟩,ob b,ho,λy hy=>?_⟩
   grind
  grind
 dsimp only;intro _;rw[if_neg (by simp)];refine dJ x.Objs (λq i=>(q,i)) (λr out=>QU KK out (r.flatMap (·.Vals))) (λR out i f r hi hx _ ih hq=>?_) (λR out hq=>?_) out (by grind)
 .dsimp only;intro hl;rw[if_pos (aW hi)];rw[alQ]at hq;rw[Int.toNat_natCast,hx];refine zx f.Vals id (λR g out a b d ho e=>?_) (λR out hq=>?_) out (by simpa using hq)
  .dsimp only;refine⟨⟨by omega,hi⟩,λc=>?_⟩;rw[if_pos (aW b)];refine⟨⟨by omega,hi⟩,ob b,ho,λy hy=>?_⟩
   grind
  grind
 dsimp only;intro _;rw[if_neg (by simp)];exact hq.2 _ λv=>by simp
end Go.Am
end

section
namespace Go.Am
open Go
open Lt (nmB toB Gd Rc uniq bkB phB dp Bare eA)
variable{body:(Int->Prop)->Int->Prop}
theorem C6{α:Type}[Inhabited α](l:List α)(p:α->Bool)(KK:Bool->Prop)
  (hs:∀R i x,i<l.length->l.getD i default=x->x∈l->(p x=true->KK true)->(l.length<=4611686018427387904->p x=false->R (i64.wrap ((i:Int)+1)))->body R (i:Int))
  (a:∀R,KK false->body R (l.length:Int)) (h:KK (l.any p)):ab body 0:=
 b9 l (λr=>KK (r.any p)) (λR i x r h1 h2 h3 h4 h5=>hs R i x h1 h2 h3 (λhp=>by grind) (λhl hp=>h4 hl (by grind))) (λR h=>a R (by grind)) h
theorem Fb(f:Lt.Func)(v:List UInt8)(KK:Bool->Prop)(h:KK (qA f v)):L2 f v KK:=by
 have e:qA f v=f.Params.any λx=>decide (x.Name=v):=by grind [qA]
 rw[e]at h;refine C6 f.Params _ KK (λR i x hi hx hm h1 h2 hl=>?_) (λR h hl=>?_) h
 all_goals grind
theorem Nr(b:Lt.Block)(v:List UInt8)(KK:Bool->Prop)(h:KK (wV b v)):VP b v KK:=by
 have e:wV b v=b.Phis.any λx=>decide (x.Dst=v):=by grind [wV]
 rw[e]at h;refine C6 b.Phis _ KK (λR i x hi hx hm h1 h2 hl=>?_) (λR h hl=>?_) h
 all_goals grind
theorem JR(b:Lt.Block)(n:Int)(v:List UInt8)(hp:yF b n v)(KK:Bool->Prop)(h:KK (rX b n v)):CO b n v KK:=by
 unfold CO;unfold rX at h;obtain⟨h0,h1,h2⟩:=hp;obtain⟨n,rfl⟩:=alG h0;rw[Int.toNat_natCast]at h;have hs:∀i,i<b.Code.length->∀v,v∈eA b (i+1) ↔ v∈eA b i\/(v≠[]/\(b.Code.getD i default).Dst=v):=λi hi v=>by grind [eA,aZ]
 have hm:∀i,i<n->v∈eA b (i+1)->v∈eA b n:=λi hi hv=>by
  unfold eA at hv|-;have:b.Code.take (i+1)=(b.Code.take n).take (i+1):=by grind
  grind
 refine ao _ n (λi x=>x=(i:Int)/\v ∉ eA b i) (λR i x hi⟨e,hn⟩ih=>?_) (λR x⟨e,hn⟩=>?_) 0 ⟨rfl,by simp[eA]⟩
 .subst e;rw[if_pos (aW hi)];refine λJ a=>?_
  grind [Int.toNat_natCast,ae]
 grind
def CLv(f:Lt.Func)(v:List UInt8)(o:List Bool)(i:Nat):Prop:=v ∉ dp (bkB f i)->∀k,k<f.Blocks.length->nmB f.Blocks k∈toB f.Blocks i->v ∉ phB f k->o.getD k false=true
structure BI (f:Lt.Func) (v:List UInt8) (l o:List Bool):Prop where
 len:o.length=f.Blocks.length
 sd:∀k,o.getD k false=true->Bare f v k/\v ∉ phB f k
 mono:∀k,l.getD k false=true->o.getD k false=true
 less:o=l\/jl o<jl l
 cl:(∀i,i<f.Blocks.length->l.getD i false=true->CLv f v l i)->o=l
variable{o:List Bool}
theorem UN{k:Nat}(h:o.getD k false=true):o.set k true=o:=by
 refine alP λj=>?_
 grind
theorem BI.set{f:Lt.Func}{v:List UInt8}{l:List Bool}(h:BI f v l o){i k:Nat}(hi:i<f.Blocks.length)(ho:o.getD i false=true)(hs:v ∉ dp (bkB f i))(hk:k<f.Blocks.length)(he:nmB f.Blocks k∈toB f.Blocks i)(hp:v ∉ phB f k):BI f v l (o.set k true):=by
 have hl:k<o.length:=by grind [len]
 by_cases hc:o.getD k false=true
 .grind [UN]
 have hb:=h.sd i ho
 have hct:=lk o k (by grind)
 refine⟨by grind [len],λj hj=>?_,λj hj=>?_,?_,λhcl=>?_⟩
 .by_cases e:j=k
  .subst e;exact⟨.next i j hb.1 hb.2 hs hi hk he,hp⟩
  grind [sd]
 .grind [iv,mono]
 .rcases h.less with rfl|hlt
  all_goals omega
 have e:=h.cl hcl
 subst e;exact absurd (hcl i hi ho hs k hk he hp) hc
theorem JQ(f:Lt.Func)(v:List UInt8)(hp:FO f v)(KK:List Bool->Prop)(h:∀y,KR f v y->KK y):CN f v KK:=by
 unfold CN;obtain⟨hn,q,hu,d⟩:=hp;unfold wV rX qA;dsimp only;have hz:((f.Blocks.length:Int)).toNat=f.Blocks.length:=Int.toNat_natCast _
 rw[hz];intro _;have hr:(List.replicate f.Blocks.length (dflt .bo):List Bool).length=f.Blocks.length:=al4
 refine⟨⟨by omega,by omega,by omega⟩,λJ hJ=>?_⟩;have C:∀k,(List.replicate f.Blocks.length (dflt .bo):List Bool).getD k false=true->False:=λk hk=>by
  rw[List.getD,List.getElem?_replicate]at hk;split at hk
  .exact absurd hk (by decide)
  grind
 have j:J ((List.replicate f.Blocks.length (dflt .bo):List Bool).set 0 (!decide (v∈f.Params.map (·.Name))&&!decide (v∈phB f 0))):=hJ _ (by
  dsimp only;generalize g:(!decide (v∈f.Params.map (·.Name))&&!decide (v∈phB f 0))=b0;have L:((List.replicate f.Blocks.length (dflt .bo):List Bool).set 0 b0).length=f.Blocks.length:=by grind
  have A:∀k,((List.replicate f.Blocks.length (dflt .bo):List Bool).set 0 b0).getD k false=true->Bare f v k/\v ∉ phB f k:=λk hk=>by
   by_cases e:k=0
   .subst e;have g:v ∉ f.Params.map (·.Name)/\v ∉ phB f 0:=by grind
    exact⟨.first g.1,g.2⟩
   rw[List.getD,amN (λe'=>e e'.symm)]at hk;exact(C k hk).elim
  have E:(∀i,i<f.Blocks.length->((List.replicate f.Blocks.length (dflt .bo):List Bool).set 0 b0).getD i false=true->CLv f v ((List.replicate f.Blocks.length (dflt .bo):List Bool).set 0 b0) i)\/jl ((List.replicate f.Blocks.length (dflt .bo):List Bool).set 0 b0)+0+1<=f.Blocks.length:=by
   cases b0 with
   |false=>
    refine .inl λi hi hl=>?_
    by_cases e:i=0
    .grind
    rw[List.getD,amN (λe'=>e e'.symm)]at hl;exact(C i hl).elim
   |true=>
    have h1:=lk (List.replicate f.Blocks.length (dflt .bo):List Bool) 0 (by rw[List.getD,List.getElem?_replicate,if_pos q];rfl)
    grind [jl]
  refine ao _ f.Blocks.length (λt x=>x.2=(t:Int)/\x.1.length=f.Blocks.length/\(∀k,x.1.getD k false=true->Bare f v k/\v ∉ phB f k)/\(b0=true->x.1.getD 0 false=true)/\((∀i,i<f.Blocks.length->x.1.getD i false=true->CLv f v x.1 i)\/jl x.1+t+1<=f.Blocks.length)) (λW t x Y⟨e,h1,h2,h3,h4⟩R=>?_) (λW x⟨e,h1,h2,h3,h4⟩=>?_) _ ⟨rfl,L,A,λe=>by grind,E⟩
  .obtain⟨a,z⟩:=x;dsimp only at e h1 h2 h3 h4|-;subst e;intro _;rw[if_pos (aW Y)];have n:BI f v a a:=⟨h1,h2,λ_ h=>h,.inl rfl,λ_=>rfl⟩
   refine ao _ f.Blocks.length (λi x=>x.2=(i:Int)/\BI f v a x.1/\∀j,j<i->a.getD j false=true->CLv f v x.1 j) (λU i x hi⟨e,g1,g2⟩G=>?_) (λU x⟨e,g1,g2⟩=>?_) _ ⟨rfl,n,λj hj=>by omega⟩
   .obtain⟨b,z⟩:=x;dsimp only at e g1 g2|-;subst e;intro _;rw[if_pos (aW hi)];rw[Int.toNat_natCast];have ab:i<b.length:=by grind [BI.len]
    have m:∀o,BI f v a o->(∀k,b.getD k false=true->o.getD k false=true)->(a.getD i false=true->CLv f v o i)->U (o,i64.wrap ((i:Int)+1)):=λo ho hm hc=>G _ ⟨ae kQ1,ho,λj hj hl=>by
     rcases alY j i with h'|h'
     .exact λhs k hk D hp=>hm k (g2 j h' hl hs k hk D hp)
     grind⟩
    intro J7 r;have s:b.getD i default=b.getD i false:=rfl
    rw[s];have K:eA (bkB f i) (bkB f i).Code.length=dp (bkB f i):=by grind [eA,dp]
    have Q:yF (bkB f i) ((bkB f i).Code.length:Int) v:=⟨by omega,by omega,d _ (az _ hi)⟩
    refine λZ P=>⟨⟨by omega,by omega⟩,?_⟩
    have V:Z (!b.getD i false||decide (v∈dp (bkB f i))):=P _ (by
     dsimp only;refine ifk (λhc=>r _ (m _ g1 (λ_ h=>h) λhl hs=>?_)) (λhc=>?_)
     .grind [BI.mono]
     have hc:b.getD i false=true/\v ∉ dp (bkB f i):=by grind
     refine ao _ f.Blocks.length (λk x=>x.2=(k:Int)/\BI f v a x.1/\(∀j,b.getD j false=true->x.1.getD j false=true)/\∀j,j<k->nmB f.Blocks j∈toB f.Blocks i->v ∉ phB f j->x.1.getD j false=true) (λB k x hk⟨e,F,q2,N⟩u=>?_) (λB x⟨e,F,q2,N⟩=>?_) _ ⟨rfl,g1,λ_ h=>h,λj hj=>by omega⟩
     .obtain⟨o,z⟩:=x;dsimp only at e F q2 N|-;subst e;intro _;rw[if_pos (aW hk)];rw[Int.toNat_natCast];have l:k<o.length:=by grind [BI.len]
      have T:=rD hu (i:Int) (k:Int)
      rw[Int.toNat_natCast,Int.toNat_natCast]at T;have on:∀o',BI f v a o'->(∀j,o.getD j false=true->o'.getD j false=true)->(nmB f.Blocks k∈toB f.Blocks i->v ∉ phB f k->o'.getD k false=true)->B (o',i64.wrap ((k:Int)+1)):=λo' ho hm hc=>u _ ⟨ae kQ1,ho,λj hj=>hm j (q2 j hj),λj hj D hp=>by grind⟩
      intro aa c M p;refine⟨⟨by omega,by omega⟩,?_⟩;have ac:M (ql f (i:Int) (k:Int)&&!decide (v∈phB f k)):=p _ (by
       dsimp only;refine ifk (λS=>⟨⟨by omega,by omega⟩,l,c _ (on _ ?_ (λj hj=>?_) λ_ _=>xb l _ _)⟩) (λS=>c _ (on _ F (λ_ h=>h) λD hp=>?_))
       .grind [BI.set]
       .grind [iv]
       grind)
      grind
     obtain⟨o,z⟩:=x;subst e;intro _;rw[if_neg (by simp)];exact r _ (m _ F q2 λ_ _ k hk=>N k hk))
    have w:decide (v∈eA (bkB f i) (bkB f i).Code.length)=decide (v∈dp (bkB f i)):=by rw[K]
    refine ifk (λhc=>?_) (λhc=>⟨⟨by omega,hi⟩,⟨by omega,hi⟩,Q,?_⟩)
    .grind
    rw[show(!b.getD i false)=false from by grind,Bool.false_or,<- w]at V;exact V
   obtain⟨b,z⟩:=x;dsimp only at e g1 g2|-;subst e;intro _;rw[if_neg (by simp)];refine R _ ⟨ae kQ1,g1.len,g1.sd,λhb=>g1.mono 0 (h3 hb),?_⟩;dsimp only;rcases g1.less with e|X
   all_goals grind [BI.cl]
  obtain⟨a,z⟩:=x;subst e;intro _;rw[if_neg (by simp)];have I:=h4.resolve_right kQ1
  refine h _ ⟨h1,λk hk=>⟨h2 k,λ⟨hb,O⟩=>?_⟩⟩;induction hb with
  |first ag=>grind
  |next i k af ad H hi hk D ih=>exact I i hi (by grind) H k hk D O)
 grind
theorem Fa(f:Lt.Func)(b n:Int)(v:List UInt8)(hp:qx f b n v)(KK:Bool->Prop)(h:KK (gF f b n v)):L1 f b n v KK:=by
 obtain⟨hp,h1,h2,h3,h4⟩:=hp;obtain⟨i,rfl⟩:=alG h1;have hi:i<f.Blocks.length:=by omega
 refine⟨hp,λy⟨c,a⟩=>⟨ob kQ1,?_⟩⟩;rw[Int.toNat_natCast]at h4|-;unfold gF at h;rw[Int.toNat_natCast]at h;refine ifk (λhc=>?_) (λhc=>⟨⟨by omega,hi⟩,⟨h3,h4,hp.2.2.2 _ (az _ hi)⟩,?_⟩)
 all_goals grind [rX,eA,rz]
theorem eG(n:Nat)(Q:Nat->Prop)(N:Prop)(hs:∀R (i:Nat),i<n->(¬ Q i->N)->(n<=4611686018427387904->Q i->R (i64.wrap ((i:Int)+1)))->body R (i:Int))
  (a:∀R,(∀i,i<n->Q i)->body R (n:Int)) (hN:∀i,i<n->¬ Q i->N):ab body 0:=by
 refine ao _ n (λi x=>x=(i:Int)/\∀j,j<i->Q j) (λR i x hi⟨e,h⟩ih=>?_) (λR x⟨e,h⟩=>?_) 0 ⟨rfl,λj hj=>by omega⟩
 all_goals grind [ae]
def Tq(f:Lt.Func)(i:Nat)(x:Lt.In):Prop:=∀k,k<f.Blocks.length->nmB f.Blocks k=x.Block->nmB f.Blocks i∈toB f.Blocks k->x.A.Kind=1->zt f k x.A.S
theorem Fe(f:Lt.Func)(hp:QV f)(KK:Bool->Prop)(h:KK (gO f)):yZ f KK:=by
 unfold yZ;unfold gO at h;obtain⟨⟨L,hg,ag,z⟩,W⟩:=hp;have E:uniq f.Blocks:=hg.nd
 have pre:∀v,FO f v:=λv=>⟨L.1,hg.ps,E,λb hb=>(z b hb).2⟩
 have K:¬ ((∀k,k<f.Blocks.length->mU (λv=>¬ Bare f v k\/v∈phB f k) (bkB f k))/\sS f)->KK false:=λhn=>by grind [tg]
 have D:∀k,k<f.Blocks.length->¬ mU (λv=>¬ Bare f v k\/v∈phB f k) (bkB f k)->KK false:=λk hk hn=>K λa=>hn (a.1 k hk)
 have c:sS f ↔ ∀k,k<f.Blocks.length->∀x∈(bkB f k).Phis,∀i∈x.Ins,Tq f k i:=by
  constructor
  .exact λa k hk x hx i hi j hj h1 h2 h3=>a _ (az _ hk) x hx i hi j hj h1 h2 h3
  intro a b hb x hx i hi j hj h1 h2 h3;obtain⟨k,hk,e⟩:=alA.1 hb;have e:bkB f k=b:=by grind
  subst e;exact a k hk x hx i hi j hj h1 h2 h3
 have Y:∀k,k<f.Blocks.length->∀x∈(bkB f k).Phis,∀i∈x.Ins,¬ Tq f k i->KK false:=λk hk x hx i hi hn=>K λa=>hn (c.1 a.2 k hk x hx i hi)
 refine eG f.Blocks.length (λk=>mU (λv=>¬ Bare f v k\/v∈phB f k) (bkB f k)/\∀x∈(bkB f k).Phis,∀i∈x.Ins,Tq f k i) (KK false) (λR k hk hN ih=>?_) (λR hA _=>?_) (λk hk hn=>K λa=>hn ⟨a.1 k hk,c.1 a.2 k hk⟩)
 rotate_left
 .grind [qi]
 dsimp only;intro hl;rw[if_pos (aW hk),Int.toNat_natCast];refine⟨by omega,?_⟩;have hb:=z _ (az _ hk)
 have V:=W _ (az _ hk)
 have ih:=ih hl
 have D:=D k hk
 have Y:=Y k hk
 have u:∀(n:Nat)v,gF f (k:Int) (n:Int) v=true ↔ (¬ Bare f v k\/v∈phB f k)\/v∈eA (bkB f k) n:=λn v=>by grind [gF,rz,Int.toNat_natCast]
 have af:∀(n:Nat)v,n<=(bkB f k).Code.length->qx f (k:Int) (n:Int) v:=λn v hn=>⟨pre v,by omega,by omega,by omega,by grind⟩
 show ab _ _
 have ac:(bkB f k).Name=nmB f.Blocks k:=rfl
 have O:eA (bkB f k) (bkB f k).Code.length=dp (bkB f k):=by grind [eA,dp]
 refine eG (bkB f k).Code.length (λj=>∀v,pV ((bkB f k).Code.getD j default) v->(¬ Bare f v k\/v∈phB f k)\/v∈eA (bkB f k) j) (KK false) (λR3 j hj G Q=>?_) (λR3 U=>?_) (λj hj hn=>D λa=>hn (a.1 j hj))
 .intro X;rw[if_pos (aW hj)];refine⟨ob hj,V _ (az _ hj),λy hy=>?_⟩;refine eG y.length (λq=>(¬ Bare f (y.getD q default) k\/(y.getD q default)∈phB f k)\/(y.getD q default)∈eA (bkB f k) j) (KK false) (λR6 q hq ad ah ai=>?_) (λR6 ae _=>?_) (λq hq hn=>G λa=>hn (a _ ((hy _).1 (az _ hq))))
  .grind [Int.toNat_natCast]
  rw[if_neg (by simp)];refine Q X λv hv=>?_
  obtain⟨q,hq,e⟩:=alA.1 ((hy v).2 hv)
  grind
 intro _;rw[if_neg (by simp)];refine λJ hJ=>?_
 have p:=u (bkB f k).Code.length (bkB f k).End.A.S
 rw[O]at p;have j:J (decide (((bkB f k).End.Kind=2\/(bkB f k).End.Kind=3)/\(bkB f k).End.A.Kind=1)&&!gF f (k:Int) ((bkB f k).Code.length:Int) (bkB f k).End.A.S):=hJ _ (by
  dsimp only;refine ifk (λhc=>D λa=>?_) (λhc=>?_)
  .have:=a.2
   grind
  have t:mU (λv=>¬ Bare f v k\/v∈phB f k) (bkB f k):=⟨U,λh1 h2=>p.1 (by grind)⟩
  refine eG (bkB f k).Phis.length (λj=>∀i∈((bkB f k).Phis.getD j default).Ins,Tq f k i) (KK false) (λM j hj m w=>?_) (λM C=>?_) (λj hj hn=>by grind)
  .intro Z;rw[if_pos (aW hj),Int.toNat_natCast];generalize hI:((bkB f k).Phis.getD j default).Ins=I at m w;refine eG I.length (λq=>Tq f k (I.getD q default)) (KK false) (λP q hq l o=>?_) (λP aa=>?_) (λq hq hn=>m λa=>hn (a _ (az _ hq)))
   .refine⟨⟨by omega,hj⟩,λB=>?_⟩;rw[if_pos (aW hq),Int.toNat_natCast];refine⟨⟨by omega,hj⟩,⟨by omega,hq⟩,λT g=>?_⟩;generalize I.getD q default=x at l o g|-;have hn:Tq f k x->T false:=λa=>g _ (by grind)
    refine ifk (λh1=>ifk (λh2=>?_) (λh2=>hn λ_ _ _ _ h3=>absurd (decide_eq_true h3) h2)) (λh1=>hn λk' d e _ _=>?_)
    rotate_left
    .exact absurd ((dX x.Block f.Blocks 0).2 ⟨k',d,e⟩) h1
    obtain⟨k',d,e1,H⟩:=(dX x.Block f.Blocks 0).1 h1;have e1:(aR f x.Block).1=(k':Int):=by grind [aR]
    rw[e1];have s:=rD E (k':Int) (k:Int)
    rw[Int.toNat_natCast,Int.toNat_natCast]at s;refine⟨⟨by omega,by omega⟩,ifk (λh3=>?_) (λh3=>hn λk2 r N h4 _=>absurd (s.2 ⟨by omega,hk,?_⟩) h3)⟩
    rotate_left
    .rw[E k' k2 d r (H.trans N.symm)];exact h4
    rw[Int.toNat_natCast];have F:gF f (k':Int) ((bkB f k').Code.length:Int) x.A.S=true ↔ zt f k' x.A.S:=by grind [gF,zt,eA,dp,rz,Int.toNat_natCast]
    refine⟨⟨by omega,d⟩,⟨pre _,by omega,by omega,by omega,by grind [Int.toNat_natCast]⟩,g _ ?_⟩;refine ifk (λhc=>l λa=>?_) (λhc=>o B λk2 r N h4 h5=>?_)
    .have:=F.2 (a k' d H (s.1 h3).2.2 (of_decide_eq_true h2))
     grind
    rw[<- E k' k2 d r (H.trans N.symm)]
    grind
   grind [alA]
  intro _;rw[if_neg (by simp)];refine ih ⟨t,λx hx=>?_⟩;obtain⟨q,hq,e⟩:=alA.1 hx;have:=C q hq
  grind)
 grind
end Go.Am
end

section
namespace Go.Am
open Go
theorem JS(f:Lt.Func)(hp:vp f)(KK:Int->Prop)(h:KK (vw f)):Ru f KK:=by
 refine dJ f.Blocks (λn i=>(n,i)) (λr n=>KK (Lt.rsz r n)) (λR n i x r hi hx _ ih h=>?_) (λR n h=>?_) 0 h
 .intro hl;simp only[aW hi,Int.toNat_natCast,hx,hi,akQ,true_and];exact λ_=>ih hl _ h
 intro _;rw[if_neg (by simp)];exact h
theorem Ff(f:Lt.Func)(hp:vn f)(KK:Bool->Prop)(h:KK (qB f)):za f KK:=by
 unfold za;dsimp only;have hN:∀b∈f.Blocks,tK b=false->KK true:=λb hb e=>by grind [qB,mK]
 refine eG f.Blocks.length (λi=>tK (f.Blocks.getD i default)=true) (KK true) (λR i hi _ ih=>?_) (λR l=>?_) (λi hi hn=>hN _ (az _ hi) (by grind))
 .intro hl;rw[if_pos (aW hi),Int.toNat_natCast];have hz:(0:Int)<=(i:Int)/\i<f.Blocks.length:=by omega
  have a:=hN _ (az _ hi)
  have c:=hp _ (az _ hi)
  generalize f.Blocks.getD i default=b at a c ih;unfold tK at a ih;refine⟨hz,λ_=>ifk (λhc=>a ?_) (λhc=>?_)⟩
  .grind
  have hc:b.Phis.length=0:=by grind
  rw[decide_eq_true hc,alH]at a ih;refine eG b.Code.length (λj=>A8 (b.Code.getD j default)=true) (KK true) (λd j hj _ k=>?_) (λd g=>?_) (λj hj hn=>a (List.all_eq_false.2 ⟨_,az _ hj,hn⟩))
  .grind [A8,dF]
  grind [alA]
 grind [qB,mK,alA]
theorem Ns(p:Lt.Program)(f:Lt.Func)(hp:Zj p f)(KK:Int->Prop)(h:KK (Bi p f)):GK p f KK:=by
 unfold GK;unfold Bi at h;obtain⟨h1,h2,h3,h4,h5⟩:=hp;refine⟨h2.1,ifk (λhc=>?_) (λhc=>?_)⟩
 .grind
 have q:dR f=true:=by grind
 rw[if_neg (by grind)]at h;have hN:∀b∈f.Blocks,tX p f b=false->KK 4:=λb hb e=>by grind [kn]
 refine eG f.Blocks.length (λi=>tX p f (f.Blocks.getD i default)=true) (KK 4) (λR i hi _ ih=>?_) (λR o=>?_) (λi hi hn=>hN _ (az _ hi) (by grind))
 .intro hl;rw[if_pos (aW hi),Int.toNat_natCast];have hz:(0:Int)<=(i:Int)/\i<f.Blocks.length:=by omega
  have a:=hN _ (az _ hi)
  have c:=h1 _ (az _ hi)
  generalize f.Blocks.getD i default=b at a c ih;unfold tX at a ih;refine eG b.Code.length (λj=>lP p f (b.Code.getD j default)=true) (KK 4) (λn j hj g l=>?_) (λn k=>?_) (λj hj hn=>a (by grind))
  .refine⟨hz,λm=>?_⟩;rw[if_pos (aW hj),Int.toNat_natCast];refine⟨hz,⟨by omega,hj⟩,c _ (az _ hj),ifk (λd=>g ?_) (λd=>l m ?_)⟩
   all_goals grind
  have k:(b.Code.all λi=>lP p f i)=true:=akZ.2 λx hx=>by grind [alA]
  simp_all
 intro _;rw[if_neg (by simp)];have o:kn p f=true:=akZ.2 λx hx=>by grind [alA]
 refine⟨⟨⟨h2,rz.1 q,h3,h4⟩,h5⟩,ifk (λhc=>?_) (λhc=>?_)⟩
 all_goals grind
def VX(c:List UInt8)(a:List (List UInt8))(KK:(List UInt8)->Prop):Prop:=ab (α:=List UInt8×Int) (λe b=>(a.length<=4611686018427387904->if decide (b.2 < (a.length:Int))then(aa (α:=List UInt8) (λd=>if decide (0<b.2)then((b.1.length+([(32:UInt8)]:List UInt8).length<=4611686018427387904/\(b.1.length+([(32:UInt8)]:List UInt8).length)*1<=140737488355328)/\d (b.1++([(32:UInt8)]:List UInt8)))else(d b.1)) (λv4=>(0<=b.2/\b.2.toNat<a.length)/\(v4.length+(a.getD b.2.toNat default).length<=4611686018427387904/\(v4.length+(a.getD b.2.toNat default).length)*1<=140737488355328)/\e ((v4++(a.getD b.2.toNat default)),(i64.wrap (b.2+1)))))else((b.1.length+([(10:UInt8)]:List UInt8).length<=4611686018427387904/\(b.1.length+([(10:UInt8)]:List UInt8).length)*1<=140737488355328)/\KK (b.1++([(10:UInt8)]:List UInt8))))) (c,0)
def PI(d:List UInt8)(b:List UInt8)(a:List Lt.Var)(KK:(List UInt8)->Prop):Prop:=ab (α:=List UInt8×Int) (λe c=>(a.length<=4611686018427387904->if decide (c.2 < (a.length:Int))then((0<=c.2/\c.2.toNat<a.length)/\(0<=c.2/\c.2.toNat<a.length)/\(bW c.1 [b,(a.getD c.2.toNat default).Name,(a.getD c.2.toNat default).Type_])/\e ((iZ c.1 [b,(a.getD c.2.toNat default).Name,(a.getD c.2.toNat default).Type_]),(i64.wrap (c.2+1))))else(KK c.1))) (d,0)
def PH(a:Int)(KK:Int->Prop):Prop:=if decide (a < 0)then(KK (IntKind.u64.wrap (0 - (IntKind.u64.wrap a))))else(KK (IntKind.u64.wrap a))
def VV(a:Int)(KK:(List UInt8)->Prop):Prop:=aa (α:=List UInt8) (λd=>ab (α:=List UInt8×Int) (λc v4=>(10:Int)≠0/\(([(UInt8.ofNat (IntKind.u8.wrap (IntKind.u64.wrap (48+(Int.tmod v4.2 10)))).toNat)]:List UInt8).length+v4.1.length<=4611686018427387904/\(([(UInt8.ofNat (IntKind.u8.wrap (IntKind.u64.wrap (48+(Int.tmod v4.2 10)))).toNat)]:List UInt8).length+v4.1.length)*1<=140737488355328)/\(10:Int)≠0/\if decide ((IntKind.u64.wrap (Int.tdiv v4.2 10))=0)then(d (([(UInt8.ofNat (IntKind.u8.wrap (IntKind.u64.wrap (48+(Int.tmod v4.2 10)))).toNat)]:List UInt8)++v4.1))else(c ((([(UInt8.ofNat (IntKind.u8.wrap (IntKind.u64.wrap (48+(Int.tmod v4.2 10)))).toNat)]:List UInt8)++v4.1),(IntKind.u64.wrap (Int.tdiv v4.2 10))))) ([],(K4 a))) (λb=>if decide (a < 0)then([45].length+b.length<=4611686018427387904/\KK ([45]++b))else(KK b))
def PG(a:List UInt8)(KK:Bool->Prop):Prop:=ab (α:=Int) (λh d=>have c:=(((a.getD d.toNat 0).toNat:Nat):Int);have z3:=(decide (c < (((97:UInt8).toNat:Nat):Int)));have f:=(decide ((((122:UInt8).toNat:Nat):Int)<c));(a.length<=4611686018427387904->if decide (d < (a.length:Int))then((0<=d/\d.toNat<a.length)/\aa (α:=Bool) (λg=>if decide ((((48:UInt8).toNat:Nat):Int)<=c)then(g (decide (c<=(((57:UInt8).toNat:Nat):Int))))else(g false)) (λv4=>aa (α:=Bool) (λb=>if v4 then(if !(decide (0<d))then(if !decide (c=(((95:UInt8).toNat:Nat):Int))then(if decide (c < (((65:UInt8).toNat:Nat):Int))then(if z3 then(b true)else(b f))else(if decide ((((90:UInt8).toNat:Nat):Int)<c)then(if z3 then(b true)else(b f))else(b false)))else(b false))else(b false))else(if !decide (c=(((95:UInt8).toNat:Nat):Int))then(if decide (c < (((65:UInt8).toNat:Nat):Int))then(if z3 then(b true)else(b f))else(if decide ((((90:UInt8).toNat:Nat):Int)<c)then(if z3 then(b true)else(b f))else(b false)))else(b false))) (λj=>if j then(KK false)else(h (i64.wrap (d+1))))))else(aa (α:=Bool) (λe=>(a.length<=4611686018427387904->if decide (1<=(a.length:Int))then(if decide ((a.length:Int)<=16)then(if !decide (a=[110,117,108,108])then(if !decide (a=[105,110,116])then(e (!decide (a=[102,108,111,97,116])))else(e false))else(e false))else(e false))else(e false))) (λi=>KK i)))) 0
def GL(a:Int)(KK:Bool->Prop):Prop:=(9223372036854775808:Int)≠0/\KK (decide (9218868437227405312 < (Int.tmod (IntKind.u64.wrap a) 9223372036854775808)))
def GN(a:Int)(KK:Int->Prop):Prop:=if FR a then(KK 9221120237041090560)else(KK a)
def GO(a:Lt.Arg)(KK:Bool->Prop):Prop:=have d:=decide (a.Kind=4);have c:=decide (a.Kind=5);if decide (a.Kind=1)then(if be a.S then(KK (decide (a.N=0)))else(KK false))else(aa (α:=Bool) (λe=>if decide (a.Kind < 1)then(e true)else(if decide (5<a.Kind)then(e true)else(e (!decide (a.S=([]:List UInt8)))))) (λf=>if f then(KK false)else(aa (α:=Bool) (λb=>if decide (a.Kind=2)then((b true)/\(b true))else(if decide (a.Kind=3)then((if decide ((cG a.N)=a.N)then(b true)else(if d then(if decide (a.N=0)then(b true)else(if c then(if decide (0<=a.N)then(b (decide (a.N<=999)))else(b false))else(b false)))else(if c then(if decide (0<=a.N)then(b (decide (a.N<=999)))else(b false))else(b false))))/\(if decide ((cG a.N)=a.N)then(b true)else(if d then(if decide (a.N=0)then(b true)else(if c then(if decide (0<=a.N)then(b (decide (a.N<=999)))else(b false))else(b false)))else(if c then(if decide (0<=a.N)then(b (decide (a.N<=999)))else(b false))else(b false)))))else((if d then(if decide (a.N=0)then(b true)else(if c then(if decide (0<=a.N)then(b (decide (a.N<=999)))else(b false))else(b false)))else(if c then(if decide (0<=a.N)then(b (decide (a.N<=999)))else(b false))else(b false)))/\(if d then(if decide (a.N=0)then(b true)else(if c then(if decide (0<=a.N)then(b (decide (a.N<=999)))else(b false))else(b false)))else(if c then(if decide (0<=a.N)then(b (decide (a.N<=999)))else(b false))else(b false)))))) (λv4=>KK v4))))
def VU(b:Int)(KK:(List UInt8)->Prop):Prop:=ab (α:=Int×List UInt8×Int) (λd a=>if decide (a.2.2 < 16)then((16:Int)≠0/\aa (α:=UInt8) (λc=>if decide ((((UInt8.ofNat (IntKind.u8.wrap (Int.tmod a.1 16)).toNat).toNat:Nat):Int) < (((10:UInt8).toNat:Nat):Int))then(c (UInt8.ofNat (IntKind.u8.wrap ((((UInt8.ofNat (IntKind.u8.wrap (Int.tmod a.1 16)).toNat).toNat:Nat):Int)+(((48:UInt8).toNat:Nat):Int))).toNat))else(c (UInt8.ofNat (IntKind.u8.wrap ((((UInt8.ofNat (IntKind.u8.wrap (Int.tmod a.1 16)).toNat).toNat:Nat):Int)+(((87:UInt8).toNat:Nat):Int))).toNat))) (λv4=>(([v4]:List UInt8).length+a.2.1.length<=4611686018427387904/\(([v4]:List UInt8).length+a.2.1.length)*1<=140737488355328)/\(16:Int)≠0/\d ((IntKind.u64.wrap (Int.tdiv a.1 16)),(([v4]:List UInt8)++a.2.1),(i64.wrap (a.2.2+1)))))else([48,102].length+a.2.1.length<=4611686018427387904/\KK ([48,102]++a.2.1))) ((IntKind.u64.wrap (cG b)),[],0)
def PK(a:Lt.Arg)(KK:(List UInt8)->Prop):Prop:=if !(kc a)then(KK ([]:List UInt8))else(if decide (a.Kind=1)then(KK a.S)else(if decide (a.Kind=2)then((gA a.N)/\KK (kA a.N))else(if decide (a.Kind=3)then(KK (mL a.N))else(if decide (a.Kind=4)then(KK [110,117,108,108])else((gA a.N)/\[35].length+(kA a.N).length<=4611686018427387904/\KK ([35]++(kA a.N)))))))
def VW(a:Int)(KK:(Lt.RForm×Bool)->Prop):Prop:=have d:=gw.getD a.toNat default;have z4:=Lt.RForm.mk d false (decide (a<=32)) 0 0;have z3:=Lt.RForm.mk d (!decide (a=34)) true 0 0;have c:=Lt.RForm.mk d false true 0 0;aa (α:=Bool) (λk=>if decide (a < 1)then(k true)else(k (decide (34<a)))) (λm=>if m then(KK ((Lt.RForm.mk ([]:List UInt8) false false 0 0),false))else(aa (α:=Lt.RForm) (λb=>((0:Int)<=a/\a < ((35:Nat):Int))/\a.toNat<gw.length/\if !decide (a=27)then(if !decide (a=30)then(if !decide (a=33)then(if decide (a=25)then(b z3)else(if decide (a=26)then(b z3)else(if decide (a=27)then(b z3)else(if decide (29<=a)then(b (Lt.RForm.mk d (!decide (a=34)) (decide (a<=32)) 0 0))else(b (Lt.RForm.mk d (!decide (a=34)) false 0 0))))))else(if decide (a=25)then(b c)else(if decide (a=26)then(b c)else(if decide (a=27)then(b c)else(if decide (29<=a)then(b z4)else(b (Lt.RForm.mk d false false 0 0)))))))else(if decide (a=25)then(b c)else(if decide (a=26)then(b c)else(if decide (a=27)then(b c)else(if decide (29<=a)then(b z4)else(b (Lt.RForm.mk d false false 0 0)))))))else(if decide (a=25)then(b c)else(if decide (a=26)then(b c)else(if decide (a=27)then(b c)else(if decide (29<=a)then(b z4)else(b (Lt.RForm.mk d false false 0 0))))))) (λv4=>aa (α:=Lt.RForm) (λg=>aa (α:=Bool) (λe=>if decide (a=22)then(e (decide (a=22)))else(if decide (a=23)then(e (decide (a=23)))else(if decide (a=24)then(e (decide (a=24)))else(if decide (a=26)then(e (decide (a=26)))else(if decide (a=30)then(e (decide (a=30)))else(e (decide (a=33)))))))) (λl=>if l then(g (Lt.RForm.mk v4.Word v4.Dst v4.Named 1 1))else(aa (α:=Bool) (λj=>if decide (a=25)then(j (decide (a=25)))else(if decide (a=31)then(j (decide (a=31)))else(j (decide (a=32))))) (λi=>if i then(g (Lt.RForm.mk v4.Word v4.Dst v4.Named v4.Least 8))else(aa (α:=Bool) (λf=>if decide (a=29)then(f (decide (a=29)))else(f (decide (a=34)))) (λh=>if h then(g (Lt.RForm.mk v4.Word v4.Dst v4.Named v4.Least 0))else(g (Lt.RForm.mk v4.Word v4.Dst v4.Named 2 2)))))))) (λn=>KK (n,true)))))
def PD(c:List (List UInt8))(a:List Lt.Arg)(KK:(List (List UInt8))->Prop):Prop:=ab (α:=List (List UInt8)×Int) (λd b=>(a.length<=4611686018427387904->if decide (b.2 < (a.length:Int))then((0<=b.2/\b.2.toNat<a.length)/\(fQ (a.getD b.2.toNat default))/\(b.1.length+([(cv (a.getD b.2.toNat default))]:List (List UInt8)).length<=4611686018427387904/\(b.1.length+([(cv (a.getD b.2.toNat default))]:List (List UInt8)).length)*16<=140737488355328)/\d ((b.1++([(cv (a.getD b.2.toNat default))]:List (List UInt8))),(i64.wrap (b.2+1))))else(KK b.1))) (c,0)
def PE(f:List UInt8)(a:Lt.Instr)(KK:(List UInt8)->Prop):Prop:=have j:=([a.Name]:List (List UInt8));have z4:=([((Lt.rOf a.Op).1).Word]:List (List UInt8));aa (α:=List (List UInt8)) (λy=>if ((Lt.rOf a.Op).1).Dst then((([]:List (List UInt8)).length+([a.Dst,[61]]:List (List UInt8)).length<=4611686018427387904/\(([]:List (List UInt8)).length+([a.Dst,[61]]:List (List UInt8)).length)*16<=140737488355328)/\y [a.Dst,[61]])else(y [])) (λi=>have z9:=xI (i++z4) ((a.Args.drop 0).take (1 - 0));(i.length+z4.length<=4611686018427387904/\(i.length+z4.length)*16<=140737488355328)/\aa (α:=List (List UInt8)) (λw=>aa (α:=Bool) (λs=>if decide (a.Op=26)then(s (decide (0 < (a.Args.length:Int))))else(if decide (a.Op=27)then(s (decide (0 < (a.Args.length:Int))))else(s false))) (λC=>if C then((0:Int)<=1/\(0<=1/\1<=a.Args.length)/\(qz (i++z4) ((a.Args.drop 0).take (1 - 0)))/\(z9.length+j.length<=4611686018427387904/\(z9.length+j.length)*16<=140737488355328)/\(0:Int)<=1/\(1<=a.Args.length/\a.Args.length<=a.Args.length)/\(qz (z9++j) ((a.Args.drop 1).take (a.Args.length - 1)))/\w (xI (z9++j) ((a.Args.drop 1).take (a.Args.length - 1))))else(aa (α:=List (List UInt8)) (λx=>if ((Lt.rOf a.Op).1).Named then(((i++z4).length+j.length<=4611686018427387904/\((i++z4).length+j.length)*16<=140737488355328)/\x ((i++z4)++j))else(x (i++z4))) (λz=>(qz z a.Args)/\w (xI z a.Args))))) (λv4=>(bW f v4)/\ab (α:=List UInt8×Int) (λB d=>have g:=(0<=d.2/\d.2.toNat<a.Frames.length);have e:=a.Frames.getD d.2.toNat default;(a.Frames.length<=4611686018427387904->if decide (d.2 < (a.Frames.length:Int))then(aa (α:=List (List UInt8)) (λl=>have v:=g/\(g/\(gA (e.At))/\l [[97,116],e.Func,e.Block,(kA (e.At))])/\((gA (e.At))/\g/\l [[97,116],e.Func,e.Block,(kA (e.At))]);g/\v/\v/\((gA (e.At))/\g/\g/\l [[97,116],e.Func,e.Block,(kA (e.At))])) (λq=>ab (α:=List (List UInt8)×Int) (λt b=>have k:=(0<=b.2/\b.2.toNat < (e.Vars).length);have h:=(e.Vars).getD b.2.toNat default;have z3:=([h.Name,(cv (h.A))]:List (List UInt8));have n:=b.1.length+z3.length<=4611686018427387904/\(b.1.length+z3.length)*16<=140737488355328;g/\((e.Vars).length<=4611686018427387904->if decide (b.2 < ((e.Vars).length:Int))then(aa (α:=List (List UInt8)) (λo=>g/\k/\(g/\k/\(fQ (h.A))/\n/\o (b.1++z3))/\((fQ (h.A))/\g/\k/\n/\o (b.1++z3))) (λu=>t (u,(i64.wrap (b.2+1)))))else((bW d.1 b.1)/\B ((iZ d.1 b.1),(i64.wrap (d.2+1)))))) (q,0)))else(ab (α:=List UInt8×Int) (λr c=>have m:=a.Objs.getD c.2.toNat default;(a.Objs.length<=4611686018427387904->if decide (c.2 < (a.Objs.length:Int))then(aa (α:=List UInt8) (λp=>have z5:=((0<=c.2/\c.2.toNat<a.Objs.length)/\(qz [[111,98,106],m.Class] (m.Vals))/\(bW c.1 (xI [[111,98,106],m.Class] (m.Vals)))/\p (iZ c.1 (xI [[111,98,106],m.Class] (m.Vals))));(0<=c.2/\c.2.toNat<a.Objs.length)/\z5/\z5) (λv20=>r (v20,(i64.wrap (c.2+1)))))else(KK c.1))) (d.1,0)))) ((iZ f v4),0)))
def PF(b:List UInt8)(a:Lt.Term)(KK:(List UInt8)->Prop):Prop:=have d:=([(kA a.N)]:List (List UInt8));have c:=([([]:List UInt8),[106,117,109,112],[98,114,97,110,99,104],[114,101,116],[116,114,97,112]].getD a.Kind.toNat default);aa (α:=Bool) (λi=>if decide (a.Kind < 1)then(i true)else(i (decide (4<a.Kind)))) (λj=>if j then(KK b)else(((0:Int)<=a.Kind/\a.Kind < (([([]:List UInt8),[106,117,109,112],[98,114,97,110,99,104],[114,101,116],[116,114,97,112]].length:Nat):Int))/\aa (α:=List (List UInt8)) (λg=>aa (α:=Bool) (λf=>if decide (a.Kind=2)then(f true)else(f (decide (a.Kind=3)))) (λk=>if k then((fQ a.A)/\(([c]:List (List UInt8)).length+([(cv a.A)]:List (List UInt8)).length<=4611686018427387904/\(([c]:List (List UInt8)).length+([(cv a.A)]:List (List UInt8)).length)*16<=140737488355328)/\g [c,(cv a.A)])else(g [c]))) (λv4=>(v4.length+a.To.length<=4611686018427387904/\(v4.length+a.To.length)*16<=140737488355328)/\aa (α:=List (List UInt8)) (λh=>if decide (a.Kind=4)then((gA a.N)/\((v4++a.To).length+d.length<=4611686018427387904/\((v4++a.To).length+d.length)*16<=140737488355328)/\h ((v4++a.To)++d))else(h (v4++a.To))) (λe=>(bW b e)/\KK (iZ b e)))))
def GM(a:Lt.Program)(KK:(List UInt8)->Prop):Prop:=aa (α:=List UInt8) (λF=>if a.SSA then((bW [] [[115,115,97]])/\F (iZ [] [[115,115,97]]))else(F [])) (λL=>ab (α:=List UInt8×Int) (λJ v4=>have q:=(0<=v4.2/\v4.2.toNat<a.Classes.length);have m:=a.Classes.getD v4.2.toNat default;have g:=iZ v4.1 [[99,108,97,115,115],m.Name];(a.Classes.length<=4611686018427387904->if decide (v4.2 < (a.Classes.length:Int))then(aa (α:=List UInt8) (λI=>have H:=(q/\(bW v4.1 [[99,108,97,115,115],m.Name])/\(dP g [102,105,101,108,100] (m.Fields))/\I (qE g [102,105,101,108,100] (m.Fields)));q/\(((bW v4.1 [[99,108,97,115,115],m.Name])/\q/\(dP g [102,105,101,108,100] (m.Fields))/\I (qE g [102,105,101,108,100] (m.Fields)))/\H)/\H) (λK=>J (K,(i64.wrap (v4.2+1)))))else((dP v4.1 [103,108,111,98,97,108] a.Globals)/\ab (α:=List UInt8×Int) (λM l=>have p:=(0<=l.2/\l.2.toNat<a.Externs.length);have r:=a.Externs.getD l.2.toNat default;have z21:=iZ l.1 [[101,120,116,101,114,110],r.Name,(kA (r.N))];have z20:=bW l.1 [[101,120,116,101,114,110],r.Name,(kA (r.N))];(a.Externs.length<=4611686018427387904->if decide (l.2 < (a.Externs.length:Int))then(aa (α:=List UInt8) (λG=>p/\(p/\(gA (r.N))/\z20/\G z21)/\((gA (r.N))/\p/\z20/\G z21)) (λD=>M (D,(i64.wrap (l.2+1)))))else(ab (α:=List UInt8×Int) (λC c=>have e:=a.Funcs.getD c.2.toNat default;have o:=iZ c.1 [[102,117,110,99],e.Name,e.Result];have h:=bW c.1 [[102,117,110,99],e.Name,e.Result];have j:=qE o [112,97,114,97,109] (e.Params);(a.Funcs.length<=4611686018427387904->if decide (c.2 < (a.Funcs.length:Int))then((0<=c.2/\c.2.toNat<a.Funcs.length)/\aa (α:=List UInt8) (λs=>have z3:=(dP o [112,97,114,97,109] (e.Params))/\(dP j [118,97,114] (e.Vars))/\s (qE j [118,97,114] (e.Vars));have k:=h/\(dP o [112,97,114,97,109] (e.Params))/\(dP j [118,97,114] (e.Vars))/\s (qE j [118,97,114] (e.Vars));((h/\z3/\z3)/\((h/\z3/\z3)/\k)/\(k/\k))/\(((h/\z3/\z3)/\k)/\k)/\((k/\k)/\k)) (λB=>ab (α:=List UInt8×Int) (λw d=>have z4:=(e.Blocks).getD d.2.toNat default;have u:=Lt.Term.mk ((z4.End).Kind) ((z4.End).A) ((z4.End).To) ((z4.End).N);((e.Blocks).length<=4611686018427387904->if decide (d.2 < ((e.Blocks).length:Int))then((0<=d.2/\d.2.toNat < (e.Blocks).length)/\(bW d.1 [[98,108,111,99,107],z4.Name])/\ab (α:=List UInt8×Int) (λx b=>have f:=(0<=b.2/\b.2.toNat < (z4.Phis).length);have z9:=((z4.Phis).getD b.2.toNat default).Ins;((z4.Phis).length<=4611686018427387904->if decide (b.2 < ((z4.Phis).length:Int))then(f/\ab (α:=List (List UInt8)×Int) (λz v20=>have i:=z9.getD v20.2.toNat default;have n:=(0<=v20.2/\v20.2.toNat<z9.length);have z5:=([i.Block,(cv (i.A))]:List (List UInt8));have v:=v20.1.length+z5.length<=4611686018427387904/\(v20.1.length+z5.length)*16<=140737488355328;f/\(z9.length<=4611686018427387904->if decide (v20.2 < (z9.length:Int))then(aa (α:=List (List UInt8)) (λt=>f/\n/\(f/\n/\(fQ (i.A))/\v/\t (v20.1++z5))/\((fQ (i.A))/\f/\n/\v/\t (v20.1++z5))) (λE=>z (E,(i64.wrap (v20.2+1)))))else((bW b.1 v20.1)/\x ((iZ b.1 v20.1),(i64.wrap (b.2+1)))))) ([[112,104,105],((z4.Phis).getD b.2.toNat default).Dst],0))else(ab (α:=List UInt8×Int) (λy v24=>((z4.Code).length<=4611686018427387904->if decide (v24.2 < ((z4.Code).length:Int))then((0<=v24.2/\v24.2.toNat < (z4.Code).length)/\(KX v24.1 ((z4.Code).getD v24.2.toNat default))/\y ((Zt v24.1 ((z4.Code).getD v24.2.toNat default)),(i64.wrap (v24.2+1))))else((Ba v24.1 u)/\w ((Zv v24.1 u),(i64.wrap (d.2+1)))))) (b.1,0)))) ((iZ d.1 [[98,108,111,99,107],z4.Name]),0))else(C (d.1,(i64.wrap (c.2+1)))))) (B,0)))else(KK c.1))) (l.1,0)))) ((qE v4.1 [103,108,111,98,97,108] a.Globals),0)))) (L,0))
theorem gU{n:Nat}(h:n < 10):Lt.digs n=[UInt8.ofNat (48+n)]:=by grind [Lt.digs]
theorem ni{n:Nat}(h:¬ n < 10):Lt.digs n=Lt.digs (n / 10)++[UInt8.ofNat (48+n % 10)]:=by grind [Lt.digs]
theorem zX:(k n:Nat)->n < 10 ^ (k+1)->(Lt.digs n).length<=k+1
 |0,n,h=>by grind [gU]
 |k+1,n,h=>by
  by_cases a:n < 10
  .grind [gU]
  rw[ni a];have:=zX k (n / 10) kQ1
  grind
variable{n:Int}
theorem o7(h:Lt.inR n):(aQ n).length<=20:=by
 unfold Lt.inR at h;have:=zX 18 n.natAbs kQ1
 grind [aQ]
theorem cK{n:Nat}(h:n < 18446744073709551616):IntKind.u64.wrap (n:Int)=(n:Int):=by grind [IntKind.wrap,IntKind.signed,IntKind.bits]
variable{α:Type}
theorem Qu(f g:α->List UInt8)(l:List α):(l.flatMap λb=>[f b,g b]).length=2*l.length:=by induction l<;>grind
variable{β:Type}
theorem Dh[Inhabited α](f:α->List β)(l:List α){i:Nat}(h:i<l.length):(l.take (i+1)).flatMap f=(l.take i).flatMap f++f (l.getD i default):=by grind [aZ]
theorem fy[Inhabited α](l:List α)(g:α->List β)(out:List β)(body:(List β×Int->Prop)->List β×Int->Prop)
  (hs:∀R i b,l.length<=LEN->i<l.length->b=out++(l.take i).flatMap g->R (b++g (l.getD i default),i64.wrap ((i:Int)+1))->body R (b,(i:Int)))
  (a:∀R,l.length<=LEN->body R (out++l.flatMap g,(l.length:Int))):ab (λR v=>l.length<=4611686018427387904->body R v) (out,0):=by
 by_cases hl:l.length<=LEN
 .refine Jy l.length hl (λi=>out++(l.take i).flatMap g) _ (λR i hi ih _=>?_) (λR _=>?_) (by simp)
  all_goals grind [Dh]
 exact⟨1,λh=>absurd h hl⟩
theorem jB[Inhabited α](g:α->List β)(l:List α){i:Nat}(h:i<l.length):((l.take i).flatMap g).length+(g (l.getD i default)).length<=(l.flatMap g).length:=by
 have e:l.flatMap g=(l.take (i+1)).flatMap g++(l.drop (i+1)).flatMap g:=by grind [amI]
 grind [Dh]
theorem afG:(ws:List (List UInt8))->ws.length<=(Lt.jw true ws).length
 |[]=>by simp
 |w::r=>by
  have:=afG r
  grind [Lt.jw]
theorem AE(ws:List (List UInt8)):ws.length<=(Lt.lnT ws).length:=by unfold Lt.lnT;cases ws<;>grind [afG,Lt.jw]
theorem Yx(out:List UInt8)(l:List (List UInt8))(hp:bW out l)(KK:List UInt8->Prop)(h:KK (iZ out l)):VX out l KK:=by
 unfold VX;(try simp only[ac,am,ap,jval,bor,band,bnand,bimp,and_self]);unfold bW Lt.room at hp;by_cases hl:l.length<=LEN
 rotate_left
 .exact⟨1,λh=>absurd h hl⟩
 have c:(iZ out l).length<=1099511627776:=by grind [iZ]
 refine ao _ l.length (λi x=>∃b,x=(b,(i:Int))/\b++Lt.jw (decide (0<i)) (l.drop i)++[10]=iZ out l) (λR i x hi a g=>?_) (λR x a=>?_) _ ⟨out,rfl,by simp[iZ,Lt.lnT]⟩
 .obtain⟨b,rfl,e⟩:=a;have d:l.getD i default=l[i]:=by grind
  rw[akX hi,Lt.jw,<- d]at e;have el:=congrArg List.length e
  simp only[ak6,ak3,ak8]at el;simp only[aW hi,if_true,Int.toNat_natCast]
  try dsimp +instances only [Int.toNat_natCast]
  intro _ J f;have hj:J (b++(if decide (0<i)=true then [32]else [])):=by
   refine f _ ⟨⟨akQ i,hi⟩,?_,?_⟩
   .grind
   grind [ae]
  grind
 grind [Lt.jw]
theorem TY(out first:List UInt8)(l:List Lt.Var)(hp:dP out first l)(KK:List UInt8->Prop)(h:KK (qE out first l)):PI out first l KK:=by
 unfold PI;(try simp only[ac,am,ap,jval,bor,band,bnand,bimp,and_self]);unfold dP ke at hp;refine fy l (λv=>Lt.lnT [first,v.Name,v.Type_]) out _ (λR i b hl hi hb ih=>?_) (λR hl=>?_)
 .simp only[aW hi,if_true,Int.toNat_natCast]
  try dsimp +instances only [Int.toNat_natCast]
  have:=jB (λv:Lt.Var=>Lt.lnT [first,v.Name,v.Type_]) l hi
  refine⟨⟨akQ i,hi⟩,⟨akQ i,hi⟩,?_,ih⟩
  grind [bW]
 simp only[kw,akP,if_false];exact h
theorem TX(n:Int)(KK:Int->Prop)(h:KK (K4 n)):PH n KK:=by grind [PH,K4]
theorem Zz(h:Lt.inR n):K4 n=(n.natAbs:Int):=by grind [Lt.inR,K4,IntKind.wrap,IntKind.signed,IntKind.bits]
theorem Yw(n:Int)(hp:gA n)(KK:List UInt8->Prop)(h:KK (kA n)):VV n KK:=by
 unfold gA at hp;unfold VV;(try simp only[ac,am,ap,jval,bor,band,bnand,bimp,and_self]);rw[Zz hp];have g:=zX 18 n.natAbs (by grind [Lt.inR])
 unfold Lt.inR at hp;intro J j;have hj:J (Lt.digs n.natAbs):=by grind [kA,aQ]
 have step:∀(m:Nat)(a:List UInt8)(R:List UInt8×Int->Prop),m<=9223372036854775808->Lt.digs m++a=Lt.digs n.natAbs->(¬ m < 10->R (UInt8.ofNat (48+m % 10)::a,((m / 10:Nat):Int))) ->
   (10:Int)≠0/\(([UInt8.ofNat (IntKind.u8.wrap (IntKind.u64.wrap (48+Int.tmod (m:Int) 10))).toNat]:List UInt8).length+a.length<=4611686018427387904/\(([UInt8.ofNat (IntKind.u8.wrap (IntKind.u64.wrap (48+Int.tmod (m:Int) 10))).toNat]:List UInt8).length+a.length)*1<=140737488355328)/\(10:Int)≠0 /\
    if decide (IntKind.u64.wrap (Int.tdiv (m:Int) 10)=0)=true then J ([UInt8.ofNat (IntKind.u8.wrap (IntKind.u64.wrap (48+Int.tmod (m:Int) 10))).toNat]++a)
    else R ([UInt8.ofNat (IntKind.u8.wrap (IntKind.u64.wrap (48+Int.tmod (m:Int) 10))).toNat]++a,IntKind.u64.wrap (Int.tdiv (m:Int) 10)):=by
  intro m a R hm e f;have w:IntKind.u64.wrap (48+Int.tmod (m:Int) 10)=((48+m % 10:Nat):Int):=by grind [cK]
  have w2:UInt8.ofNat (IntKind.u8.wrap ((48+m % 10:Nat):Int)).toNat=UInt8.ofNat (48+m % 10):=by grind [IntKind.wrap,IntKind.bits]
  have w3:IntKind.u64.wrap (Int.tdiv (m:Int) 10)=((m / 10:Nat):Int):=by rw[show Int.tdiv (m:Int) 10=((m / 10:Nat):Int)from rfl];exact cK kQ1
  grind [gU]
 refine ao _ 20 (λi x=>∃(m:Nat)(a:List UInt8),x=(a,(m:Int))/\m < 10 ^ (20-i)/\m<=9223372036854775808/\Lt.digs m++a=Lt.digs n.natAbs) (λR i x hi c f=>?_) (λR x c=>?_) _ ⟨n.natAbs,[],rfl,by omega,by omega,by simp⟩
 .obtain⟨m,a,rfl,hm,b,e⟩:=c;refine step m a R b e (λd=>f _ ⟨m / 10,_,rfl,?_,by omega,?_⟩)
  .rw[show 20-i=(20 - (i+1))+1 by omega,Nat.pow_succ]at hm;omega
  grind [ni]
 obtain⟨m,a,rfl,hm,b,e⟩:=c;exact step m a R b e (λd=>absurd hm kQ1)
theorem u8w(y:Int):(((UInt8.ofNat (IntKind.u8.wrap y).toNat).toNat:Nat):Int)=IntKind.u8.wrap y:=by grind [IntKind.wrap,IntKind.signed,IntKind.bits,UInt8.toNat_ofNat']
theorem Yv(n:Int)(KK:List UInt8->Prop)(h:KK (mL n)):VU n KK:=by
 unfold VU;(try simp only[ac,am,ap,jval,bor,band,bnand,bimp,and_self]);unfold mL at h;have hb:∀x:Int,(if decide ((((UInt8.ofNat (IntKind.u8.wrap (Int.tmod x 16)).toNat).toNat:Nat):Int) < (((10:UInt8).toNat:Nat):Int))=true then UInt8.ofNat (IntKind.u8.wrap ((((UInt8.ofNat (IntKind.u8.wrap (Int.tmod x 16)).toNat).toNat:Nat):Int)+(((48:UInt8).toNat:Nat):Int))).toNat
   else UInt8.ofNat (IntKind.u8.wrap ((((UInt8.ofNat (IntKind.u8.wrap (Int.tmod x 16)).toNat).toNat:Nat):Int)+(((87:UInt8).toNat:Nat):Int))).toNat)=X9 x:=by
  grind [u8w,X9]
 refine ao _ 16 (λi x=>∃(y:Int)(a:List UInt8),x=(y,a,(i:Int))/\a.length=i/\lu (16-i) y a=lu 16 (IntKind.u64.wrap (cG n)) []) (λR i x hi b c=>?_) (λR x b=>?_) _ ⟨_,[],rfl,rfl,rfl⟩
 .obtain⟨y,a,rfl,hl,e⟩:=b;have hd:decide ((i:Int) < 16)=true:=by grind
  dsimp only;rw[hb,if_pos hd];refine⟨by decide,⟨by grind,by grind⟩,by decide,c _ ⟨_,_,by rw[ae kQ1],by grind,?_⟩⟩;rw[show 16-i=(16 - (i+1))+1 by omega,lu]at e;exact e
 grind [ak3,ak8,lu]
theorem Nw(n:Int)(KK:Bool->Prop)(h:KK (FR n)):GL n KK:=by unfold GL;(try simp only[ac,am,ap,jval,bor,band,bnand,bimp,and_self]);exact⟨by decide,h⟩
theorem Ny(n:Int)(KK:Int->Prop)(h:KK (cG n)):GN n KK:=by unfold GN;(try simp only[ac,am,ap,jval,bor,band,bnand,bimp,and_self]);exact h
theorem Nz(a:Lt.Arg)(KK:Bool->Prop)(h:KK (kc a)):GO a KK:=by
 unfold GO;dsimp only;(try simp only[ac,am,ap,jval,bor,band,bnand,bimp,and_self])
 grind [kc,decide]
theorem TV(s:List UInt8)(KK:Bool->Prop)(h:KK (be s)):PG s KK:=by
 unfold PG;dsimp only;(try simp only[ac,am,ap,jval,bor,band,bnand,bimp,and_self]);by_cases hl:s.length<=LEN
 rotate_left
 .exact⟨1,λh=>absurd h hl⟩
 refine ao _ s.length (λi x=>x=(i:Int)/\∀j,j<i->wW j (s.getD j 0)=true) (λR i x hi a b=>?_) (λR x a=>?_) _ ⟨rfl,by omega⟩
 .obtain⟨rfl,a⟩:=a;simp only[aW hi,if_true,Int.toNat_natCast]
  try dsimp +instances only [Int.toNat_natCast]
  grind [wW,ae,be]
 grind [be]
theorem TZ(a:Lt.Arg)(hp:fQ a)(KK:List UInt8->Prop)(h:KK (cv a)):PK a KK:=by grind [PK,cv,fQ,Lt.Arg.ok,gA,o7,kA]
theorem TS(l:List (List UInt8))(a:List Lt.Arg)(hp:qz l a)(KK:List (List UInt8)->Prop)(h:KK (xI l a)):PD l a KK:=by
 unfold PD;(try simp only[ac,am,ap,jval,bor,band,bnand,bimp,and_self]);obtain⟨c,hp⟩:=hp;unfold Lt.room at hp;have e:∀l:List Lt.Arg,(l.flatMap λx=>[cv x])=l.map cv:=λl=>by induction l<;>simp_all
 refine fy a (λx=>[cv x]) l _ (λR i b hl hi hb ih=>?_) (λR hl=>?_)
 .simp only[aW hi,if_true,Int.toNat_natCast]
  try dsimp +instances only [Int.toNat_natCast]
  have:=jB (λx=>[cv x]) a hi
  rw[e,e,akT]at this;refine⟨⟨akQ i,hi⟩,c _ (az _ hi),?_,ih⟩
  grind
 simp only[kw,akP,if_false];rw[e];exact h
theorem TU(out:List UInt8)(t:Lt.Term)(hp:Ba out t)(KK:List UInt8->Prop)(h:KK (Zv out t)):PF out t KK:=by
 obtain⟨⟨a,d⟩,hp⟩:=hp;unfold PF;dsimp only;(try simp only[ac,am,ap,jval,bor,band,bnand,bimp,and_self]);unfold Zv at h;refine ifk (λhc=>kk h ?_) (λhc=>?_)
 .grind [Bl]
 have hk:¬ (t.Kind < 1\/4<t.Kind):=by grind
 unfold Bl at h hp;rw[if_neg hk]at h hp;have e:t.To.length<=1099511627776:=by grind [AE,K3,ak6,Lt.room]
 refine⟨⟨by omega,by grind⟩,?_⟩;generalize hw:([[],[106,117,109,112],[98,114,97,110,99,104],[114,101,116],[116,114,97,112]]:List (List UInt8)).getD t.Kind.toNat default=w;have f:K3 t=([w]++(if t.Kind=2\/t.Kind=3 then [cv t.A]else []))++t.To++(if t.Kind=4 then [kA t.N]else []):=by rw[<- hw];rfl
 intro J g;have hj:J ([w]++(if t.Kind=2\/t.Kind=3 then [cv t.A]else [])):=by
  refine g _ ?_;generalize hv:([w]++(if t.Kind=2\/t.Kind=3 then [cv t.A]else []))=v at f;have i:v.length<=2:=by grind
  refine⟨⟨by omega,by omega⟩,?_⟩;intro j b;have c:j (K3 t):=b _ ⟨hp,h⟩
  rw[f]at c;refine ifk (λhc=>⟨d,?_,?_⟩) (λhc=>?_)
  all_goals grind
 refine ifk (λhc=>⟨a,?_,?_⟩) (λhc=>?_)
 all_goals grind
theorem ac4(n:Int)(KK:Lt.RForm×Bool->Prop)(h:KK (Lt.rOf n)):VW n KK:=by
 by_cases hr:n < 1\/34<n
 .unfold VW Lt.rOf at *;rw[if_pos hr]at h;simp only[ac,jval,bor]
  grind
 have:n=1\/n=2\/n=3\/n=4\/n=5\/n=6\/n=7\/n=8\/n=9\/n=10\/n=11\/n=12\/n=13\/n=14\/n=15\/n=16\/n=17\/n=18\/n=19\/n=20\/n=21\/n=22\/n=23\/n=24\/n=25\/n=26\/n=27\/n=28\/n=29\/n=30\/n=31\/n=32\/n=33\/n=34:=by omega
 rcases this with rfl|rfl|rfl|rfl|rfl|rfl|rfl|rfl|rfl|rfl|rfl|rfl|rfl|rfl|rfl|rfl|rfl|rfl|rfl|rfl|rfl|rfl|rfl|rfl|rfl|rfl|rfl|rfl|rfl|rfl|rfl|rfl|rfl|rfl
 all_goals
  simp_all[Lt.rOf,VW,ac,gw]
theorem TT(out:List UInt8)(x:Lt.Instr)(hp:KX out x)(KK:List UInt8->Prop)(h:KK (Zt out x)):PE out x KK:=by
 obtain⟨⟨c,okF,okO⟩,k,hp⟩:=hp;unfold pe Lt.room at hp;simp only[ak6]at hp;unfold PE;dsimp only;(try simp only[ac,am,ap,jval,bor,band,bnand,bimp,and_self]);intro J K;have hw:=AE (mM x)
 have P:J (if(Lt.rOf x.Op).1.Dst=true then [x.Dst,[61]]else []):=by
  refine K _ ?_;generalize hv:(if(Lt.rOf x.Op).1.Dst=true then [x.Dst,[61]]else [])=v;have L:xJ x=v++[(Lt.rOf x.Op).1.Word]:=by rw[<- hv];rfl
  have F:v.length<=2:=by grind
  refine⟨⟨by grind,by grind⟩,?_⟩;rw[<- L];have N:(xJ x).length<=3:=by grind
  intro O z;have n:O (mM x):=by
   refine z _ ⟨by grind [bW,Lt.room],?_⟩;refine fy x.Frames (λf=>Lt.lnT (mr f)) (iZ out (mM x)) _ (λR i b hl hi hb ih=>?_) (λR hl=>?_)
   .simp only[aW hi,if_true,Int.toNat_natCast]
    try dsimp +instances only [Int.toNat_natCast]
    have o:(0:Int)<=(i:Int)/\i<x.Frames.length:=⟨akQ i,hi⟩
    have D:gA (x.Frames.getD i default).At:=eK k hi
    simp only[o,D,and_self,true_and];(try simp only[ac,am,ap,jval,bor,band,bnand,bimp,and_self]);have q:=jB (λf=>Lt.lnT (mr f)) x.Frames hi
    have l:=eK okF hi
    generalize x.Frames.getD i default=f at q l D ih|-;have d:b.length+(Lt.lnT (mr f)).length<=1099511627776:=by grind [iZ]
    have r:=AE (mr f)
    have p:(mr f).length=4+2*f.Vars.length:=by simp only[mr,ak6,Qu,ak3,ak8]
    refine fy f.Vars (λv=>[v.Name,cv v.A]) _ _ (λH j w u hj hw B=>?_) (λH u=>?_)
    .simp only[aW hj,if_true,Int.toNat_natCast]
     try dsimp +instances only [Int.toNat_natCast]
     have o2:(0:Int)<=(j:Int)/\j<f.Vars.length:=⟨akQ j,hj⟩
     have G:fQ (f.Vars.getD j default).A:=l.2 _ (az _ hj)
     simp only[o2,G,and_self,true_and];(try simp only[ac,am,ap,jval,bor,band,bnand,bimp,and_self]);refine⟨?_,B⟩;rw[hw];simp only[ak6,Qu,ak3,ak8,List.length_take];omega
    simp only[kw,akP,if_false];refine⟨?_,ih⟩;unfold bW Lt.room;exact d
   simp only[kw,akP,if_false];refine fy x.Objs (λo=>Lt.lnT (qF o)) _ _ (λR i b hl hi hb ih=>?_) (λR hl=>?_)
   .simp only[aW hi,if_true,Int.toNat_natCast]
    try dsimp +instances only [Int.toNat_natCast]
    have q:=jB (λo=>Lt.lnT (qF o)) x.Objs hi
    have g:=eK okO hi
    have o:(0:Int)<=(i:Int)/\i<x.Objs.length:=⟨akQ i,hi⟩
    refine⟨o,o,?_⟩;generalize x.Objs.getD i default=v at q g ih|-;have d:b.length+(Lt.lnT (qF v)).length<=1099511627776:=by grind [iZ]
    have r:=AE (qF v)
    have p:(qF v).length=2+v.Vals.length:=by grind [qF]
    refine⟨⟨g,?_⟩,?_,ih⟩
    .grind [Lt.room]
    unfold bW Lt.room;exact d
   grind [Zt,pe,iZ]
  have C:=hw
  refine ifk (λhc=>?_) (λhc=>?_)
  .have s:(x.Op=26\/x.Op=27)/\x.Args≠[]:=by grind
   have m:1<=x.Args.length:=by grind
   have e:mM x=xJ x++(x.Args.take 1).map cv++[x.Name]++(x.Args.drop 1).map cv:=by grind [mM]
   have el:=congrArg List.length e
   simp only[ak6,akT,List.length_take,amT,ak3,ak8]at el;have M:List.take (1 - 0) (List.drop 0 x.Args)=x.Args.take 1:=rfl
   have I:List.take (x.Args.length - 1) (List.drop 1 x.Args)=x.Args.drop 1:=alE (by simp)
   rw[M,I];refine⟨by omega,⟨by omega,m⟩,⟨λa t=>c a (List.mem_of_mem_take t),?_⟩,?_,by omega,⟨m,akK _⟩,⟨λa t=>c a (List.mem_of_mem_drop t),?_⟩,?_⟩
   .grind [Lt.room]
   .grind [xI]
   .grind [Lt.room,xI]
   rw[e]at n;exact n
  have s:¬ ((x.Op=26\/x.Op=27)/\x.Args≠[]):=by grind [ak9]
  have e:mM x=xJ x++(if(Lt.rOf x.Op).1.Named then [x.Name]else [])++x.Args.map cv:=by grind [mM]
  have el:=congrArg List.length e
  simp only[ak6,akT]at el;intro E y;have Q:E (xJ x++(if(Lt.rOf x.Op).1.Named then [x.Name]else [])):=by
   refine y _ ⟨⟨c,?_⟩,?_⟩
   .grind [Lt.room]
   rw[e]at n;exact n
  grind
 grind
theorem Nx(p:Lt.Program)(hp:nP p)(KK:List UInt8->Prop)(h:KK (jx p)):GM p KK:=by
 obtain⟨okP,G,u,hp⟩:=hp;unfold GM;dsimp only;(try simp only[ac,am,ap,jval,bor,band,bnand,bimp,and_self]);unfold jx at h hp;unfold Lt.room at hp;simp only[ak6]at hp;intro J hJ;have O:J (if p.SSA then Lt.lnT [[115,115,97]]else []):=by
  refine hJ _ ?_;generalize(if p.SSA then Lt.lnT [[115,115,97]]else [])=s at h hp;refine fy p.Classes mq s _ (λR i b hl hi hb ih=>?_) (λR hl=>?_)
  .simp only[aW hi,if_true,Int.toNat_natCast]
   try dsimp +instances only [Int.toNat_natCast]
   have o:(0:Int)<=(i:Int)/\i<p.Classes.length:=⟨akQ i,hi⟩
   have r:=jB mq p.Classes hi
   generalize p.Classes.getD i default=c at r ih|-;have m:b.length+(mq c).length<=1099511627776:=by grind
   simp only[mq,ak6]at m;have K:bW b [[99,108,97,115,115],c.Name]:=by grind [bW,Lt.room]
   have p2:dP (iZ b [[99,108,97,115,115],c.Name]) [102,105,101,108,100] c.Fields:=by grind [dP,Lt.room,iZ]
   simp only[o,K,p2,and_self,true_and];(try simp only[ac,am,ap,jval,bor,band,bnand,bimp,and_self]);simp only[mq,<- al1]at ih;exact ih
  simp only[kw,akP,if_false];refine⟨by grind [dP,Lt.room],?_⟩;refine fy p.Externs qC _ _ (λR i b hl hi hb ih=>?_) (λR hl=>?_)
  .simp only[aW hi,if_true,Int.toNat_natCast]
   try dsimp +instances only [Int.toNat_natCast]
   have o:(0:Int)<=(i:Int)/\i<p.Externs.length:=⟨akQ i,hi⟩
   have r:=jB qC p.Externs hi
   have P:gA (p.Externs.getD i default).N:=eK G hi
   generalize p.Externs.getD i default=c at r ih P|-;have K:bW b [[101,120,116,101,114,110],c.Name,kA c.N]:=by grind [bW,Lt.room,qE,ke,qC]
   simp only[o,K,P,and_self,true_and];(try simp only[ac,am,ap,jval,bor,band,bnand,bimp,and_self]);exact ih
  simp only[kw,akP,if_false];refine fy p.Funcs qD _ _ (λR i b hl hi hb ih=>?_) (λR hl=>?_)
  .simp only[aW hi,if_true,Int.toNat_natCast]
   try dsimp +instances only [Int.toNat_natCast]
   have o:(0:Int)<=(i:Int)/\i<p.Funcs.length:=⟨akQ i,hi⟩
   have r:=jB qD p.Funcs hi
   have v:=eK okP hi
   have d:=eK u hi
   refine⟨o,?_⟩;generalize p.Funcs.getD i default=f at r v d ih|-;have m:b.length+(qD f).length<=1099511627776:=by grind [ke,qE]
   simp only[qD,ak6]at m;refine⟨by grind [bW,Lt.room],by grind [dP,Lt.room,iZ],?_,?_⟩
   .grind [dP,Lt.room,ke,qE,iZ]
   refine fy f.Blocks mn _ _ (λZ j b2 L hj Y n=>?_) (λZ L=>?_)
   .simp only[aW hj,if_true,Int.toNat_natCast]
    try dsimp +instances only [Int.toNat_natCast]
    have o2:(0:Int)<=(j:Int)/\j<f.Blocks.length:=⟨akQ j,hj⟩
    have E:=jB mn f.Blocks hj
    have a:=eK v hj
    have e:=eK d hj
    simp only[o2,and_self,true_and];generalize f.Blocks.getD j default=k at E a e n|-;have z:b2.length+(mn k).length<=1099511627776:=by grind [ke,qE,iZ,ak6]
    simp only[mn,ak6]at z;refine⟨by grind [bW,Lt.room],?_⟩;refine fy k.Phis (λx=>Lt.lnT (xK x)) _ _ (λT q b3 M hq U y=>?_) (λT M=>?_)
    .simp only[aW hq,if_true,Int.toNat_natCast]
     try dsimp +instances only [Int.toNat_natCast]
     have o3:(0:Int)<=(q:Int)/\q<k.Phis.length:=⟨akQ q,hq⟩
     have I:=jB (λx=>Lt.lnT (xK x)) k.Phis hq
     have D:=eK a.1 hq
     simp only[o3,and_self,true_and];generalize k.Phis.getD q default=x at I D y|-;have B:b3.length+(Lt.lnT (xK x)).length<=1099511627776:=by grind [iZ]
     have V:=AE (xK x)
     have Q:(xK x).length=2+2*x.Ins.length:=by simp only[xK,ak6,Qu,ak3,ak8]
     refine fy x.Ins (λi=>[i.Block,cv i.A]) _ _ (λH t w l F hw g=>?_) (λH l=>?_)
     .simp only[aW F,if_true,Int.toNat_natCast]
      try dsimp +instances only [Int.toNat_natCast]
      have W:(0:Int)<=(t:Int)/\t<x.Ins.length:=⟨akQ t,F⟩
      have X:fQ (x.Ins.getD t default).A:=D.2 _ (az _ F)
      simp only[W,X,and_self,true_and];(try simp only[ac,am,ap,jval,bor,band,bnand,bimp,and_self]);refine⟨?_,g⟩;rw[hw];simp only[ak6,Qu,ak3,ak8,List.length_take];omega
     simp only[kw,akP,if_false];refine⟨?_,y⟩;unfold bW Lt.room;exact B
    simp only[kw,akP,if_false];refine fy k.Code pe _ _ (λH q b4 l hq aa g=>?_) (λH l=>?_)
    .simp only[aW hq,if_true,Int.toNat_natCast]
     try dsimp +instances only [Int.toNat_natCast]
     have S:=jB pe k.Code hq
     have okc:=eK a.2.1 hq
     have C:=eK e hq
     refine⟨⟨akQ q,hq⟩,⟨okc,C,?_⟩,g⟩
     grind [Lt.room,iZ]
    simp only[kw,akP,if_false];refine⟨(⟨a.2.2,?_⟩:Ba _ k.End),?_⟩
    .grind [Lt.room,iZ]
    simp only[mn,<- al1]at n;exact n
   simp only[kw,akP,if_false];simp only[qD,<- al1]at ih;exact ih
  simp only[kw,akP,if_false];unfold ke at h;exact h
 exact ifk (λhc=>⟨by grind [bW,Lt.room],by rw[if_pos hc]at O;exact O⟩) (λhc=>by grind)
theorem P6(op:Int):(Lt.Of op).1.Most<=8:=by grind (splits:=20) [Lt.Of]
variable{op:Int}
theorem Wj(h:op=26\/op=27):1<=(Lt.Of op).1.Least:=by rcases h with rfl|rfl<;>decide
structure InstrOk (i:Lt.Instr):Prop where
 args:i.Args.length<=8
 frames:i.Frames.length<=16
 objs:i.Objs.length<=99
 fr:∀f∈i.Frames,Lt.frame f=true
 ob:∀o∈i.Objs,Lt.virt o=true
 least:i.Op=26\/i.Op=27->1<=i.Args.length
 aok:cb i.Args false=true
 of:(Lt.Of i.Op).2=true
 dst:(Lt.Of i.Op).1.Dst=!decide (i.Dst=[])
 nm:(Lt.Of i.Op).1.Named=!decide (i.Name=[])
 dstN:(Lt.Of i.Op).1.Dst=true->Lt.Name i.Dst=true
 nmN:(Lt.Of i.Op).1.Named=true->Lt.Name i.Name=true
 lo:(Lt.Of i.Op).1.Least<=(i.Args.length:Int)
 hi:(i.Args.length:Int)<=(Lt.Of i.Op).1.Most
 none:i.Op≠31/\i.Op≠34->i.Frames=[]/\i.Objs=[]
variable{i:Lt.Instr}
theorem iP(h:Lt.instr i=true):InstrOk i:=by
 unfold Lt.instr at h;simp only[akI,decide_eq_true_eq,beq_iff_eq]at h;obtain⟨⟨⟨⟨⟨⟨h1,h2⟩,h3⟩,h4⟩,h5⟩,⟨⟨⟨h6,h7⟩,h8⟩,h9⟩,b⟩,c⟩:=h;have hm:=P6 i.Op
 have a:(∀f∈i.Frames,Lt.frame f=true)/\(∀o∈i.Objs,Lt.virt o=true):=by grind
 refine⟨by omega,h9,b,a.1,a.2,λho=>?_,h8,h1,h2,h3,λhd=>?_,λhd=>?_,h6,h7,λho=>?_⟩
 .have:=Wj ho
  omega
 all_goals grind
theorem Ag{f:Lt.Frame}(h:Lt.frame f=true):Lt.Name f.Func=true/\Lt.Name f.Block=true/\0<=f.At/\f.At<=1024/\f.Vars.length<=16/\∀b∈f.Vars,ji b=true:=by grind [Lt.frame]
theorem Rj{o:Lt.Virt}(h:Lt.virt o=true):Lt.Name o.Class=true/\o.Vals.length<=8/\cb o.Vals true=true:=by grind [Lt.virt]
theorem Oq{x:Lt.Phi}(h:Lt.phi x=true):Lt.Name x.Dst=true/\x.Ins≠[]/\x.Ins.length<=256/\∀i∈x.Ins,oS i=true:=by grind [Lt.phi]
variable{b:Lt.Block}
theorem zA(h:Lt.block b=true):Lt.Name b.Name=true/\fJ b.End=true/\(∀x∈b.Phis,Lt.phi x=true)/\∀i∈b.Code,Lt.instr i=true:=by grind [Lt.block]
def longs(l:List Lt.Block):Nat:=(l.map λb=>b.Phis.length+b.Code.length).sum
theorem C8:∀(l:List Lt.Block)(n:Nat),n<=1024->Lt.blocks l n=true->n+longs l<=1024/\∀b∈l,Lt.block b=true
 |[],n,hn,_=>⟨by grind [longs],by simp⟩
 |b::r,n,hn,h=>by
  simp only[Lt.blocks,akI,decide_eq_true_eq]at h;obtain⟨⟨h1,h2⟩,h3⟩:=h;obtain⟨k1,k2⟩:=C8 r _ h1 h3
  grind [longs]
structure FuncOk (f:Lt.Func):Prop where
 name:Lt.Name f.Name=true
 res:Lt.kind f.Result=true
 params:Lt.typed f.Params 6=true
 vars:Lt.typed f.Vars 1024=true
 ne:f.Blocks≠[]
 len:f.Blocks.length<=256
 long:longs f.Blocks<=1024
 bl:∀b∈f.Blocks,Lt.block b=true
variable{f:Lt.Func}
theorem yA(h:aF f=true):FuncOk f:=by unfold aF at h;simp only[akI,decide_eq_true_eq,alC,decide_eq_false_iff_not]at h;obtain⟨⟨⟨⟨⟨⟨h1,h2⟩,h3⟩,h4⟩,h5⟩,h6⟩,h7⟩:=h;obtain⟨k1,k2⟩:=C8 _ 0 kQ1 h7;exact⟨h1,h2,h3,h4,h5,h6,by omega,k2⟩
structure ProgOk (p:Lt.Program):Prop where
 nc:p.Classes.length<=8
 ne:p.Externs.length<=8
 nf:p.Funcs.length<=8
 glob:Lt.typed p.Globals 8=true
 cl:∀c∈p.Classes,dk c=true
 ex:∀x∈p.Externs,cH x=true
 fn:∀f∈p.Funcs,aF f=true
variable{p:Lt.Program}
theorem FP(h:aY p=true):ProgOk p:=by unfold aY at h;simp only[akI,decide_eq_true_eq,akZ]at h;obtain⟨⟨⟨⟨h1,h2⟩,h3⟩,h4⟩,h5,h6,h7⟩:=h;exact⟨h1,h2,h3,h4,h5,h6,h7⟩
variable{a:Lt.Arg}
theorem gQ(h:bk a=true):(a.Kind=1/\Lt.Name a.S=true/\a.N=0)\/(a.Kind=2/\a.S=[])\/(a.Kind=3/\a.S=[]/\Lt.Plain a.N=a.N)\/(a.Kind=4/\a.S=[]/\a.N=0)\/(a.Kind=5/\a.S=[]/\0<=a.N/\a.N<=999):=by grind (splits:=20) [bk]
theorem UM[Inhabited α][DecidableEq α](a b:List α)(hl:a.length<=LEN)(c:a.length=b.length)(rest:Bool)(KK:Bool->Prop)(body:(Int->Prop)->Int->Prop)
  (hs:∀R i,i<a.length->(a.getD i default=b.getD i default->R (i64.wrap ((i:Int)+1)))->(a.getD i default≠b.getD i default->KK false)->body R (i:Int))
  (d:∀R,KK rest->body R (a.length:Int)) (h:KK (decide (a=b)&&rest)):ab body 0:=by
 refine ao body a.length (λi x=>x=(i:Int)/\KK (decide (a.drop i=b.drop i)&&rest)) (λR i x hi hx ih=>?_) (λR x hx=>?_) _ ⟨rfl,by grind⟩
 all_goals grind [akX,ae,LEN,List.cons.injEq]
theorem cQ[Inhabited α][DecidableEq α](a b:List α)(c:a.length=b.length)(rest:Bool)(KK:Bool->Prop)(body:(Int->Prop)->Int->Prop)
  (hs:∀R i,a.length<=LEN->i<a.length->(a.getD i default=b.getD i default->R (i64.wrap ((i:Int)+1)))->(a.getD i default≠b.getD i default->KK false)->body R (i:Int))
  (d:∀R,KK rest->body R (a.length:Int)) (h:KK (decide (a=b)&&rest)):ab (λR v=>a.length<=4611686018427387904->body R v) 0:=by
 by_cases hl:a.length<=LEN
 .exact UM a b hl c rest KK _ (λR i hi h1 h2 _=>hs R i hl hi h1 h2) (λR h _=>d R h) h
 exact⟨1,λh=>absurd h hl⟩
theorem ag5(x y:Lt.Var):(decide (x.Name=y.Name)&&decide (x.Type_=y.Type_))=decide (x=y):=by
 obtain⟨a,b⟩:=x;obtain⟨c,d⟩:=y
 grind
theorem EU(x y:Lt.Arg):(decide (x.Kind=y.Kind)&&(decide (x.S=y.S)&&decide (x.N=y.N)))=decide (x=y):=by
 obtain⟨a,b,c⟩:=x;obtain⟨d,e,f⟩:=y
 grind
theorem acA(x y:Lt.Bind):(decide (x.Name=y.Name)&&(decide (x.A.Kind=y.A.Kind)&&(decide (x.A.S=y.A.S)&&decide (x.A.N=y.A.N))))=decide (x=y):=by
 rw[EU];obtain⟨a,b⟩:=x;obtain⟨c,d⟩:=y
 grind
theorem ajD(x y:Lt.In):(decide (x.Block=y.Block)&&(decide (x.A.Kind=y.A.Kind)&&(decide (x.A.S=y.A.S)&&decide (x.A.N=y.A.N))))=decide (x=y):=by
 rw[EU];obtain⟨a,b⟩:=x;obtain⟨c,d⟩:=y
 grind
theorem Ta(x y:Lt.Extern):(decide (x.Name=y.Name)&&decide (x.N=y.N))=decide (x=y):=by
 obtain⟨a,b⟩:=x;obtain⟨c,d⟩:=y
 grind
theorem ob2{a:List α}{b:List β}{i:Nat}(h:i<a.length)(e:a.length=b.length):(0:Int)<=(i:Int)/\i<b.length:=⟨akQ i,by omega⟩
theorem Fj(a b:List Lt.Var)(KK:Bool->Prop)(h:KK (jW a b)):L6 a b KK:=by
 intro _ _;unfold jW at h;refine ifk (λhc=>kk h (by grind)) (λhc=>?_);have c:a.length=b.length:=by grind
 refine cQ a b c true KK _ (λR i hl hi ih d=>?_) (λR h=>?_) (kk h (by simp))
 all_goals grind [ag5]
theorem Fi(a b:List Lt.Arg)(KK:Bool->Prop)(h:KK (qG a b)):L5 a b KK:=by
 intro _ _;unfold qG at h;refine ifk (λhc=>kk h (by grind)) (λhc=>?_);have c:a.length=b.length:=by grind
 refine cQ a b c true KK _ (λR i hl hi ih d=>?_) (λR h=>?_) (kk h (by simp))
 all_goals grind [EU]
theorem B5(a b:Lt.Instr)(KK:Bool->Prop)(h:KK (qY a b)):xn a b KK:=by
 unfold xn;(try simp only[ac,am,ap,jval,bor,band,bnand,bimp,and_self]);unfold qY at h;unfold qG;refine ifk (λhc=>kk h (by grind)) (λhc=>?_);simp only[alO,alC,not_or,akV,decide_eq_true_eq]at hc;have e:decide (a=b)=(decide (a.Frames=b.Frames)&&(decide (a.Objs=b.Objs)&&true)):=by
  obtain⟨u,p,a3,a4,a5,v⟩:=a;obtain⟨b1,b2,b3,b4,b5,b6⟩:=b
  grind
 rw[e]at h;have d:a.Frames.length=b.Frames.length:=by omega
 have f:a.Objs.length=b.Objs.length:=by omega
 refine cQ a.Frames b.Frames d _ KK _ (λR i hl hi ih c=>?_) (λR h=>?_) h
 .simp only[aW hi]
  try dsimp +instances only [Int.toNat_natCast]
  refine⟨⟨akQ i,hi⟩,ob2 hi d,?_⟩;generalize a.Frames.getD i default=x at ih c|-;generalize b.Frames.getD i default=y at ih c|-;refine ifk (λhc=>c (by grind)) (λhc=>?_);have g:x.Vars.length=y.Vars.length:=by grind
  refine cQ x.Vars y.Vars g true (λb=>if b then R (i64.wrap ((i:Int)+1))else KK false) _ (λo j hl hj l k=>?_) (λo h=>?_) ?_
  .grind [acA]
  .grind
  refine ifk (λhv=>ih ?_) (λhv=>c ?_)
  .obtain⟨m,n,t,r⟩:=x;simp_all
  grind
 simp only[kw];refine cQ a.Objs b.Objs f _ KK _ (λR i hl hi ih c=>?_) (λR h=>?_) h
 .try dsimp +instances only [Int.toNat_natCast]
  have o1:(0:Int)<=(i:Int)/\i<a.Objs.length:=⟨akQ i,hi⟩
  have o2:=ob2 hi f
  simp only[o1,o2,true_and];(try simp only[ac,am,ap,jval,bor,band,bnand,bimp,and_self]);generalize a.Objs.getD i default=x at ih c|-;generalize b.Objs.getD i default=y at ih c|-;obtain⟨m,n⟩:=x;obtain⟨q,s⟩:=y
  grind
 grind
theorem B7(a b:Lt.Block)(KK:Bool->Prop)(h:KK (r8 a b)):xq a b KK:=by
 unfold xq;dsimp only;(try simp only[ac,am,ap,jval,bor,band,bnand,bimp,and_self]);unfold r8 at h;rw[EU];refine ifk (λhc=>kk h (by grind)) (λhc=>?_);simp only[alO,alC,not_or,akV,decide_eq_true_eq]at hc;obtain⟨h1,h2,h3,h4,h5,h6,h7⟩:=hc;have e:decide (a=b)=(decide (a.End.To=b.End.To)&&(decide (a.Phis=b.Phis)&&(decide (a.Code=b.Code)&&true))):=by
  obtain⟨u,q,a3,⟨a4,a5,r,t⟩⟩:=a;obtain⟨b1,b2,b3,⟨b4,b5,b6,w⟩⟩:=b
  grind
 rw[e]at h;have f:a.End.To.length=b.End.To.length:=by omega
 have c:a.Phis.length=b.Phis.length:=by omega
 have g:a.Code.length=b.Code.length:=by omega
 refine cQ a.End.To b.End.To f _ KK _ (λR i hl hi ih d=>?_) (λR h=>?_) h
 .grind
 simp only[kw];refine cQ a.Phis b.Phis c _ KK _ (λR i hl hi ih d=>?_) (λR h=>?_) h
 .simp only[aW hi,if_true]
  try dsimp +instances only [Int.toNat_natCast]
  have o1:(0:Int)<=(i:Int)/\i<a.Phis.length:=⟨akQ i,hi⟩
  have o2:=ob2 hi c
  simp only[o1,o2,true_and];(try simp only[ac,am,ap,jval,bor,band,bnand,bimp,and_self]);generalize a.Phis.getD i default=x at ih d|-;generalize b.Phis.getD i default=y at ih d|-;obtain⟨v,m⟩:=x;obtain⟨s,l⟩:=y;refine ifk (λhc=>d (by grind)) (λhc=>?_);have k:m.length=l.length:=by grind
  refine cQ m l k true (λb=>if b then R (i64.wrap ((i:Int)+1))else KK false) _ (λp j hl hj o n=>?_) (λp h=>?_) ?_
  all_goals simp_all[ajD]
 simp only[kw];refine cQ a.Code b.Code g _ KK _ (λR i hl hi ih d=>?_) (λR h=>?_) h
 all_goals grind [qY]
theorem E6(a b:Lt.Func)(KK:Bool->Prop)(h:KK (ut a b)):yV a b KK:=by
 unfold yV;(try simp only[ac,am,ap,jval,bor,band,bnand,bimp,and_self]);unfold ut at h;unfold jW;refine ifk (λhc=>kk h (by grind)) (λhc=>?_);simp only[alO,alC,not_or,akV,decide_eq_true_eq]at hc;have e:decide (a=b)=(decide (a.Blocks=b.Blocks)&&true):=by
  obtain⟨o,g,a3,a4,a5⟩:=a;obtain⟨b1,b2,b3,b4,b5⟩:=b
  grind
 rw[e]at h;have c:a.Blocks.length=b.Blocks.length:=by omega
 refine cQ a.Blocks b.Blocks c _ KK _ (λR i hl hi ih d=>?_) (λR h=>?_) h
 .try dsimp +instances only [Int.toNat_natCast]
  generalize a.Blocks.getD i default=x at ih d|-;generalize b.Blocks.getD i default=y at ih d|-;obtain⟨q,t,r,⟨m,v,l,p⟩⟩:=x;obtain⟨k,n,j,⟨f,u,s,w⟩⟩:=y
  grind [r8]
 grind
theorem Yp(a b:Lt.Program)(KK:Bool->Prop)(h:KK (Lt.Same a b)):VG a b KK:=by
 unfold VG;(try simp only[ac,am,ap,jval,bor,band,bnand,bimp,and_self]);unfold Lt.Same at h;unfold jW ut;refine ifk (λhc=>kk h (by grind)) (λhc=>?_);simp only[alO,alC,not_or,akV,decide_eq_true_eq]at hc;have e:decide (a=b)=(decide (a.Classes=b.Classes)&&(decide (a.Externs=b.Externs)&&(decide (a.Funcs=b.Funcs)&&true))):=by
  obtain⟨l,j,a3,a4,a5⟩:=a;obtain⟨b1,b2,b3,b4,b5⟩:=b
  grind
 rw[e]at h;have c:a.Classes.length=b.Classes.length:=by omega
 have g:a.Externs.length=b.Externs.length:=by omega
 have f:a.Funcs.length=b.Funcs.length:=by omega
 refine cQ a.Classes b.Classes c _ KK _ (λR i hl hi ih d=>?_) (λR h=>?_) h
 .try dsimp +instances only [Int.toNat_natCast]
  have o1:(0:Int)<=(i:Int)/\i<a.Classes.length:=⟨akQ i,hi⟩
  have o2:=ob2 hi c
  simp only[o1,o2,true_and];(try simp only[ac,am,ap,jval,bor,band,bnand,bimp,and_self]);generalize a.Classes.getD i default=x at ih d|-;generalize b.Classes.getD i default=y at ih d|-;obtain⟨n,o⟩:=x;obtain⟨k,m⟩:=y
  grind
 simp only[kw];refine cQ a.Externs b.Externs g _ KK _ (λR i hl hi ih d=>?_) (λR h=>?_) h
 .grind [Ta]
 simp only[kw];refine cQ a.Funcs b.Funcs f _ KK _ (λR i hl hi ih d=>?_) (λR h=>?_) h
 all_goals grind
theorem Jw:∀(k:Nat)(x:Int)(l:List UInt8),(lu k x l).length=k+l.length
 |0,_,_=>by simp[lu]
 |k+1,x,l=>by rw[lu,Jw k];grind
theorem u6{P:Prop}{body:(α->Prop)->α->Prop}{x:α}(h:P->ab body x):ab (λR v=>P->body R v) x:=by
 by_cases hp:P
 .simp_all
 exact⟨1,λh=>absurd h hp⟩
theorem NE(n most:Int)(KK:Int->Prop)(h:KK (cP n most)):GU n most KK:=by grind [GU,cP]
theorem T2(w:List UInt8)(KK:Bool->Prop)(h:KK (mw w)):PN w KK:=by simp_all[PN,ac,jval,mw]
theorem NG(l:List (List UInt8))(KK:Bool->Prop)(h:KK (fT l)):V0 l KK:=by
 refine u6 (λhl=>dN l hl be true KK _ (λR i hi ih a=>?_) (λR h=>?_) (kk h (by grind [fT])))
 all_goals grind
theorem NL(l:List (List UInt8))(KK:Bool->Prop)(h:KK (cx l)):G0 l KK:=by
 unfold G0;(try simp only[ac,am,ap,jval,bor,band,bnand,bimp,and_self,iW,pw,px]);refine λhl=>⟨λhc=>⟨Int.le_refl 0 |> λ_=>by decide,by grind⟩,?_⟩
 refine⟨λ_ _=>⟨by decide,by grind⟩,kk h ?_⟩
 grind [cx,fT]
theorem ac5(w:List UInt8)(KK:Int×Bool->Prop)(h:KK (Lt.sOp w)):aiL w KK:=by
 have d:gw.length=35:=rfl
 have key:∀k i,i+k=35->KK (FZ w (gw.drop i) (i:Int))->mj (λ(c:Int->Prop) a=>if decide (a<=34)then(((0:Int)<=a/\a < ((35:Nat):Int))/\a.toNat<gw.length/\if decide ((gw.getD a.toNat default)=w)then(KK (a,true))else(c (i64.wrap (a+1))))else(KK (0,false))) (k+1) (i:Int):=by
  intro k;induction k with
  |zero=>
   intro i hi h;have e:i=35:=by omega
   subst e;exact h
  |succ k ih=>
   intro i hi h;have b:i<gw.length:=by omega
   rw[akX b]at h;show(if decide ((i:Int)<=34)then _ else _)
   grind (splits:=20) [Int.toNat_natCast,FZ,ae]
 exact⟨35,key 34 1 rfl h⟩
theorem oK(f:β->α->β)(b:β)(l:List α)(x:α):(l++[x]).foldl f b=f (l.foldl f b) x:=by simp
theorem Ul(s:List UInt8)(i:Nat)(hi:i<s.length)(a:i < 30) :
  (if s.getD 0 0=45 then((s.take (i+1)).drop 1).foldl jU 0 else(s.take (i+1)).foldl jU 0) =
  (if i=0/\s.getD 0 0=45 then(if s.getD 0 0=45 then((s.take i).drop 1).foldl jU 0 else(s.take i).foldl jU 0)
   else jU (if s.getD 0 0=45 then((s.take i).drop 1).foldl jU 0 else(s.take i).foldl jU 0) (s.getD i 0)):=by
 grind [aZ]
theorem nv(n:Int):Lt.inR (xN n):=by
 have:=wf_wrap (k:=.i64) n
 simp only[Lit.wf]at this;have h1:i64.min=-9223372036854775808:=by decide
 have h2:i64.max=9223372036854775807:=by decide
 grind [Lt.inR,xN]
theorem YA(s:List UInt8)(KK:Int×Bool->Prop)(h:KK (bd s)):V1 s KK:=by
 unfold V1;(try simp only[ac,am,ap,jval,bor,band,bnand,bimp,and_self,iW,pw,px]);refine u6 (λhl=>?_);have hb:∀c:UInt8,decide ((((c.toNat:Nat):Int))=(((45:UInt8).toNat:Nat):Int))=decide (c=45):=λc=>by
  by_cases hc:c=45
  .simp_all
  have:c.toNat≠(45:UInt8).toNat:=λe=>hc (UInt8.toNat_inj.1 e)
  grind
 simp only[hb];obtain⟨g,b,f,d⟩:∃g:Nat->Int,g 0=0/\(∀i,i<s.length->i < 30->g (i+1)=if i=0/\s.getD 0 0=45 then g i else jU (g i) (s.getD i 0))/\g (min s.length 30)=Q7 s:=by
  refine⟨λi=>if s.getD 0 0=45 then((s.take i).drop 1).foldl jU 0 else(s.take i).foldl jU 0,by simp,λi h1 h2=>Ul s i h1 h2,?_⟩;have e:s.take (min s.length 30)=s.take 30:=by grind
  simp only[e];rfl
 refine Jy (min s.length 30) (by grind [LEN]) g _ (λR i hi j=>?_) (λR=>?_) b
 .simp only[Int.toNat_natCast]
  grind [jU]
 have a:(decide (((min s.length 30:Nat):Int) < (s.length:Int))&&decide (((min s.length 30:Nat):Int) < 30))=false:=by grind
 simp only[a,akP];refine⟨λh=>h.elim,λh=>h.elim,λ_=>⟨λhc=>⟨by decide,by grind⟩,?_⟩⟩;refine⟨nv _,?_⟩
 grind [bd,Lg]
theorem MO(s:List UInt8){i:Nat}(h:i+2<s.length):(s.drop 2).take (i+1)=(s.drop 2).take i++[s.getD (i+2) 0]:=by grind [aZ]
theorem Yz(s:List UInt8)(KK:Int×Bool->Prop)(h:KK (gH s)):VZ s KK:=by
 unfold VZ;(try simp only[ac,am,ap,jval,bor,band,bnand,bimp,and_self,iW,pw,px]);refine λhl=>ifk (λhc=>?_) (λhc=>?_)
 .grind [gH]
 have b:s.length=18:=by grind
 refine ao _ 16 (λi x=>x=(((s.drop 2).take i).foldl Bv 0,((i+2:Nat):Int))) (λR i x hi hx a=>?_) (λR x hx=>?_) _ rfl
 .subst hx;have h1:i+2<s.length:=by omega
  have e:=MO s h1
  have hc:(decide (((i+2:Nat):Int) < 18))=true:=by grind
  simp only[hc,Int.toNat_natCast];refine⟨λ_=>⟨akQ _,h1⟩,λ_=>by decide,?_⟩;refine a _ ?_;rw[e,oK,ae kQ1]
  grind [Bv]
 grind [gH,Ed]
theorem QB:Lt.inR 0:=by grind [Lt.inR]
theorem QC(s:List UInt8):Lt.inR (bd s).1:=by
 unfold bd;split
 .exact nv _
 exact QB
theorem acR(s:List UInt8):Lt.inR (gH s).1:=by
 unfold gH;split
 .exact nv _
 exact QB
theorem ajY(c w:Bool)(A B:Prop):(if c then(if w then A else B)else B)=(if c&&w then A else B):=by grind
theorem Yy(s:List UInt8)(KK:Lt.Arg×Bool->Prop)(h:KK (dG s)):VY s KK:=by
 have hp:∀k n,Lt.inR n->fQ ⟨k,[],n⟩:=λ_ _ h=>h
 have a:fQ ⟨1,s,0⟩:=QB
 have d:=hp 2 _ (QC s)
 have n2:=hp 3 _ (acR s)
 have e:=hp 5 _ (QC (s.drop 1))
 have c:=hp 4 _ QB
 unfold VY;dsimp only;intro g b hl;have f:=b (s.drop 1) ?_
 .cases s<;>grind
 have b0:((0:Int)<=0/\(0:Int) < ((5:Nat):Int))=True:=by decide
 have b1:((0:Int)<=1/\(1:Int) < ((5:Nat):Int))=True:=by decide
 have b2:((0:Int)<=2/\(2:Int) < ((5:Nat):Int))=True:=by decide
 have b3:((0:Int)<=3/\(3:Int) < ((5:Nat):Int))=True:=by decide
 have b4:((0:Int)<=4/\(4:Int) < ((5:Nat):Int))=True:=by decide
 simp only[ac,am,aX,aK,b0,b1,b2,b3,b4,show(decide ((0:Int) < 5))=true from rfl,show(decide ((1:Int) < 5))=true from rfl,show(decide ((2:Int) < 5))=true from rfl,show(decide ((3:Int) < 5))=true from rfl,show(decide ((4:Int) < 5))=true from rfl,show(decide ((5:Int) < 5))=false from rfl,if_true,akP,if_false,a,d,n2,e,c,true_and,ajY]
 grind [dG,nX]
theorem D5(p:α->Bool)(d:α):∀l:List α,((List.range l.length).all λi=>p (l.getD i d))=l.all p
 |[]=>rfl
 |a::r=>by
  rw[ak3,List.range_succ_eq_map,akW,List.all_map];have:=D5 p d r
  grind
theorem D3(i:Nat)(c:UInt8):wW i c=(Lt.letter c||(kY c&&decide (0<i))):=by grind [wW,Lt.letter,uX,kY]
theorem bb(s:List UInt8):be s=Lt.Name s:=by
 unfold be Lt.Name Lt.kept;cases s with
 |nil=>rfl
 |cons a r=>
  rw[ak3,List.range_succ_eq_map,akW,List.all_map];have e:((List.range r.length).all ((λi=>wW i ((a::r).getD i 0)) ∘ Nat.succ))=r.all iR:=by
   rw[<- D5 iR 0 r]
   grind [D3,iR]
  grind [D3,iR]
theorem YY(x:Nat):(9218868437227405312<x % 9223372036854775808) ↔ ((x &&& 9218868437227405312)=9218868437227405312/\(x &&& 4503599627370495)≠0):=by
 have c:x &&& 4503599627370495=x % 2 ^ 52:=al7 x 52
 have d:x &&& 9223372036854775807=x % 2 ^ 63:=al7 x 63
 have b:(x &&& 9218868437227405312) % 2 ^ 52=0:=by
  rw[<- al7,Nat.and_assoc]
  grind
 have a:x &&& 9223372036854775807=(x &&& 9218868437227405312) ||| (x &&& 4503599627370495):=by rw[<- Nat.and_or_distrib_left];rfl
 obtain⟨q,hq⟩:∃q,x &&& 9218868437227405312=2 ^ 52*q:=⟨_,(Nat.mul_div_cancel' (Nat.dvd_of_mod_eq_zero b)).symm⟩
 rw[hq,c,<- Nat.two_pow_add_eq_or_of_lt (amU _ (by decide))]at a;omega
theorem iX(n:Int):IntKind.u64.wrap n=(((BitVec.ofInt 64 n).toNat:Nat):Int):=by grind [BitVec.toNat_ofInt,IntKind.wrap,IntKind.signed,IntKind.bits]
theorem lF(n:Int):cG n=Lt.Plain n:=by
 unfold cG FR Lt.Plain;have a:i64.bits=64:=rfl
 rw[iX,a,BitVec.toNat_and,BitVec.toNat_and];generalize(BitVec.ofInt 64 n).toNat=x;have h1:=Nat.and_le_right (n:=x) (m:=9218868437227405312)
 have h2:=Nat.and_le_right (n:=x) (m:=4503599627370495)
 have:=YY x
 grind [dF]
def Tp:List UInt8:=[48,49,50,51,52,53,54,55,56,57,97,98,99,100,101,102]
def mE(k:Nat):UInt8:=Tp.getD (k % 16) 0
theorem E1(k:Nat):X9 (k:Int)=mE k:=by
 unfold X9 mE;have e:Int.tmod (k:Int) 16=((k % 16:Nat):Int):=rfl
 rw[e];have h:k % 16 < 16:=amU _ (by decide)
 generalize k % 16=j at h;have:∀j:Fin 16,UInt8.ofNat (IntKind.u8.wrap ((IntKind.u8.wrap ((j.1:Nat):Int))+(if IntKind.u8.wrap ((j.1:Nat):Int) < 10 then 48 else 87))).toNat=Tp.getD j.1 0:=by decide
 exact this ⟨j,h⟩
theorem yB:∀(k m:Nat)(l:List UInt8),m < 18446744073709551616->lu k (m:Int) l=((List.range k).map λi=>mE (m / 16 ^ (k - 1-i)))++l
 |0,m,l,_=>rfl
 |k+1,m,l,h=>by
  rw[lu,show Int.tdiv (m:Int) 16=((m / 16:Nat):Int)from rfl,cK kQ1,yB k (m / 16) _ kQ1,E1,List.range_succ,amC];have e:(List.range k).map (λi=>mE (m / 16 / 16 ^ (k - 1-i)))=(List.range k).map (λi=>mE (m / 16 ^ (k+1 - 1-i))):=by
   refine ak2 (λi hi=>?_);have hi:=List.mem_range.1 hi
   rw[Nat.div_div_eq_div_mul,show k+1 - 1-i=(k - 1-i)+1 by omega,Nat.pow_succ,Nat.mul_comm 16]
  grind
theorem X8(u:Int)(s:Nat)(hs:s<=60):X7 u (s:Int)=mE ((BitVec.ofInt 64 u).toNat / 2 ^ s):=by
 unfold X7;have b:IntKind.u64.bits=64:=rfl
 rw[iX u,cK (n:=s) kQ1,b,Int.toNat_natCast,Nat.min_eq_left kQ1];have hx:=(BitVec.ofInt 64 u).isLt
 generalize(BitVec.ofInt 64 u).toNat=x at hx|-;have e:Int.fdiv (x:Int) (2 ^ s)=((x / 2 ^ s:Nat):Int):=by grind
 have c:x / 2 ^ s < 18446744073709551616:=Nat.lt_of_le_of_lt (Nat.div_le_self _ _) hx
 have a:(BitVec.ofInt 64 15).toNat=15:=by decide
 have f:(BitVec.ofInt 64 ((x / 2 ^ s:Nat):Int)).toNat=x / 2 ^ s:=by grind [BitVec.toNat_ofInt]
 rw[e,BitVec.toNat_and,a,f];have d:(x / 2 ^ s &&& 15:Nat)=x / 2 ^ s % 16:=al7 _ 4
 rw[d,cK kQ1,Int.toNat_natCast];rfl
theorem Ae(n:Int):mL n=gW n:=by
 unfold mL gW;rw[lF,iX,yB 16 _ _ (BitVec.isLt _),amB]
 congr 1
 refine ak2 (λi hi=>?_);have hi:=List.mem_range.1 hi
 have e:(60:Int) - 4*(i:Int)=((60 - 4*i:Nat):Int):=by omega
 rw[e,X8 _ _ kQ1];rw[show 60 - 4*i=4*(16 - 1-i)by omega,Nat.pow_mul]
theorem Bo(a:Lt.Arg):kc a=bk a:=by grind [kc,bk,bb,lF,decide]
theorem sf(a:Lt.Arg):cv a=aO a:=by grind [cv,aO,kA,Bo,Ae,gQ]
theorem pf(op:Int):(Lt.rOf op).2=(Lt.Of op).2/\(Lt.rOf op).1.Word=(Lt.Of op).1.Word/\(Lt.rOf op).1.Dst=(Lt.Of op).1.Dst/\(Lt.rOf op).1.Named=(Lt.Of op).1.Named/\(Lt.rOf op).1.Least=(Lt.Of op).1.Least/\(Lt.rOf op).1.Most=(Lt.Of op).1.Most:=by
 by_cases h:1<=op/\op<=34
 .obtain⟨k,rfl⟩:=alG (show 0<=op by omega);have hk:k < 35:=by omega
  have:∀k:Fin 35,1<=k.1->(Lt.rOf (k.1:Int)).2=(Lt.Of (k.1:Int)).2/\(Lt.rOf (k.1:Int)).1.Word=(Lt.Of (k.1:Int)).1.Word/\(Lt.rOf (k.1:Int)).1.Dst=(Lt.Of (k.1:Int)).1.Dst/\(Lt.rOf (k.1:Int)).1.Named=(Lt.Of (k.1:Int)).1.Named/\(Lt.rOf (k.1:Int)).1.Least=(Lt.Of (k.1:Int)).1.Least/\(Lt.rOf (k.1:Int)).1.Most=(Lt.Of (k.1:Int)).1.Most:=by decide +kernel
  exact this ⟨k,hk⟩ (by grind)
 grind (splits:=20) [Lt.rOf,Lt.Of]
theorem s7:(n:Nat)->∀c∈Lt.digs n,48<=c.toNat/\c.toNat<=57:=by
 intro n;induction n using Nat.strongRecOn with
 |_ n ih=>
  have hd:∀k:Nat,k < 10->(UInt8.ofNat (48+k)).toNat=48+k:=λk hk=>by simp;omega
  by_cases h:n < 10
  all_goals grind [gU,ni]
theorem Qr(n:Nat):Lt.digs n≠[]:=by
 by_cases h:n < 10
 all_goals simp_all[gU,ni]
theorem QI{m:Nat}{c:UInt8}(h1:48<=c.toNat)(h2:c.toNat<=57)(h3:10*m+(c.toNat - 48) < 18446744073709551616):jU (m:Int) c=((10*m+(c.toNat - 48):Nat):Int):=by grind [jU,IntKind.wrap,IntKind.signed,IntKind.bits]
theorem S7:(n:Nat)->n < 18446744073709551616->(Lt.digs n).foldl jU 0=(n:Int):=by
 intro n;induction n using Nat.strongRecOn with
 |_ n ih=>
  intro hn;have hd:∀k:Nat,k < 10->(UInt8.ofNat (48+k)).toNat=48+k:=λk hk=>by simp;omega
  by_cases h:n < 10
  .rw[gU h];show jU ((0:Nat):Int) _=_
   rw[QI (by grind) (by grind) (by grind),hd n h];omega
  rw[ni h,oK,ih (n / 10) kQ1 kQ1];have:=amU n (show 10 > 0 by decide)
  rw[QI (by grind) (by grind) (by grind),hd _ this];omega
theorem Y3(h:Lt.inR n):Lg (aQ n)=n:=by
 have hl:=o7 h
 unfold Lt.inR at h;have b:=s7 n.natAbs
 have hf:=S7 n.natAbs kQ1
 unfold Lg Q7 xN;rw[alE (show(aQ n).length<=30 by omega)];by_cases hn:n < 0
 .grind [aQ,IntKind.wrap,IntKind.signed,IntKind.bits]
 have e:aQ n=Lt.digs n.natAbs:=by grind [aQ]
 have a:¬ (Lt.digs n.natAbs).getD 0 0=45:=by intro e;cases c:Lt.digs n.natAbs<;>simp_all
 grind [IntKind.wrap,IntKind.bits]
theorem jV(h:Lt.inR n):bd (aQ n)=(n,true):=by grind [bd,Y3,kA]
theorem jP(n:Int):∀c∈aQ n,c=45\/(48<=c.toNat/\c.toNat<=57):=by grind [aQ,s7]
theorem wP(n:Int):aQ n≠[]:=by grind [aQ,Qr]
theorem Ya(k:Nat):(if 97<=(IntKind.u64.wrap (((mE k).toNat:Nat):Int))then IntKind.u64.wrap ((IntKind.u64.wrap (((mE k).toNat:Nat):Int)) - 87)else IntKind.u64.wrap ((IntKind.u64.wrap (((mE k).toNat:Nat):Int)) - 48))=((k % 16:Nat):Int):=by
 unfold mE;have h:k % 16 < 16:=amU _ (by decide)
 generalize k % 16=j at h;have:∀j:Fin 16,(if 97<=(IntKind.u64.wrap (((Tp.getD j.1 0).toNat:Nat):Int))then IntKind.u64.wrap ((IntKind.u64.wrap (((Tp.getD j.1 0).toNat:Nat):Int)) - 87)else IntKind.u64.wrap ((IntKind.u64.wrap (((Tp.getD j.1 0).toNat:Nat):Int)) - 48))=((j.1:Nat):Int):=by decide
 exact this ⟨j,h⟩
theorem acG{u k:Nat}(h:16*u+15 < 18446744073709551616):Bv (u:Int) (mE k)=((16*u+k % 16:Nat):Int):=by
 unfold Bv;rw[Ya];have e:Int.tmod ((k % 16:Nat):Int) 16=((k % 16:Nat):Int):=by grind
 rw[e];rw[show((u:Nat):Int)*16=((16*u:Nat):Int)by omega,cK kQ1,show((16*u:Nat):Int)+((k % 16:Nat):Int)=((16*u+k % 16:Nat):Int)by omega,cK kQ1]
theorem wF:∀(k m:Nat)(l:List UInt8),m < 18446744073709551616->k<=16->(lu k (m:Int) l).foldl Bv 0=l.foldl Bv ((m % 16 ^ k:Nat):Int)
 |0,m,l,_,_=>by grind [lu]
 |k+1,m,l,h,hk=>by
  rw[lu,show Int.tdiv (m:Int) 16=((m / 16:Nat):Int)from rfl,cK kQ1,wF k (m / 16) _ kQ1 kQ1,E1,alZ];have hp:16 ^ k<=16 ^ 15:=Nat.pow_le_pow_right (by decide) kQ1
  rw[acG kQ1]
  congr 2
  grind [Nat.mod_mul]
theorem DV(h:Lt.inR n):Lt.inR (cG n):=by grind [cG,Lt.inR]
theorem XQ(h:Lt.inR n):Ed (mL n)=cG n:=by
 have hp:=DV h
 unfold Lt.inR at hp;unfold Ed mL;have hx:IntKind.u64.wrap (cG n)=(((IntKind.u64.wrap (cG n)).toNat:Nat):Int):=by rw[iX];rfl
 have a:(IntKind.u64.wrap (cG n)).toNat < 18446744073709551616:=by rw[iX];omega
 have hl:=Jw 16 (IntKind.u64.wrap (cG n)) []
 have b:([48,102]++lu 16 (IntKind.u64.wrap (cG n)) []).drop 2=lu 16 (IntKind.u64.wrap (cG n)) []:=rfl
 rw[b,alE (by grind),hx,wF 16 _ _ a kQ1]
 grind [IntKind.wrap,IntKind.signed,IntKind.bits]
theorem Zw(n:Int):(mL n).length=18:=by rfl
theorem OE(n:Int):mL (cG n)=mL n:=by grind [mL,cG]
theorem vF(h:Lt.inR n):gH (mL n)=(cG n,true):=by grind [gH,XQ,Zw,OE]
theorem fU(s:List UInt8)(a:Lt.Arg):nX s a=true ↔ bk a=true/\aO a=s:=by grind [nX,Bo,sf]
theorem tD{a:UInt8}{r:List UInt8}(h:Lt.Name (a::r)=true):Lt.letter a=true:=by grind [Lt.Name]
theorem FG(n:Int):Lt.Name (aQ n)=false:=by
 cases b:aQ n with
 |nil=>rfl
 |cons a r=>
  have hb:=jP n a (by grind)
  cases hN:Lt.Name (a::r)with
  |false=>rfl
  |true=>
   have:=tD hN
   unfold Lt.letter uX at this;rcases hb with rfl|hb
   all_goals grind
theorem LH:aO ⟨2,[],n⟩=aQ n:=by rfl
theorem Er(h:Lt.Plain n=n):aO ⟨3,[],n⟩=gW n:=by simp[aO,bk,h]
theorem afP:aO ⟨4,[],0⟩=[110,117,108,108]:=by decide
theorem Rk(h0:0<=n)(h1:n<=999):aO ⟨5,[],n⟩=35::aQ n:=by grind [aO,bk]
variable{s:List UInt8}
theorem Z3(h:Lt.Name s=true):aO ⟨1,s,0⟩=s:=by simp[aO,bk,h]
theorem ZY(s:List UInt8):nX s ⟨1,s,0⟩=Lt.Name s:=by grind [nX,Bo,sf,Z3,bk]
theorem nW(h:bk a=true)(ok:a.ok):dG (aO a)=(a,true):=by
 obtain⟨k,s,n⟩:=a;have ok:Lt.inR n:=ok
 rcases gQ h with⟨hk,hN,hn⟩|⟨hk,hs⟩|⟨hk,hs,hp⟩|⟨hk,hs,hn⟩|⟨hk,hs,h0,h1⟩
 .grind [Z3,dG,ZY]
 .grind [LH,dG,ZY,FG,jV,fU]
 .subst hk;subst hs;rw[Er hp];have e:gW n=48::102::(gW n).drop 2:=rfl
  have hN:Lt.Name (gW n)=false:=by
   cases hN:Lt.Name (gW n)with
   |false=>rfl
   |true=>have:=tD hN;revert this;decide
  have h2:∀m,nX (gW n) ⟨2,[],m⟩=false:=by
   intro m;cases b:nX (gW n) ⟨2,[],m⟩with
   |false=>rfl
   |true=>
    have:=((fU _ _).1 b).2
    rw[LH]at this;have hb:=jP m 102 (by grind)
    grind
  unfold dG;rw[ZY,hN,h2,if_neg (by decide),if_neg (by decide)];have c:(gH (gW n)).1=n:=by rw[<- Ae,vF ok,lF];exact hp
  grind [fU,Er]
 .subst hk;subst hs;subst hn;decide +kernel
 have hN:Lt.Name (35::aQ n)=false:=by
  cases hN:Lt.Name (35::aQ n)with
  |false=>rfl
  |true=>have:=tD hN;revert this;decide
 have h2:∀m,nX (35::aQ n) ⟨2,[],m⟩=false:=by
  intro m;cases b:nX (35::aQ n) ⟨2,[],m⟩with
  |false=>rfl
  |true=>
   have:=((fU _ _).1 b).2
   rw[LH]at this;have hb:=jP m 35 (by grind)
   grind
 have h3:∀m,nX (35::aQ n) ⟨3,[],m⟩=false:=by
  intro m;cases b:nX (35::aQ n) ⟨3,[],m⟩with
  |false=>rfl
  |true=>
   obtain⟨hr,this⟩:=(fU _ _).1 b;rcases gQ hr with h|h|h|h|h
   all_goals grind [Er,gW]
 grind [fU,afP,dG,ZY,jV,Rk]
theorem nV(h:(dG s).2=true):bk (dG s).1=true/\aO (dG s).1=s:=by grind [dG,fU]
variable{objs:Bool}
theorem q9(h:bw objs a=true)(ok:a.ok):dC objs (aO a)=true:=by grind [bw,dC,nW]
theorem sW(h:dC objs s=true):bw objs (dG s).1=true:=by grind [dC,bw,nV]
theorem Ec{l:List Lt.Arg}(h:cb l objs=true)(ok:wg l):br (Lt.puts l) objs=(l,true):=by
 unfold cb at h;rw[akZ]at h;unfold br Lt.puts;have h1:(l.map aO).all (dC objs)=true:=by rw[akZ];intro w hw;obtain⟨a,b,rfl⟩:=ak5.1 hw;exact q9 (h a b) (ok a b)
 have h2:(l.map aO).map (λw=>(dG w).1)=l:=by
  have:∀a∈l,((λw=>(dG w).1) ∘ aO) a=id a:=λa b=>by
   show(dG (aO a)).1=a
   have:=h a b
   unfold bw at this;simp only[akI]at this;rw[nW this.1 (ok a b)]
  simp_all[ak2]
 grind
variable{l:List (List UInt8)}
theorem pj(h:(br l objs).2=true):cb (br l objs).1 objs=true/\(br l objs).1.length=l.length/\Lt.puts (br l objs).1=l:=by
 unfold br at h|-;split at h
 .rename_i hc;rw[if_pos hc];refine⟨?_,by simp,?_⟩
  .grind [cb,sW]
  unfold Lt.puts;have:∀w∈l,(aO ∘ (λw=>(dG w).1)) w=id w:=λw hw=>by grind [dC,nV]
  simp_all[ak2]
 grind
theorem tH:∀{l:List Lt.Bind},(∀b∈l,Lt.Name b.Name=true/\bw objs b.A=true/\b.A.ok)->bv objs (l.flatMap λb=>[b.Name,aO b.A])=some l
 |[],_=>rfl
 |b::r,h=>by
  have ih:=tH (l:=r) (λx hx=>h x (by grind))
  have a:bk b.A=true:=by grind [bw]
  simp_all[bv,bb,q9,nW]
theorem xF:∀{l:List (List UInt8)}{x:List Lt.Bind},bv objs l=some x->(∀b∈x,Lt.Name b.Name=true/\bw objs b.A=true)/\(x.flatMap λb=>[b.Name,aO b.A])=l
 |[],x,h=>by grind [bv]
 |[_],x,h=>by grind [bv]
 |a::b::r,x,h=>by
  rw[bv]at h;split at h
  .rename_i hc;rw[akI,bb]at hc;cases hr:bv objs r with
   |none=>grind
   |some y=>
    obtain⟨k1,k2⟩:=xF hr
    grind [sW,dC,nV]
  grind
theorem KL(w:List UInt8):∀(l:List (List UInt8))(n m:Int),FZ w l n=(m,true)->∃i:Nat,i<l.length/\m=n+(i:Int)/\l.getD i []=w
 |[],n,m,h=>by grind [FZ]
 |x::r,n,m,h=>by
  rw[FZ]at h;split at h
  .grind
  obtain⟨i,h1,h2,h3⟩:=KL w r _ _ h;exact⟨i+1,by grind,by omega,by grind⟩
variable{w:List UInt8}
theorem Lh(h:(Lt.sOp w).2=true):(1<=(Lt.sOp w).1/\(Lt.sOp w).1<=34)/\(Lt.Of (Lt.sOp w).1).1.Word=w/\(Lt.Of (Lt.sOp w).1).2=true:=by
 have e:Lt.sOp w=((Lt.sOp w).1,true):=by grind
 obtain⟨i,h1,h2,h3⟩:=KL w (gw.drop 1) 1 (Lt.sOp w).1 e;have hi:i < 34:=h1
 have ho:=pf (Lt.sOp w).1
 grind (splits:=20) [Lt.rOf]
theorem ad9(h:(Lt.Of op).2=true):Lt.sOp (Lt.Of op).1.Word=(op,true):=by
 by_cases hc:1<=op/\op<=34
 .obtain⟨k,rfl⟩:=alG (show 0<=op by omega);have hk:k < 35:=by omega
  have:∀k:Fin 35,1<=k.1->Lt.sOp (Lt.Of (k.1:Int)).1.Word=((k.1:Int),true):=by decide +kernel
  exact this ⟨k,hk⟩ (by grind)
 rw[<- (pf op).1]at h
 grind [Lt.rOf]
theorem dA(a b:List Lt.Line):eB (a++b)=eB a++eB b:=by simp[eB]
theorem ly(w:List (List UInt8)):eB [Lt.ln w]=Lt.lnT w:=by simp[eB,Lt.ln,Lt.lnT]
theorem nB(f:α->List (List UInt8))(l:List α):eB (l.map λx=>Lt.ln (f x))=l.flatMap λx=>Lt.lnT (f x):=by
 induction l with
 |nil=>rfl
 |cons a r ih=>rw[akM,alQ,<- ih,<- ly,<- dA];rfl
theorem oW(f:α->List Lt.Line)(l:List α):eB (l.flatMap f)=l.flatMap λx=>eB (f x):=by
 induction l with
 |nil=>rfl
 |cons a r ih=>grind [dA]
theorem oJ{f g:α->List β}{l:List α}(h:∀x∈l,f x=g x):l.flatMap f=l.flatMap g:=by induction l<;>grind
theorem UA(h:Lt.instr i=true):mM i=Lt.words i:=by
 have ho:=iP h
 obtain⟨_,e,a,d,_,_⟩:=pf i.Op;unfold mM Lt.words xJ Lt.puts;have b:cv=aO:=funext sf
 by_cases hc:i.Op=26\/i.Op=27
 .have:=ho.least hc
  cases c:i.Args<;>grind
 grind
variable{t:Lt.Term}
theorem rj(h:fJ t=true) :
  (∃x,t=⟨1,⟨0,[],0⟩,[x],0⟩/\Lt.Name x=true)\/(∃a x y,t=⟨2,a,[x,y],0⟩/\bw false a=true/\Lt.Name x=true/\Lt.Name y=true) \/
  (∃a,t=⟨3,a,[],0⟩/\bw false a=true)\/(∃n,t=⟨4,⟨0,[],0⟩,[],n⟩):=by
 obtain⟨k,a,b,n⟩:=t;unfold fJ DI at h;simp only[akI]at h;obtain⟨c,h⟩:=h;split at h
 .simp only[akI,decide_eq_true_eq]at h;obtain⟨⟨rfl,hl⟩,rfl⟩:=h
  match b,hl with
  |[x],_=>grind
 split at h
 .simp only[akI,decide_eq_true_eq]at h;obtain⟨⟨d,hl⟩,rfl⟩:=h
  match b,hl with
  |[x,y],_=>grind
 split at h
 all_goals simp_all
theorem Zu(h:fJ t=true):Bl t=Lt.lnT (ko t):=by
 unfold Bl K3 ko kA;rcases rj h with⟨x,rfl,_⟩|⟨a,x,y,rfl,_⟩|⟨a,rfl,_⟩|⟨n,rfl⟩
 all_goals simp_all[sf]
theorem wX(first:List UInt8)(l:List Lt.Var):ke first l=eB (lU first l):=(nB (λv:Lt.Var=>[first,v.Name,v.Type_]) l).symm
theorem Uy(h:Lt.instr i=true):pe i=eB (ll i):=by
 have a:cv=aO:=funext sf
 unfold pe ll;rw[dA,dA,ly,nB,nB,UA h];unfold mr j0 qF qM Lt.puts;rw[a];rfl
theorem OC(h:Lt.block b=true):mn b=eB (dV b):=by
 have c:cv=aO:=funext sf
 obtain⟨_,a,_,hc⟩:=zA h;unfold mn dV;rw[dA,dA,dA,ly,nB,oW,ly,Zu a,oJ (λx hx=>Uy (hc x hx))]
 grind [xK,Cm]
theorem Uz(h:aF f=true):qD f=eB (gu f):=by
 have ho:=yA h
 grind [qD,gu,dA,ly,oW,wX,oJ,OC,FuncOk.bl]
theorem D2(h:aY p=true):jx p=eB (jS p):=by
 have ho:=FP h
 unfold jx jS;rw[dA,dA,dA,dA,oW,oW,<- wX,oJ (λx hx=>Uz (ho.fn x hx))];have b:p.Classes.flatMap mq=p.Classes.flatMap λx=>eB (iL x):=oJ (λc _=>by grind [mq,iL,dA,ly,wX])
 have a:p.Externs.flatMap qC=eB (p.Externs.map rl):=(nB (λx:Lt.Extern=>[[101,120,116,101,114,110],x.Name,Lt.number x.N]) p.Externs).symm
 grind [eB,ly]
def pF(c:UInt8):Bool:=decide (33<=c.toNat)&&decide (c.toNat<=126)&&!decide (c=59)
def fI(w:List UInt8):Prop:=w≠[]/\∀c∈w,pF c=true
def sD(x:Lt.Line):Prop:=x.Words≠[]/\∀w∈x.Words,fI w
theorem aS(h:(!decide (w=[])&&w.all pF)=true):fI w:=by simp only[akI,alC,decide_eq_false_iff_not,akZ]at h;exact h
theorem Cl{c:UInt8}(h:iR c=true):pF c=true:=by
 unfold iR Lt.letter uX kY at h;unfold pF;simp only[alO,akI,decide_eq_true_eq,alC,decide_eq_false_iff_not]at h|-;refine⟨⟨by omega,by omega⟩,?_⟩;rintro rfl
 grind
theorem bY(h:Lt.Name s=true):fI s:=by unfold Lt.Name at h;simp only[akI,alC,decide_eq_false_iff_not,akZ]at h;exact⟨h.1.1.1.1,λc hc=>Cl (h.2 c hc)⟩
theorem Dv(h:Lt.kind s=true):fI s:=by
 unfold Lt.kind at h;simp only[alO,decide_eq_true_eq]at h;rcases h with(rfl|rfl)|h
 .exact aS (by decide)
 .exact aS (by decide)
 exact bY h
theorem qn(n:Int):fI (aQ n):=by
 refine⟨wP n,λc hc=>?_⟩;rcases jP n c hc with rfl|h
 .decide
 unfold pF;simp only[akI,decide_eq_true_eq,alC,decide_eq_false_iff_not];refine⟨⟨by omega,by omega⟩,?_⟩;rintro rfl
 grind
theorem Tn(k:Nat):pF (mE k)=true:=by
 unfold mE;have h:k % 16 < 16:=amU _ (by decide)
 generalize k % 16=j at h;have:∀j:Fin 16,pF (Tp.getD j.1 0)=true:=by decide
 exact this ⟨j,h⟩
theorem XR(n:Int):fI (gW n):=by
 refine⟨by simp[gW],λc hc=>?_⟩;rw[<- Ae]at hc;unfold mL at hc;rw[iX,yB 16 _ _ (BitVec.isLt _),amB]at hc;rcases akS.1 hc with hc|hc
 .simp only[akU,List.not_mem_nil,or_false]at hc;rcases hc with rfl|rfl<;>decide
 grind [Tn]
theorem U7(h:bk a=true):fI (aO a):=by
 obtain⟨k,s,n⟩:=a;rcases gQ h with⟨hk,hN,hn⟩|⟨hk,hs⟩|⟨hk,hs,hp⟩|⟨hk,hs,hn⟩|⟨hk,hs,h0,h1⟩
 .grind [Z3,bY]
 .grind [LH,qn]
 .grind [Er,XR]
 .subst hk;subst hs;subst hn;exact aS (by decide)
 subst hk;subst hs;rw[Rk h0 h1];refine⟨by simp,λc hc=>?_⟩;rcases akU.1 hc with rfl|hc
 .decide
 exact(qn n).2 c hc
theorem pW(h:bw objs a=true):fI (aO a):=by grind [bw,U7]
theorem D1{l:List Lt.Arg}(h:cb l objs=true):∀w∈Lt.puts l,fI w:=by
 intro w hw;obtain⟨a,b,rfl⟩:=ak5.1 hw
 grind [cb,pW]
theorem aaP(h:(Lt.Of op).2=true):fI (Lt.Of op).1.Word:=by
 by_cases hc:1<=op/\op<=34
 .obtain⟨k,rfl⟩:=alG (show 0<=op by omega);have hk:k < 35:=by omega
  have:∀k:Fin 35,1<=k.1->(!decide ((Lt.Of (k.1:Int)).1.Word=[])&&(Lt.Of (k.1:Int)).1.Word.all pF)=true:=by decide +kernel
  exact aS (this ⟨k,hk⟩ (by grind))
 rw[<- (pf op).1]at h
 grind [Lt.rOf]
theorem ax(h:fI w)(hl:∀v∈l,fI v):∀v∈w::l,fI v:=by grind
theorem dc:∀v∈([]:List (List UInt8)),fI v:=by simp
theorem ls{a b:List (List UInt8)}(h:∀v∈a,fI v)(hl:∀v∈b,fI v):∀v∈a++b,fI v:=by grind
theorem Ds{n:α->List UInt8}{a:α->List UInt8}{l:List α}(h:∀x∈l,fI (n x)/\fI (a x)):∀v∈l.flatMap (λx=>[n x,a x]),fI v:=by grind
theorem O5(h:Lt.instr i=true):sD (Lt.ln (Lt.words i)):=by
 have ho:=iP h
 have hp:=D1 ho.aok
 refine⟨by simp[Lt.ln,Lt.words],?_⟩;refine ls (ls ?_ (ax (aaP ho.of) dc)) ?_
 .split
  .rename_i hd;exact ax (bY (ho.dstN hd)) (ax (aS (by decide)) dc)
  grind
 grind [InstrOk.least,Lt.Of,Lt.puts,bY,InstrOk.nmN]
theorem py{first:List UInt8}(hf:fI first){l:List Lt.Var}(h:Lt.typed l n=true):∀x∈lU first l,sD x:=by
 intro x hx;obtain⟨v,hv,rfl⟩:=ak5.1 hx;unfold Lt.typed at h;simp only[akI,akZ]at h;have:=h.2 v hv
 exact⟨by simp[Lt.ln],ax hf (ax (bY this.1) (ax (Dv this.2) dc))⟩
theorem ML(h:Lt.instr i=true):∀x∈ll i,sD x:=by
 have ho:=iP h
 intro x hx;rcases akS.1 hx with hx|hx
 .rcases akS.1 hx with hx|hx
  .grind [O5]
  obtain⟨f,hf,rfl⟩:=ak5.1 hx;obtain⟨h1,h2,_,_,_,h3⟩:=Ag (ho.fr f hf);refine⟨by simp[Lt.ln,j0],ls (ax (aS (by decide)) (ax (bY h1) (ax (bY h2) (ax (qn _) dc)))) (Ds (λb hb=>?_))⟩
  grind [ji,bY,pW]
 obtain⟨o,hm,rfl⟩:=ak5.1 hx;obtain⟨h1,_,h3⟩:=Rj (ho.ob o hm);exact⟨by simp[Lt.ln,qM],ls (ax (aS (by decide)) (ax (bY h1) dc)) (D1 h3)⟩
theorem Ix(h:Lt.block b=true):∀x∈dV b,sD x:=by
 obtain⟨hn,c,hp,hc⟩:=zA h;intro x hx;rcases akS.1 hx with hx|hx
 .rcases akS.1 hx with hx|hx
  .rcases akS.1 hx with hx|hx
   .rw[akY.1 hx];exact⟨by simp[Lt.ln],ax (aS (by decide)) (ax (bY hn) dc)⟩
   obtain⟨y,hy,rfl⟩:=ak5.1 hx;obtain⟨h1,_,_,h3⟩:=Oq (hp y hy);refine⟨by simp[Lt.ln,Cm],ls (ax (aS (by decide)) (ax (bY h1) dc)) (Ds (λi hi=>?_))⟩
   grind [oS,bY,pW]
  grind [ML]
 rw[akY.1 hx];generalize b.End=t at c;rcases rj c with⟨x,rfl,h1⟩|⟨a,x,y,rfl,h1,h2,h3⟩|⟨a,rfl,h1⟩|⟨n,rfl⟩
 .exact⟨by simp[Lt.ln,ko],ax (aS (by decide)) (ax (bY h1) dc)⟩
 .exact⟨by simp[Lt.ln,ko],ax (aS (by decide)) (ax (pW h1) (ax (bY h2) (ax (bY h3) dc)))⟩
 .exact⟨by simp[Lt.ln,ko],ax (aS (by decide)) (ax (pW h1) dc)⟩
 exact⟨by simp[Lt.ln,ko],ax (aS (by decide)) (ax (qn _) dc)⟩
theorem MV(h:aF f=true):∀x∈gu f,sD x:=by
 have ho:=yA h
 intro x hx;rcases akS.1 hx with hx|hx
 .rcases akS.1 hx with hx|hx
  .rcases akS.1 hx with hx|hx
   .rw[akY.1 hx];exact⟨by simp[Lt.ln],ax (aS (by decide)) (ax (bY ho.name) (ax (Dv ho.res) dc))⟩
   exact py (aS (by decide)) ho.params x hx
  exact py (aS (by decide)) ho.vars x hx
 obtain⟨b,hb,hx⟩:=amS.1 hx;exact Ix (ho.bl b hb) x hx
theorem Oz(h:aY p=true):∀x∈jS p,sD x:=by
 have ho:=FP h
 intro x hx;rcases akS.1 hx with hx|hx
 .rcases akS.1 hx with hx|hx
  .rcases akS.1 hx with hx|hx
   .rcases akS.1 hx with hx|hx
    .split at hx
     .rw[akY.1 hx];exact⟨by simp[Lt.ln],ax (aS (by decide)) dc⟩
     grind
    obtain⟨c,hc,hx⟩:=amS.1 hx;have hr:=ho.cl c hc
    unfold dk at hr;simp only[akI]at hr;rcases akS.1 hx with hx|hx
    .rw[akY.1 hx];exact⟨by simp[Lt.ln],ax (aS (by decide)) (ax (bY hr.1) dc)⟩
    exact py (aS (by decide)) hr.2 x hx
   exact py (aS (by decide)) ho.glob x hx
  obtain⟨e,a,rfl⟩:=ak5.1 hx;have hr:=ho.ex e a
  unfold cH at hr;simp only[akI]at hr;exact⟨by simp[Lt.ln,rl],ax (aS (by decide)) (ax (bY hr.1.1) (ax (qn _) dc))⟩
 obtain⟨f,hf,hx⟩:=amS.1 hx;exact MV (ho.fn f hf) x hx
theorem tT:∀(w r:List UInt8)(k:Lt.Cut),(∀c∈w,pF c=true)->k.remark=false->bR (w++r) k=bR r { k with w:=k.w++w }
 |[],r,k,_,_=>by simp
 |c::w,r,k,h,hr=>by
  have hc:=h c (by simp)
  unfold pF at hc;have a:¬ c=10:=by rintro rfl;grind
  have d:¬ c=32:=by rintro rfl;grind
  have e:¬ c=9:=by rintro rfl;grind
  have b:k.byte c={ k with w:=k.w++[c] }:=by grind [Lt.Cut.byte]
  rw[al6,bR,if_neg a,b,tT w r { k with w:=k.w++[c] } (λx hx=>h x (by grind)) hr];simp
theorem BD:∀(ws:List (List UInt8))(r:List UInt8)(out:List Lt.RLine)(l:List (List UInt8))(w:List UInt8)(n:Int),(∀v∈ws,fI v)->w≠[] ->
  bR (Lt.jw true ws++10::r) ⟨out,l,w,n,false,false⟩=bR r ⟨out++[⟨n,l++w::ws⟩],[],[],n+1,false,false⟩
 |[],r,out,l,w,n,_,hw=>by simp_all[Lt.jw,bR,Lt.Cut.line,Lt.Cut.word]
 |v::vs,r,out,l,w,n,h,hw=>by
  have hv:=h v (by simp)
  show bR (32::(v++Lt.jw true vs++10::r)) _=_
  rw[bR,if_neg (by decide)];have a:(⟨out,l,w,n,false,false⟩:Lt.Cut).byte 32=⟨out,l++[w],[],n,false,false⟩:=by grind [Lt.Cut.byte,Lt.Cut.word]
  rw[a,al1,tT v _ _ hv.2 rfl];simp only[amM];rw[BD vs r out (l++[w]) v n (λx hx=>h x (by grind)) hv.1];simp
def numb:Int->List Lt.Line->List Lt.RLine
 |_,[]=>[]
 |n,x::t=>⟨n,x.Words⟩::numb (n+1) t
theorem xQ:∀(L:List Lt.Line)(out:List Lt.RLine)(n:Int),(∀x∈L,sD x)->bR (eB L) ⟨out,[],[],n,false,false⟩=(out++numb n L,0,0)
 |[],out,n,_=>by simp[eB,bR,Lt.Cut.line,Lt.Cut.word,numb]
 |x::t,out,n,h=>by
  obtain⟨a,hx⟩:=h x (by simp);cases hw:x.Words with
  |nil=>grind
  |cons w ws=>
   rw[hw]at hx;have hv:=hx w (by simp)
   have e:eB (x::t)=w++(Lt.jw true ws++10::eB t):=by simp[eB,hw,Lt.jw]
   rw[e,tT w _ _ hv.2 rfl];simp only[amM];rw[BD ws _ out [] w n (λv hv=>hx v (by grind)) hv.1,xQ t _ _ (λy hy=>h y (by grind))];simp[numb,hw]
theorem OR{L:List Lt.Line}(h:∀x∈L,sD x)(hl:(eB L).length<=4194304):bQ (eB L)=(numb 1 L,0,0):=by grind [bQ,xQ]
theorem T0(l:List (List UInt8))(objs:Bool)(hp:dE l objs)(KK:List Lt.Arg×Bool->Prop)(h:KK (br l objs)):PM l objs KK:=by
 unfold PM;(try simp only[ac,am,ap,jval,bor,band,bnand,bimp,and_self]);have hr:l.length<=1099511627776:=hp
 refine u6 (λhl=>?_);refine ao _ l.length (λi x=>x=((l.take i).map (λw=>(dG w).1),(i:Int))/\(l.take i).all (dC objs)=true) (λR i x a hx b=>?_) (λR x hx=>?_) _ ⟨rfl,rfl⟩
 .obtain⟨rfl,c⟩:=hx;simp only[aW a,Int.toNat_natCast];refine⟨⟨akQ i,a⟩,?_⟩;refine ifk (λhc=>?_) (λhc=>?_)
  .grind [dC,az,br]
  grind [aZ,ae,dC]
 grind [br]
theorem A0(l:List (List UInt8)){i:Nat}(h:i+1<l.length):(l.drop (i+1)).take (i+2 - (i+1))=[l.getD (i+1) default]:=by
 have e:i+2 - (i+1)=1:=by omega
 grind [akX]
theorem w6(w:List UInt8)(objs:Bool):br [w] objs=if dC objs w=true then([(dG w).1],true)else([],false):=by grind [br]
theorem bu(w:List UInt8):fT [w]=be w:=by simp[fT]
theorem ii(v w:List UInt8):fT [v,w]=(be v&&be w):=by simp[fT]
theorem DR(objs:Bool):(l:List (List UInt8))->l.length % 2=1->bv objs l=none
 |[],h=>by grind
 |[_],_=>rfl
 |a::b::r,h=>by
  have:=DR objs r (by grind)
  grind [bv]
theorem NH(l:List (List UInt8))(f:Int)(objs:Bool)(hp:qy l f objs)(KK:List Lt.Bind×Bool->Prop)(h:KK (aA l f objs)):GW l f objs KK:=by
 obtain⟨hr,hf0,g⟩:=hp;have hr:l.length<=1099511627776:=hr
 obtain⟨n,rfl⟩:=alG hf0;unfold GW;dsimp only;rw[show((n:Nat):Int)=(Int.ofNat n)from rfl]at *;have d:∀k:Nat,Int.tmod (k:Int) 2=((k % 2:Nat):Int):=λk=>by rfl
 intro o c hl;have p:=c (decide ((l.length:Int)<Int.ofNat n)||!decide (Int.tmod (i64.wrap ((l.length:Int)-Int.ofNat n)) 2=0)) ?_
 .grind
 simp only[ac,am,ap,jval,bor,bu];refine ifk (λhc=>?_) (λhc=>?_)
 .grind [aA,cN,DR]
 simp only[alO,decide_eq_true_eq,alC,decide_eq_false_iff_not,not_or,Decidable.not_not]at hc;obtain⟨h1,h2⟩:=hc;have h1:n<=l.length:=by grind
 rw[cN kQ1 kQ1]at h2;rw[show((l.length:Int)-Int.ofNat n)=((l.length-n:Nat):Int)from by grind,d]at h2;have h2:(l.length-n) % 2=0:=by omega
 obtain⟨m,hm⟩:∃m,l.length=n+2*m:=⟨(l.length-n) / 2,by omega⟩
 have hs:aA l (Int.ofNat n) objs=match bv objs (l.drop n)with|some x=>(x,true)|none=>([],false):=by grind [aA]
 refine ao _ m (λi x=>∃a:List Lt.Bind,x=(a,((n+2*i:Nat):Int))/\a.length<=i/\bv objs (l.drop n)=(bv objs (l.drop (n+2*i))).map (a++·)) (λR i x hi hx e=>?_) (λR x hx=>?_) _ ⟨[],rfl,by simp,by simp⟩
 .obtain⟨a,rfl,j,hx⟩:=hx;have h3:n+2*i+1<l.length:=by omega
  have h4:n+2*i<l.length:=by omega
  have w1:i64.wrap (((n+2*i:Nat):Int)+1)=((n+2*i+1:Nat):Int):=ae kQ1
  have w2:i64.wrap (((n+2*i:Nat):Int)+2)=((n+2*i+2:Nat):Int):=by grind [cN]
  have hd:l.drop (n+2*i)=l.getD (n+2*i) default::l.getD (n+2*i+1) default::l.drop (n+2*(i+1)):=by grind [akX]
  simp only[w1,w2,aW h4,if_true,Int.toNat_natCast,A0 l h3];rw[hd,bv]at hx;rw[w6];refine λhl=>⟨by omega,by omega,⟨by omega,by omega⟩,?_,⟨by omega,h4⟩,?_⟩
  .show 1<=Lt.room
   decide
  by_cases b:(be (l.getD (n+2*i) default)&&dC objs (l.getD (n+2*i+1) default))=true
  .rw[if_pos b]at hx;simp only[akI]at b;rw[if_pos b.2,b.1];simp only[alK,Bool.or_false,akP,if_false];refine⟨⟨by omega,h4⟩,⟨by decide,by simp⟩,⟨⟨by grind,by grind⟩,?_⟩⟩;refine e _ ⟨_,rfl,by grind,?_⟩;rw[hx];cases bv objs (l.drop (n+2*(i+1)))<;>simp
  grind
 grind [bv]
theorem lN(h:cx l=true):l.length=3:=by grind [cx]
theorem gM{l:List Lt.Var}{k:Nat}(h:Lt.typed l k=true):l.length<=k:=by grind [Lt.typed]
theorem fS(n most:Int):(cP n most=0)=(n<most):=by grind [cP]
theorem gy{n c:Nat}(h:n<=5000)(hc:c<=200):(n+1<=4611686018427387904/\(n+1)*c<=140737488355328)=True:=by
 have:(n+1)*c<=5001*200:=Nat.mul_le_mul kQ1 hc
 grind
theorem mJ(h:1<l.length):((0:Int)<=1/\1<l.length)=True:=by simp[h]
theorem tW(h:2<l.length):((0:Int)<=2/\2<l.length)=True:=by simp[h]
theorem ba{l:List α}(h:l≠[])(h8:l.length<=5000):i64.wrap ((l.length:Int) - 1)=((l.length - 1:Nat):Int):=by grind [ak9,cN]
theorem cc{l:List α}(h:l≠[]):(l.length - 1<l.length)=True:=by grind [ak9]
theorem cf{l:List α}(h:l≠[]):((0:Int)<=((l.length - 1:Nat):Int)/\((l.length - 1:Nat):Int) < (l.length:Int))=True:=by grind [ak9]
theorem WG[Inhabited α]{l:List α}{p:α->Bool}(h:l.all p=true)(hn:l≠[]):p (l.getD (l.length - 1) default)=true:=by grind [ak9]
theorem NC(r:Lt.Read)(l:List (List UInt8))(hp:iS r l)(KK:((Bool×Int)×Lt.Read)->Prop)(h:KK (aV r l)):GR r l KK:=by
 obtain⟨hi,hl,hr⟩:=hp;have hr:l.length<=1099511627776:=hr
 have h0:0<l.length:=ak9.2 hl
 obtain⟨hw,⟨e,f,i⟩,⟨m,c,j⟩,h1,h2,h3⟩:=hi;have g:=gM (k:=8) m
 have n:=@gy r.P.Classes.length
 unfold GR;dsimp only;unfold aV at h;refine⟨⟨by decide,h0⟩,?_⟩;refine ifk (λhc=>?_) (λhc=>?_)
 .simp only[ac,am,ap,aX,aK,jval,bor,band,bnand,bimp,and_self,iW,pw,px,bu,alK,akP,if_false,fS]
  grind [fo,cP]
 rw[if_neg (by grind)]at h;refine ifk (λhc=>?_) (λhc=>?_)
 .rw[if_pos (by grind)]at h;simp only[ac,am,ap,aX,aK,jval,bor,band,bnand,bimp,and_self,iW,pw,px,bu,alK,akP,if_false,fS];refine ifk (λhb=>kk h ?_) (λhb=>?_)
  .grind [dZ]
  simp only[alO,alC,decide_eq_false_iff_not,not_or,Decidable.not_not,akV]at hb;have a:=h1 hb.1
  have b:=lN hb.2
  have hf:=gM (k:=8) (akI _ _ ▸ WG c a:_/\_).2
  have d:r.P.Classes.length<=5000:=by omega
  simp only[ba a d,cc a,cf a,Int.toNat_natCast,mJ (l:=l) kQ1,tW (l:=l) kQ1,implies_true,true_and,ak1,gy (show(r.P.Classes.getD (r.P.Classes.length - 1) default).Fields.length<=5000 by omega) (show 32<=200 by omega)]
  grind [dZ,cP,Lt.last]
 rw[if_neg (by grind)]at h;refine ifk (λhc=>?_) (λhc=>?_)
 .simp only[ac,am,ap,aX,aK,jval,bor,band,bnand,bimp,and_self,iW,pw,px,bu,alK,akP,if_false,fS];refine ifk (λhb=>kk h ?_) (λhb=>?_)
  .grind [cW]
  have b:l.length=3:=lN (by grind)
  simp only[mJ (l:=l) kQ1,tW (l:=l) kQ1,true_and,ak1,gy (show r.P.Globals.length<=5000 by omega) (show 32<=200 by omega)];refine λ_=>kk h ?_
  unfold cW cP
  grind
 rw[if_neg (by grind)]at h;refine ifk (λhc=>?_) (λhc=>?_)
 .rw[if_pos (by grind)]at h;simp only[ac,am,ap,aX,aK,jval,bor,band,bnand,bimp,and_self,iW,pw,px,bu,alK,akP,if_false,fS];refine⟨by grind,by grind,by grind,ifk (λhb=>kk h ?_) (λhb=>?_)⟩
  .grind [cM]
  have b:l.length=3:=by grind
  refine ifk (λhb=>kk h ?_) (λhb=>?_)
  .grind [cM]
  simp only[mJ (l:=l) kQ1,tW (l:=l) kQ1,implies_true,true_and,ak1,gy (show r.P.Externs.length<=5000 by omega) (show 24<=200 by omega)];refine λ_=>kk h ?_
  unfold cM cP
  grind
 rw[if_neg (by grind)]at h;refine ifk (λhc=>?_) (λhc=>?_)
 .simp only[ac,am,ap,aX,aK,jval,bor,band,bnand,bimp,and_self,iW,pw,px,bu,alK,akP,if_false,fS];refine ifk (λhb=>kk h ?_) (λhb=>?_)
  .grind [gI]
  have b:l.length=3:=lN (by grind)
  simp only[mJ (l:=l) kQ1,tW (l:=l) kQ1,true_and,ak1,gy (show r.P.Funcs.length<=5000 by omega) (show 104<=200 by omega)];refine λ_=>kk h ?_
  unfold gI cP
  grind
 grind
theorem wC[Inhabited α](l:List α)(x:α):(l++[x]).getD ((l++[x]).length - 1) default=x:=by grind
variable{r:Lt.Read}
theorem dM(h:Lt.Inv r)(hw:3<=r.Where):r.P.Funcs≠[]/\qb r.curF r.Where r.Long/\r.curF.Params.length<=6/\r.curF.Vars.length<=1024/\r.curF.Blocks.length<=256:=by
 obtain⟨_,_,_,_,_,h3⟩:=h;obtain⟨fs,f,hf,_,hp⟩:=h3 hw;have e:r.curF=f:=by grind [Lt.Read.curF]
 rw[e];exact⟨by grind,hp,gM (k:=6) hp.1.2.2.1,gM (k:=1024) hp.1.2.2.2,hp.2.1.1⟩
theorem il(h:Lt.Inv r)(hw:5<=r.Where):r.curF.Blocks≠[]/\r.curB.Phis.length<=1024/\r.curB.Code.length<=1024/\r.curB.Code.all Lt.instr=true:=by
 obtain⟨_,hp,_⟩:=dM h kQ1;obtain⟨_,⟨_,h0,hn⟩,_,hb⟩:=hp
 grind [Lt.Read.curB]
theorem qU(h:Lt.Inv r)(hw:6<=r.Where)(a:r.Where<=8):r.curB.Code≠[]/\r.curI.Frames.length<=16/\r.curI.Objs.length<=99:=by
 obtain⟨_,hp,_⟩:=dM h kQ1;obtain⟨_,⟨_,h0,hn⟩,_,hb⟩:=hp
 grind [Lt.Read.curB,wC,Lt.Read.curI,Lt.instr]
theorem xO(objs:Bool):∀(l:List (List UInt8))(x:List Lt.Bind),bv objs l=some x->l.length=2*x.length
 |[],x,h=>by grind [bv]
 |[_],x,h=>by grind [bv]
 |a::b::r,x,h=>by
  rw[bv]at h;split at h
  .cases hr:bv objs r with
   |none=>grind
   |some y=>
    have:=xO objs r y hr
    grind
  grind
theorem eh{f:Int}(h:(aA l f objs).2=true)(h0:0<=f):(l.length:Int)=f+2*((aA l f objs).1.length:Int):=by grind [aA,xO,amT]
theorem NJ(r:Lt.Read)(l:List (List UInt8))(hp:iS r l)(KK:((Bool×Int)×Lt.Read)->Prop)(h:KK (bg r l)):GY r l KK:=by
 obtain⟨hi,hl,hr⟩:=hp;have hr:l.length<=1099511627776:=hr
 have h0:0<l.length:=ak9.2 hl
 have a:=hi
 obtain⟨hw,⟨B,I,z⟩,⟨M,y,D⟩,h1,h2,h3⟩:=hi;unfold GY;dsimp only;unfold bg at h;refine λ_=>ifk (λhf=>?_) (λhf=>?_)
 .have hf:r.P.Funcs≠[]:=λe=>by grind
  have q:r.P.Funcs.length<=5000:=by omega
  have g:r.P.Funcs.getD (r.P.Funcs.length - 1) default=r.curF:=rfl
  refine λ_=>?_
  simp only[ba hf q,cc hf,cf hf,Int.toNat_natCast,true_and];refine⟨⟨by decide,h0⟩,?_⟩;refine ifk (λhc=>?_) (λhc=>?_)
  .rw[if_pos (by grind)]at h;simp only[ac,am,ap,aX,aK,jval,bor,band,bnand,bimp,and_self,iW,pw,px,bu,alK,akP,if_false,fS];refine ifk (λhb=>kk h ?_) (λhb=>?_)
   .grind [dH]
   have k:r.Where=3:=by grind
   have c:l.length=3:=lN (by grind)
   obtain⟨_,_,w,_⟩:=dM a kQ1;simp only[g,mJ (l:=l) kQ1,tW (l:=l) kQ1,implies_true,true_and,ak1,gy (show r.curF.Params.length<=5000 by omega) (show 32<=200 by omega)];refine λ_=>kk h ?_
   unfold dH cP Lt.Read.func Lt.last;simp only[g]
   grind
  rw[if_neg (by grind)]at h;refine ifk (λhc=>?_) (λhc=>?_)
  .rw[if_pos (by grind)]at h;simp only[ac,am,ap,aX,aK,jval,bor,band,bnand,bimp,and_self,iW,pw,px,bu,alK,akP,if_false,fS];refine ifk (λhb=>kk h ?_) (λhb=>?_)
   .grind [lW]
   have k:3<=r.Where:=by grind
   have c:l.length=3:=lN (by grind)
   obtain⟨_,_,_,v,_⟩:=dM a kQ1;simp only[g,mJ (l:=l) kQ1,tW (l:=l) kQ1,implies_true,true_and,ak1,gy (show r.curF.Vars.length<=5000 by omega) (show 32<=200 by omega)];refine λ_=>kk h ?_
   unfold lW cP Lt.Read.func Lt.last;simp only[g]
   grind
  rw[if_neg (by grind)]at h;refine ifk (λhc=>?_) (λhc=>?_)
  .rw[if_pos (by grind)]at h;simp only[ac,am,ap,aX,aK,jval,bor,band,bnand,bimp,and_self,iW,pw,px,bu,alK,akP,if_false,fS];refine⟨by grind,by grind,by grind,ifk (λhb=>kk h ?_) (λhb=>?_)⟩
   .grind [dY]
   have k:3<=r.Where:=by grind
   have c:l.length=2:=by grind
   obtain⟨_,_,_,_,n⟩:=dM a kQ1;simp only[g,mJ (l:=l) kQ1,implies_true,true_and,ak1,gy (show r.curF.Blocks.length<=5000 by omega) (show 136<=200 by omega)];refine λ_=>kk h ?_
   unfold dY cP Lt.Read.func Lt.last;simp only[g]
   grind
  rw[if_neg (by grind)]at h;refine ifk (λhc=>?_) (λhc=>?_)
  .rw[if_pos (by grind)]at h;simp only[ac,am,ap,aX,aK,jval,bor,band,bnand,bimp,and_self,iW,pw,px,bu,alK,akP,if_false,fS];refine⟨⟨by omega,by decide,by decide⟩,λt j s=>?_,?_⟩
   .grind [aA]
   refine ifk (λhb=>kk h ?_) (λhb=>?_)
   .grind [lM]
   have t:r.Where=5:=by grind
   have j:(aA l 2 false).2=true:=by grind
   have s:¬ (aA l 2 false).1.length=0:=by grind
   have c:=eh (l:=l) (f:=2) (objs:=false) j (by decide)
   have b:1<l.length:=by omega
   obtain⟨_,_,_,_,n⟩:=dM a kQ1;obtain⟨d,F,_⟩:=il a kQ1;refine λ_=>⟨λ_=>⟨by decide,b⟩,ifk (λp=>kk h ?_) (λp=>?_)⟩
   .unfold lM;grind
   have u:(aA l 2 false).1.length<=256:=by grind
   have m:r.Long < 1024:=by grind
   have C:0<=r.Long:=(dM a kQ1).2.1.2.1.2.1
   have K:i64.wrap (r.Long+1)=r.Long+1:=cN kQ1 kQ1
   have E:r.curF.Blocks.getD (r.curF.Blocks.length - 1) default=r.curB:=rfl
   have o:r.curF.Blocks.length<=5000:=by omega
   simp only[g,mJ (l:=l) b,true_and,ba d o,cc d,cf d,Int.toNat_natCast,E,ak1,gy (show r.curB.Phis.length<=5000 by omega) (show 40<=200 by omega),K];refine ao _ (aA l 2 false).1.length (λi x=>x=((i:Int),⟨l.getD 1 default,((aA l 2 false).1.take i).map λx=>⟨x.Name,x.A⟩⟩)) (λR i x b hx N=>?_) (λR x hx=>?_) _ rfl
   .grind [Int.toNat_natCast,akQ,ae,aZ]
   simp_all[lM,Lt.Read.block,Lt.Read.func,Lt.last,if_neg]
  grind
 have H:decide (r.Where=3)=false:=by grind
 have J:decide (r.Where=4)=false:=by grind
 have G:decide (r.Where=5)=false:=by grind
 have L:decide (r.Where=9)=false:=by grind
 simp only[H,J,G,L,al9,if_true,ac]
 grind [dH,lW,dY,lM,qy]
theorem r7(r:Lt.Read)(h:fC l=some t):lK r l=(0,⟨⟨r.P.SSA,r.P.Classes,r.P.Globals,r.P.Externs,r.P.Funcs.set (r.P.Funcs.length - 1) ⟨r.curF.Name,r.curF.Result,r.curF.Params,r.curF.Vars,r.curF.Blocks.set (r.curF.Blocks.length - 1) ⟨r.curB.Name,r.curB.Phis,r.curB.Code,t⟩⟩⟩,9,r.Long⟩):=by unfold lK;rw[h];rfl
theorem kV(r:Lt.Read)(h:fC l=none):lK r l=(3,⟨r.P,9,r.Long⟩):=by grind [lK]
theorem JZ(r:Lt.Read)(l:List (List UInt8))(hp:iS r l)(KK:((Bool×Int)×Lt.Read)->Prop)(h:KK (aT r l)):CR r l KK:=by
 obtain⟨hi,hl,hr⟩:=hp;have hr:l.length<=1099511627776:=hr
 have h0:0<l.length:=ak9.2 hl
 obtain⟨hw,⟨I,s,k⟩,_⟩:=id hi;unfold CR;dsimp only;unfold aT at h;refine⟨⟨by decide,h0⟩,?_⟩;simp only[ac,jval];refine ifk (λhc=>?_) (λhc=>?_)
 .rw[if_pos (by grind)]at h
  try simp only[al9]
  refine ifk (λs=>?_) (λs=>?_)
  .grind
  rw[if_neg (by grind)]at h;have O:5<=r.Where:=by grind
  have M:r.Where<=8:=by grind
  obtain⟨hf,_,_,_,H⟩:=dM hi kQ1;obtain⟨m,K,N,_⟩:=il hi kQ1;have y:r.P.Funcs.length<=5000:=by omega
  have w:r.curF.Blocks.length<=5000:=by omega
  have t:r.curB.Code.length<=5000:=by omega
  have C:r.P.Funcs.getD (r.P.Funcs.length - 1) default=r.curF:=rfl
  have x:r.curF.Blocks.getD (r.curF.Blocks.length - 1) default=r.curB:=rfl
  have u:r.curB.Code.getD (r.curB.Code.length - 1) default=r.curI:=rfl
  simp only[ba hf y,cc hf,cf hf,Int.toNat_natCast,C,ba m w,cc m,cf m,x,true_and,bu,ii];refine λ_ _=>⟨⟨by decide,h0⟩,?_⟩
  refine ifk (λk=>?_) (λk=>?_)
  .rw[if_pos (by grind)]at h;refine⟨⟨by omega,by decide,by decide⟩,?_⟩;simp only[ac,am,ap,aX,aK,jval,bor,band,bnand,bimp,and_self,iW,pw,px,bu,ii,alK,akP,if_false,fS];refine⟨λo n=>?_,λo n=>?_,λhb=>?_,ifk (λhb=>kk h ?_) (λhb=>ifk (λc=>kk h ?_) (λc=>?_))⟩
   .grind [eh]
   .grind [eh]
   .grind [eh]
   .grind [Lt.sAt]
   .have J:(decide (r.Where=7)&&(aA l 4 true).2&&be (Lt.w1 l)&&be (Lt.w2 l)&&((bd (Lt.w3 l)).2&&decide (0<=(bd (Lt.w3 l)).1)&&decide ((bd (Lt.w3 l)).1<=1024)))=false:=by grind
    grind [Lt.sAt]
   have J:(decide (r.Where=7)&&(aA l 4 true).2&&be (Lt.w1 l)&&be (Lt.w2 l)&&((bd (Lt.w3 l)).2&&decide (0<=(bd (Lt.w3 l)).1)&&decide ((bd (Lt.w3 l)).1<=1024)))=true:=by grind
   have o:r.Where=7:=by grind
   have n:(aA l 4 true).2=true:=by grind
   have G:=eh (l:=l) (f:=4) (objs:=true) n (by decide)
   obtain⟨a,z,v⟩:=qU hi kQ1 kQ1;simp only[ba a t,cc a,cf a,Int.toNat_natCast,u,true_and,mJ (l:=l) kQ1,tW (l:=l) kQ1,implies_true,ak1,gy (show r.curI.Frames.length<=5000 by omega) (show 64<=200 by omega)];refine λ_ _=>kk h ?_
   unfold Lt.sAt;rw[if_neg (by grind)];unfold Lt.Read.instr Lt.Read.block Lt.Read.func Lt.last;simp only[C,x,u];by_cases b:16 < (aA l 4 true).1.length\/16<=r.curI.Frames.length
   .rw[if_pos b,if_pos (by grind)]
   rw[if_neg b,if_neg (by grind)]
  rw[if_neg (by grind)]at h;refine ifk (λq=>?_) (λq=>?_)
  .rw[if_pos (by grind)]at h;simp only[ac,am,ap,aX,aK,jval,bor,band,bnand,bimp,and_self,iW,pw,px,bu,ii,alK,akP,if_false,fS];have D:(l.drop 2).take (l.length - 2)=l.drop 2:=alE (by grind)
   refine⟨λ_ B _=>?_,λ_=>by decide,λhb=>?_,λhb=>?_,ifk (λhb=>kk h ?_) (λhb=>ifk (λc=>kk h ?_) (λc=>?_))⟩
   .grind
   .grind
   .rw[D];show(l.drop 2).length<=1099511627776;grind
   .grind [lL]
   .grind [lL]
   rw[D]at c|-;have B:2<=l.length:=by grind
   have o:7<=r.Where:=by grind
   obtain⟨a,z,v⟩:=qU hi kQ1 kQ1;simp only[ba a t,cc a,cf a,Int.toNat_natCast,u,true_and,mJ (l:=l) kQ1,ak1,gy (show r.curI.Objs.length<=5000 by omega) (show 40<=200 by omega)];refine λ_ _=>kk h ?_
   unfold lL;rw[if_neg (by grind)];unfold Lt.Read.instr Lt.Read.block Lt.Read.func Lt.last cP;simp only[C,x,u];by_cases b:99<=r.curI.Objs.length
   .rw[if_pos b,if_pos kQ1]
   rw[if_neg b,if_neg kQ1]
  rw[if_neg (by grind)]at h;have hk:l.getD 0 default=[106,117,109,112]\/l.getD 0 default=[98,114,97,110,99,104]\/l.getD 0 default=[114,101,116]\/l.getD 0 default=[116,114,97,112]:=by grind
  refine λA j=>?_
  have L:A (true,(lK r l).1,(lK r l).2):=j _ h
  clear j h hc k q;have z0:((0:Int)<=0/\0<l.length)=True:=by grind
  have g:decide ((l.length:Int)=2)=decide (l.length=2):=decide_eq_decide.2 kQ1
  have d:decide ((l.length:Int)=4)=decide (l.length=4):=decide_eq_decide.2 kQ1
  rcases hk with e|e|e|e
  .simp only[e,show(decide (([106,117,109,112]:List UInt8)=[106,117,109,112]))=true from rfl,show(decide (([106,117,109,112]:List UInt8)=[98,114,97,110,99,104]))=false from rfl,show(decide (([106,117,109,112]:List UInt8)=[114,101,116]))=false from rfl,show(decide (([106,117,109,112]:List UInt8)=[116,114,97,112]))=false from rfl,z0,ac,am,ap,aX,aK,jval,bor,band,bnand,bimp,and_self,iW,pw,px,bu,ii,alK,akP,if_false,if_true,true_and,amA,alH,decide_true,not_false_eq_true,false_implies,true_implies,implies_true,g,d,forall_const]
   grind [r7,fC,kV]
  .simp only[e,show(decide (([98,114,97,110,99,104]:List UInt8)=[106,117,109,112]))=false from rfl,show(decide (([98,114,97,110,99,104]:List UInt8)=[98,114,97,110,99,104]))=true from rfl,show(decide (([98,114,97,110,99,104]:List UInt8)=[114,101,116]))=false from rfl,show(decide (([98,114,97,110,99,104]:List UInt8)=[116,114,97,112]))=false from rfl,z0,ac,am,ap,aX,aK,jval,bor,band,bnand,bimp,and_self,iW,pw,px,bu,ii,alK,akP,if_false,if_true,true_and,amA,alH,decide_true,not_false_eq_true,false_implies,true_implies,implies_true,g,d,forall_const];by_cases h4:l.length=4
   .have E:=A0 l (i:=0) kQ1
    rw[E,w6];have p:dE [l.getD 1 default] false:=by show 1<=1099511627776;omega
    refine⟨λ_=>⟨by decide,by omega⟩,λ_=>⟨by decide,by omega⟩,λ_=>by decide,λ_=>by decide,λ_=>⟨by decide,by omega⟩,λ_=>p,λ_ Q=>?_,λ_ _=>⟨by decide,by omega⟩,λ_ _=>⟨by decide,by omega⟩,kk L ?_⟩
    .grind
    have F:¬ Lt.w0 l=kj:=by grind
    grind [r7,fC,kV]
   grind [kV,fC]
  .simp only[e,show(decide (([114,101,116]:List UInt8)=[106,117,109,112]))=false from rfl,show(decide (([114,101,116]:List UInt8)=[98,114,97,110,99,104]))=false from rfl,show(decide (([114,101,116]:List UInt8)=[114,101,116]))=true from rfl,show(decide (([114,101,116]:List UInt8)=[116,114,97,112]))=false from rfl,z0,ac,am,ap,aX,aK,jval,bor,band,bnand,bimp,and_self,iW,pw,px,bu,ii,alK,akP,if_false,if_true,true_and,amA,alH,decide_true,not_false_eq_true,false_implies,true_implies,implies_true,g,d,forall_const];have F:¬ Lt.w0 l=kj:=by grind
   have n2:¬ Lt.w0 l=dO:=by grind
   by_cases h4:l.length=2
   .have E:(l.drop 1).take (l.length - 1)=[l.getD 1 default]:=by grind [A0]
    grind [w6,dE,r7,fC,kV]
   grind [kV,fC]
  simp only[e,show(decide (([116,114,97,112]:List UInt8)=[106,117,109,112]))=false from rfl,show(decide (([116,114,97,112]:List UInt8)=[98,114,97,110,99,104]))=false from rfl,show(decide (([116,114,97,112]:List UInt8)=[114,101,116]))=false from rfl,show(decide (([116,114,97,112]:List UInt8)=[116,114,97,112]))=true from rfl,z0,ac,am,ap,aX,aK,jval,bor,band,bnand,bimp,and_self,iW,pw,px,bu,ii,alK,akP,if_false,if_true,true_and,amA,alH,decide_true,not_false_eq_true,false_implies,true_implies,implies_true,g,d,forall_const]
  grind [r7,fC,kV]
 grind
end Go.Am
end
