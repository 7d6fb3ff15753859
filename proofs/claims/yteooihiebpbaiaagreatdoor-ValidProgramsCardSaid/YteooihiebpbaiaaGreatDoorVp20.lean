/-
  Part 20: AmG2 · AmG24 · AmPkL · AmPkRa · AmPkRb.
-/
import Derived.Test.YteooihiebpbaiaaGreatDoorVp19
set_option linter.unusedSimpArgs false
set_option linter.unusedVariables false
set_option linter.unusedSectionVars false
set_option linter.unnecessarySimpa false
open Lt
open Go.IntKind (i64)
section
namespace Go.Am
open Go
def VH(a:a8)(KK:(Int×Bool)->Prop):Prop:=ab (α:=Int×Int) (λk b=>aa (α:=Bool) (λh=>(a.length<=4611686018427387904->if decide (b.2 < (a.length:Int))then(h (decide (b.2 < 30)))else(h false))) (λv4=>if v4 then(aa (α:=Int) (λf=>aa (α:=Bool) (λi=>if decide (b.2=0)then(((0:Int)<=0/\0<a.length)/\i (decide ((((a.getD 0 0).toNat:Nat):Int)=(((45:UInt8).toNat:Nat):Int))))else(i false)) (λj=>if j then(f b.1)else((0<=b.2/\b.2.toNat<a.length)/\f (IntKind.u64.wrap ((IntKind.u64.wrap ((IntKind.u64.wrap (b.1*10))+(IntKind.u64.wrap (((a.getD b.2.toNat 0).toNat:Nat):Int)))) - 48))))) (λl=>k (l,(i64.wrap (b.2+1)))))else(aa (α:=Int) (λg=>aa (α:=Bool) (λd=>(a.length<=4611686018427387904->if decide (0 < (a.length:Int))then(((0:Int)<=0/\0<a.length)/\d (decide ((((a.getD 0 0).toNat:Nat):Int)=(((45:UInt8).toNat:Nat):Int))))else(d false))) (λe=>if e then(g (IntKind.u64.wrap (0-b.1)))else(g b.1))) (λc=>(ir (xI c))/\if !decide ((iY (xI c))=a)then(KK (0,false))else(KK ((xI c),true)))))) (0,0)
def VG(a:a8)(KK:(Int×Bool)->Prop):Prop:=(a.length<=4611686018427387904->if !decide ((a.length:Int)=18)then(KK (0,false))else(ab (α:=Int×Int) (λd b=>if decide (b.2 < 18)then((0<=b.2/\b.2.toNat<a.length)/\aa (α:=Int) (λc=>if decide (97<=(IntKind.u64.wrap (((a.getD b.2.toNat 0).toNat:Nat):Int)))then(c (IntKind.u64.wrap ((IntKind.u64.wrap (((a.getD b.2.toNat 0).toNat:Nat):Int)) - 87)))else(c (IntKind.u64.wrap ((IntKind.u64.wrap (((a.getD b.2.toNat 0).toNat:Nat):Int)) - 48)))) (λv4=>(16:Int)≠0/\d ((IntKind.u64.wrap ((IntKind.u64.wrap (b.1*16))+(Int.tmod v4 16))),(i64.wrap (b.2+1)))))else(if !decide ((pm (i64.wrap b.1))=a)then(KK (0,false))else(KK ((i64.wrap b.1),true)))) (0,2)))
def VF(a:a8)(KK:(Lt.Arg×Bool)->Prop):Prop:=have z9:=((0:Int)<=4/\(4:Int) < ((5:Nat):Int));have f:=((0:Int)<=3/\(3:Int) < ((5:Nat):Int));have e:=((0:Int)<=2/\(2:Int) < ((5:Nat):Int));have h:=((0:Int)<=1/\(1:Int) < ((5:Nat):Int));have z5:=((0:Int)<=0/\(0:Int) < ((5:Nat):Int));have z4:=(Lt.Arg.mk 4 ([]:List UInt8) 0);have d:=(Lt.Arg.mk 3 ([]:List UInt8) ((Bw a).1));have c:=(Lt.Arg.mk 2 ([]:List UInt8) ((fd a).1));aa (α:=a8) (λm=>(a.length<=4611686018427387904->if decide (0 < (a.length:Int))then((0:Int)<=1/\(1<=a.length/\a.length<=a.length)/\m ((a.drop 1).take (a.length - 1)))else(m ([]:List UInt8)))) (λq=>have z3:=(Lt.Arg.mk 5 ([]:List UInt8) ((fd q).1));aa (α:=Bool) (λn=>z5/\if jQ (Lt.Arg.mk 1 a 0)then(z5/\(fC (Lt.Arg.mk 1 a 0))/\n (decide ((bh (Lt.Arg.mk 1 a 0))=a)))else(n false)) (λv4=>if v4 then(z5/\KK ((Lt.Arg.mk 1 a 0),true))else(aa (α:=Bool) (λj=>h/\if jQ c then(h/\(fC c)/\j (decide ((bh c)=a)))else(j false)) (λp=>if p then(h/\KK (c,true))else(aa (α:=Bool) (λl=>e/\if jQ d then(e/\(fC d)/\l (decide ((bh d)=a)))else(l false)) (λo=>if o then(e/\KK (d,true))else(aa (α:=Bool) (λk=>f/\if jQ z4 then(f/\(fC z4)/\k (decide ((bh z4)=a)))else(k false)) (λg=>if g then(f/\KK (z4,true))else(aa (α:=Bool) (λb=>z9/\if jQ z3 then(z9/\(fC z3)/\b (decide ((bh z3)=a)))else(b false)) (λi=>if i then(z9/\KK (z3,true))else(KK ((Lt.Arg.mk 0 ([]:List UInt8) 0),false))))))))))))
def G3(a:List a8)(KK:Bool->Prop):Prop:=ab (α:=Int) (λc b=>(a.length<=4611686018427387904->if decide (b < (a.length:Int))then((0<=b/\b.toNat<a.length)/\if !(cj (a.getD b.toNat default))then(KK false)else(c (i64.wrap (b+1))))else(KK true))) 0
def PO(a:a8)(KK:Bool->Prop):Prop:=aa (α:=Bool) (λb=>if decide (a=[105,110,116])then(b true)else(if decide (a=[102,108,111,97,116])then(b true)else(b (cj a)))) (λc=>KK c)
def G8(a:List a8)(KK:Bool->Prop):Prop:=aa (α:=Bool) (λb=>(a.length<=4611686018427387904->if decide ((a.length:Int)=3)then(((0:Int)<=1/\1<a.length)/\if fG [(a.getD 1 default)] then(((0:Int)<=2/\2<a.length)/\b (D7 (a.getD 2 default)))else(b false))else(b false))) (λc=>KK c)
def G1(b:Int)(a:Int)(KK:Int->Prop):Prop:=if decide (a<=b)then(KK 2)else(KK 0)
def aeO(a:a8)(KK:(Int×Bool)->Prop):Prop:=ab (α:=Int) (λc b=>if decide (b<=34)then(((0:Int)<=b/\b < ((35:Nat):Int))/\b.toNat<gw.length/\if decide ((gw.getD b.toNat default)=a)then(KK (b,true))else(c (i64.wrap (b+1))))else(KK (0,false))) 1
def PN(a:List a8)(c:Bool)(KK:(List Lt.Arg×Bool)->Prop):Prop:=ab (α:=List Lt.Arg×Int) (λe b=>(a.length<=4611686018427387904->if decide (b.2 < (a.length:Int))then((0<=b.2/\b.2.toNat<a.length)/\aa (α:=Bool) (λd=>if !((Lt.dE (a.getD b.2.toNat default)).2)then(d true)else(if decide (((Lt.dE (a.getD b.2.toNat default)).1).Kind=5)then(d (!c))else(d false))) (λv4=>if v4 then(KK ([],false))else((b.1.length+([((Lt.dE (a.getD b.2.toNat default)).1)]:List Lt.Arg).length<=4611686018427387904/\(b.1.length+([((Lt.dE (a.getD b.2.toNat default)).1)]:List Lt.Arg).length)*32<=140737488355328)/\e ((b.1++([((Lt.dE (a.getD b.2.toNat default)).1)]:List Lt.Arg)),(i64.wrap (b.2+1))))))else(KK (b.1,true)))) ([],0)
def G4(a:List a8)(c:Int)(b:Bool)(KK:(List Lt.Bind×Bool)->Prop):Prop:=aa (α:=Bool) (λg=>(a.length<=4611686018427387904->if decide ((a.length:Int)<c)then(g true)else((2:Int)≠0/\g (!decide ((Int.tmod (i64.wrap ((a.length:Int)-c)) 2)=0))))) (λj=>if j then(KK ([],false))else(ab (α:=List Lt.Bind×Int) (λh v4=>have z4:=i64.wrap (v4.2+1);have z3:=i64.wrap (v4.2+2);have d:=(a.drop z4.toNat).take (z3.toNat-z4.toNat);have e:=([(Lt.Bind.mk (a.getD v4.2.toNat default) (((cm d b).1).getD 0 default))]:List Lt.Bind);(a.length<=4611686018427387904->if decide (v4.2 < (a.length:Int))then((0:Int)<=z4/\(0:Int)<=z3/\(z4.toNat<=z3.toNat/\z3.toNat<=a.length)/\(jz d b)/\aa (α:=Bool) (λf=>(0<=v4.2/\v4.2.toNat<a.length)/\if !(fG [(a.getD v4.2.toNat default)])then(f true)else(f (!((cm d b).2)))) (λi=>if i then(KK ([],false))else((0<=v4.2/\v4.2.toNat<a.length)/\((0:Int)<=0/\0 < ((cm d b).1).length)/\(v4.1.length+e.length<=4611686018427387904/\(v4.1.length+e.length)*48<=140737488355328)/\h ((v4.1++e),z3))))else(KK (v4.1,true)))) ([],c)))
def G0(a:Lt.Read)(b:List a8)(KK:((Bool×Int)×Lt.Read)->Prop):Prop:=have z20:=decide (a.Where<=2);have g:=!(decide (a.Where=9));have j:=fd (b.getD 2 default);have h:=((0:Int)<=2/\2<b.length);have i:=!(fG [(b.getD 1 default)]);have l:=([(Lt.Class.mk (b.getD 1 default) [])]:List Lt.Class);have p:=([(Lt.Func.mk (b.getD 1 default) (b.getD 2 default) [] [] [])]:List Lt.Func);have q:=([(Lt.Extern.mk (b.getD 1 default) (j.1))]:List Lt.Extern);have c:=((0:Int)<=1/\1<b.length);have z3:=([(Lt.Var.mk (b.getD 1 default) (b.getD 2 default))]:List Lt.Var);have f:=(i64.wrap ((a.P.Classes.length:Int) - 1));have o:=((0:Int)<=f/\f < ((a.P.Classes.length:Nat):Int));have r:=(a.P.Classes.getD f.toNat default).Fields;have s:=r.length+z3.length<=4611686018427387904/\(r.length+z3.length)*32<=140737488355328;have u:=Lt.Read.mk (Lt.Program.mk a.P.SSA (a.P.Classes.set f.toNat (Lt.Class.mk ((a.P.Classes.getD f.toNat default).Name) (r++z3))) a.P.Globals a.P.Externs a.P.Funcs) a.Where a.Long;((0:Int)<=0/\0<b.length)/\if decide ((b.getD 0 default)=[99,108,97,115,115])then(aa (α:=Bool) (λv=>if z20 then(if !decide ((b.length:Int)=2)then(v true)else(c/\v i))else(if g then(v true)else(if !decide ((b.length:Int)=2)then(v true)else(c/\v i)))) (λL=>if L then(KK ((true,3),a))else((a.P.Classes.length<=4611686018427387904->aa (α:=Lt.Read) (λG=>if decide ((cD (a.P.Classes.length:Int) 8)=0)then(aa (α:=Lt.Read) (λJ=>have H:=((a.P.Classes.length+l.length<=4611686018427387904/\(a.P.Classes.length+l.length)*40<=140737488355328)/\J (Lt.Read.mk (Lt.Program.mk a.P.SSA (a.P.Classes++l) a.P.Globals a.P.Externs a.P.Funcs) a.Where a.Long));c/\H/\H) (λF=>G (Lt.Read.mk F.P 1 F.Long)))else(G a)) (λv4=>KK ((true,(cD (a.P.Classes.length:Int) 8)),v4))))))else(if decide ((b.getD 0 default)=[102,105,101,108,100])then(aa (α:=Bool) (λI=>if !decide (a.Where=1)then(I true)else(I (!(db b)))) (λK=>if K then(KK ((true,3),a))else((a.P.Classes.length<=4611686018427387904->o/\(r.length<=4611686018427387904->aa (α:=Lt.Read) (λz=>have d:=(s/\o/\f.toNat<a.P.Classes.length/\f.toNat=f.toNat/\z u);if decide ((cD (r.length:Int) 8)=0)then(c/\h/\((o/\d/\d)/\(o/\s/\o/\f.toNat<a.P.Classes.length/\f.toNat=f.toNat/\z u))/\(o/\(d/\d)/\(d/\(d/\d))/\(d/\d))/\(o/\d/\d))else(z a)) (λB=>KK ((true,(cD (r.length:Int) 8)),B)))))))else(if decide ((b.getD 0 default)=[103,108,111,98,97,108])then(aa (α:=Bool) (λk=>if z20 then(k (!(db b)))else(if g then(k true)else(k (!(db b))))) (λy=>if y then(KK ((true,3),a))else((a.P.Globals.length<=4611686018427387904->aa (α:=Lt.Read) (λC=>have z9:=(a.P.Globals.length+z3.length<=4611686018427387904/\(a.P.Globals.length+z3.length)*32<=140737488355328)/\C (Lt.Read.mk (Lt.Program.mk a.P.SSA a.P.Classes (a.P.Globals++z3) a.P.Externs a.P.Funcs) a.Where a.Long);c/\h/\z9/\z9) (λt=>KK ((true,(cD (a.P.Globals.length:Int) 8)),(Lt.Read.mk t.P 2 t.Long)))))))else(if decide ((b.getD 0 default)=[101,120,116,101,114,110])then(aa (α:=Bool) (λe=>if z20 then(if !decide ((b.length:Int)=3)then(e true)else(c/\e i))else(if g then(e true)else(if !decide ((b.length:Int)=3)then(e true)else(c/\e i)))) (λw=>if w then(KK ((true,3),a))else(h/\aa (α:=Bool) (λm=>if !(j.2)then(m true)else(if decide (j.1 < 0)then(m true)else(m (decide (8<j.1))))) (λD=>if D then(KK ((true,3),a))else((a.P.Externs.length<=4611686018427387904->aa (α:=Lt.Read) (λE=>have z4:=((a.P.Externs.length+q.length<=4611686018427387904/\(a.P.Externs.length+q.length)*24<=140737488355328)/\E (Lt.Read.mk (Lt.Program.mk a.P.SSA a.P.Classes a.P.Globals (a.P.Externs++q) a.P.Funcs) a.Where a.Long));c/\z4/\z4) (λv20=>KK ((true,(cD (a.P.Externs.length:Int) 8)),(Lt.Read.mk v20.P 2 v20.Long)))))))))else(if decide ((b.getD 0 default)=[102,117,110,99])then(aa (α:=Bool) (λn=>if z20 then(n (!(db b)))else(if g then(n true)else(n (!(db b))))) (λx=>if x then(KK ((true,3),a))else((a.P.Funcs.length<=4611686018427387904->aa (α:=Lt.Read) (λA=>have z5:=((a.P.Funcs.length+p.length<=4611686018427387904/\(a.P.Funcs.length+p.length)*104<=140737488355328)/\A (Lt.Read.mk (Lt.Program.mk a.P.SSA a.P.Classes a.P.Globals a.P.Externs (a.P.Funcs++p)) a.Where a.Long));c/\h/\z5/\z5) (λv24=>KK ((true,(cD (a.P.Funcs.length:Int) 8)),(Lt.Read.mk v24.P 3 0)))))))else(KK ((false,0),a))))))
def G6(a:Lt.Read)(b:List a8)(KK:((Bool×Int)×Lt.Read)->Prop):Prop:=have z26:=!decide (a.Where=4);have o:=((0:Int)<=2/\2<b.length);have z24:=!decide (a.Where=3);have k:=(!decide ((b.length:Int)=2));have i:=!(fG [(b.getD 1 default)]);have d:=((0:Int)<=1/\1<b.length);have h:=(aP b 2 false).1;have D:=([(Lt.Block.mk (b.getD 1 default) [] [] (Lt.Term.mk 0 (Lt.Arg.mk 0 ([]:List UInt8) 0) [] 0))]:List Lt.Block);have z5:=([(Lt.Var.mk (b.getD 1 default) (b.getD 2 default))]:List Lt.Var);have p:=(([]:List Lt.Var).length+z5.length<=4611686018427387904/\(([]:List Lt.Var).length+z5.length)*32<=140737488355328);have z4:=(i64.wrap ((a.P.Funcs.length:Int) - 1));have c:=(a.P.Funcs.getD z4.toNat default);have z3:=(i64.wrap (((c.Blocks).length:Int) - 1));have l:=((0:Int)<=z3/\z3 < (((c.Blocks).length:Nat):Int));have g:=(c.Blocks).getD z3.toNat default;(a.P.Funcs.length<=4611686018427387904->if decide (0 < (a.P.Funcs.length:Int))then((a.P.Funcs.length<=4611686018427387904->((0:Int)<=z4/\z4 < ((a.P.Funcs.length:Nat):Int))/\((0:Int)<=0/\0<b.length)/\if decide ((b.getD 0 default)=[112,97,114,97,109])then(aa (α:=Bool) (λY=>if z24 then(Y true)else(Y (!(db b)))) (λv2=>if v2 then(KK ((true,3),a))else(((c.Params).length<=4611686018427387904->aa (α:=Lt.Read) (λJ3=>have E:=((c.Params).length+z5.length<=4611686018427387904/\((c.Params).length+z5.length)*32<=140737488355328)/\z4.toNat<a.P.Funcs.length/\z4.toNat=z4.toNat/\J3 (Lt.Read.mk (Lt.Program.mk a.P.SSA a.P.Classes a.P.Globals a.P.Externs (a.P.Funcs.set z4.toNat (Lt.Func.mk (c.Name) (c.Result) ((c.Params)++z5) (c.Vars) (c.Blocks)))) a.Where a.Long);d/\o/\E/\E) (λv4=>KK ((true,(cD ((c.Params).length:Int) 6)),v4))))))else(if decide ((b.getD 0 default)=[118,97,114])then(aa (α:=Bool) (λL=>if z24 then(if z26 then(L true)else(L (!(db b))))else(L (!(db b)))) (λZ=>if Z then(KK ((true,3),a))else(((c.Vars).length<=4611686018427387904->aa (α:=Lt.Read) (λJ7=>have w:=((c.Vars).length+z5.length<=4611686018427387904/\((c.Vars).length+z5.length)*32<=140737488355328)/\z4.toNat<a.P.Funcs.length/\z4.toNat=z4.toNat/\J7 (Lt.Read.mk (Lt.Program.mk a.P.SSA a.P.Classes a.P.Globals a.P.Externs (a.P.Funcs.set z4.toNat (Lt.Func.mk (c.Name) (c.Result) (c.Params) ((c.Vars)++z5) (c.Blocks)))) a.Where a.Long);d/\o/\w/\w) (λW=>KK ((true,(cD ((c.Vars).length:Int) 1024)),(Lt.Read.mk W.P 4 W.Long)))))))else(if decide ((b.getD 0 default)=[98,108,111,99,107])then(aa (α:=Bool) (λu=>if z24 then(if z26 then(if !decide (a.Where=9)then(u true)else(if k then(u true)else(d/\u i)))else(if k then(u true)else(d/\u i)))else(if k then(u true)else(d/\u i))) (λQ=>if Q then(KK ((true,3),a))else(((c.Blocks).length<=4611686018427387904->aa (α:=Lt.Read) (λK=>have H:=((c.Blocks).length+D.length<=4611686018427387904/\((c.Blocks).length+D.length)*136<=140737488355328)/\z4.toNat<a.P.Funcs.length/\z4.toNat=z4.toNat/\K (Lt.Read.mk (Lt.Program.mk a.P.SSA a.P.Classes a.P.Globals a.P.Externs (a.P.Funcs.set z4.toNat (Lt.Func.mk (c.Name) (c.Result) (c.Params) (c.Vars) ((c.Blocks)++D)))) a.Where a.Long);d/\H/\H) (λy=>KK ((true,(cD ((c.Blocks).length:Int) 256)),(Lt.Read.mk y.P 5 y.Long)))))))else(if decide ((b.getD 0 default)=[112,104,105])then((qq b 2 false)/\aa (α:=Bool) (λn=>if !decide (a.Where=5)then(n true)else(if !((aP b 2 false).2)then(n true)else(if decide ((h.length:Int)=0)then(n true)else(d/\n i)))) (λI=>if I then(KK ((true,3),a))else(aa (α:=Bool) (λG=>(h.length<=4611686018427387904->if decide (256 < (h.length:Int))then(G true)else(G (decide (1024<=a.Long))))) (λJ=>if J then(KK ((true,2),a))else(d/\ab (α:=Int×Lt.Phi) (λS e=>have v:=((g.Phis).length+([e.2]:List Lt.Phi).length<=4611686018427387904/\((g.Phis).length+([e.2]:List Lt.Phi).length)*40<=140737488355328);have z9:=([(Lt.In.mk ((h.getD e.1.toNat default).Name) ((h.getD e.1.toNat default).A))]:List Lt.In);have X:=(Lt.Read.mk (Lt.Program.mk a.P.SSA a.P.Classes a.P.Globals a.P.Externs (a.P.Funcs.set z4.toNat (Lt.Func.mk (c.Name) (c.Result) (c.Params) (c.Vars) ((c.Blocks).set z3.toNat (Lt.Block.mk (g.Name) ((g.Phis)++([e.2]:List Lt.Phi)) (g.Code) (Lt.Term.mk ((g.End).Kind) ((g.End).A) ((g.End).To) ((g.End).N))))))) a.Where a.Long);(h.length<=4611686018427387904->if decide (e.1 < (h.length:Int))then(aa (α:=Lt.Phi) (λU=>have z21:=(e.2.Ins.length+z9.length<=4611686018427387904/\(e.2.Ins.length+z9.length)*48<=140737488355328)/\U (Lt.Phi.mk e.2.Dst (e.2.Ins++z9));(0<=e.1/\e.1.toNat<h.length)/\(0<=e.1/\e.1.toNat<h.length)/\z21/\z21) (λv20=>S ((i64.wrap (e.1+1)),v20)))else(((c.Blocks).length<=4611686018427387904->aa (α:=Lt.Read) (λz=>have m:=(v/\l/\z4.toNat<a.P.Funcs.length/\z3.toNat < (c.Blocks).length/\z4.toNat=z4.toNat/\z3.toNat=z3.toNat/\z X);((l/\m/\m)/\(l/\v/\l/\z4.toNat<a.P.Funcs.length/\z3.toNat < (c.Blocks).length/\z4.toNat=z4.toNat/\z3.toNat=z3.toNat/\z X))/\(l/\(m/\m)/\(m/\(m/\m))/\(m/\m))/\(l/\m/\m)) (λs=>KK ((true,0),(Lt.Read.mk s.P s.Where (i64.wrap (s.Long+1))))))))) (0,(Lt.Phi.mk (b.getD 1 default) [])))))))else(KK ((false,0),a)))))))else(((0:Int)<=0/\0<b.length)/\if decide ((b.getD 0 default)=[112,97,114,97,109])then(aa (α:=Bool) (λB=>if z24 then(B true)else(B (!(db b)))) (λv24=>if v24 then(KK ((true,3),a))else(aa (α:=Unit) (λx=>d/\o/\(p/\x ())/\(p/\x ())) (λv26=>KK ((true,(cD 0 6)),a)))))else(if decide ((b.getD 0 default)=[118,97,114])then(aa (α:=Bool) (λt=>if z24 then(if z26 then(t true)else(t (!(db b))))else(t (!(db b)))) (λv28=>if v28 then(KK ((true,3),a))else(aa (α:=Unit) (λC=>d/\o/\(p/\C ())/\(p/\C ())) (λad=>KK ((true,(cD 0 1024)),(Lt.Read.mk a.P 4 a.Long))))))else(if decide ((b.getD 0 default)=[98,108,111,99,107])then(aa (α:=Bool) (λj=>if z24 then(if z26 then(if !decide (a.Where=9)then(j true)else(if k then(j true)else(d/\j i)))else(if k then(j true)else(d/\j i)))else(if k then(j true)else(d/\j i))) (λv32=>if v32 then(KK ((true,3),a))else(aa (α:=Unit) (λO=>have z23:=((([]:List Lt.Block).length+D.length<=4611686018427387904/\(([]:List Lt.Block).length+D.length)*136<=140737488355328)/\O ());d/\z23/\z23) (λac=>KK ((true,(cD 0 256)),(Lt.Read.mk a.P 5 a.Long))))))else(if decide ((b.getD 0 default)=[112,104,105])then((qq b 2 false)/\aa (α:=Bool) (λq=>if !decide (a.Where=5)then(q true)else(if !((aP b 2 false).2)then(q true)else(if decide ((h.length:Int)=0)then(q true)else(d/\q i)))) (λv36=>if v36 then(KK ((true,3),a))else(aa (α:=Bool) (λF=>(h.length<=4611686018427387904->if decide (256 < (h.length:Int))then(F true)else(F (decide (1024<=a.Long))))) (λV=>if V then(KK ((true,2),a))else(d/\ab (α:=Int×Lt.Phi) (λM f=>have r:=([(Lt.In.mk ((h.getD f.1.toNat default).Name) ((h.getD f.1.toNat default).A))]:List Lt.In);(h.length<=4611686018427387904->if decide (f.1 < (h.length:Int))then(aa (α:=Lt.Phi) (λR=>have z20:=(f.2.Ins.length+r.length<=4611686018427387904/\(f.2.Ins.length+r.length)*48<=140737488355328)/\R (Lt.Phi.mk f.2.Dst (f.2.Ins++r));(0<=f.1/\f.1.toNat<h.length)/\(0<=f.1/\f.1.toNat<h.length)/\z20/\z20) (λT=>M ((i64.wrap (f.1+1)),T)))else(((False)/\(False))/\(False)/\(False)))) (0,(Lt.Phi.mk (b.getD 1 default) [])))))))else(KK ((false,0),a)))))))
def CV(a:Lt.Read)(b:List a8)(KK:((Bool×Int)×Lt.Read)->Prop):Prop:=have u:=((0:Int)<=3/\3<b.length);have z24:=(decide ((b.length:Int)=2));have p:=(b.drop 2).take (b.length - 2);have z21:=decide ((b.getD 0 default)=[97,116]);have z20:=fd (b.getD 3 default);have q:=cm ((b.drop 1).take (2 - 1)) false;have m:=((0:Int)<=2/\2<b.length);have s:=decide ((b.getD 0 default)=[111,98,106]);have o:=decide ((b.getD 0 default)=[114,101,116]);have l:=(b.drop 1).take (b.length - 1);have r:=decide ((b.getD 0 default)=[106,117,109,112]);have v:=decide ((b.getD 0 default)=[98,114,97,110,99,104]);have i:=((0:Int)<=0/\0<b.length);have g:=((0:Int)<=1/\1<b.length);have n:=([(Lt.Virt.mk (b.getD 1 default) ((cm p true).1))]:List Lt.Virt);have z9:=([(Lt.Frame.mk (b.getD 1 default) (b.getD 2 default) (z20.1) ((aP b 4 true).1))]:List Lt.Frame);have f:=(i64.wrap ((a.P.Funcs.length:Int) - 1));have c:=(a.P.Funcs.getD f.toNat default);have e:=(i64.wrap (((c.Blocks).length:Int) - 1));have d:=((c.Blocks).getD e.toNat default);have z23:=Lt.Term.mk ((d.End).Kind) ((d.End).A) ((d.End).To) ((d.End).N);have h:=(i64.wrap (((d.Code).length:Int) - 1));have z3:=((d.Code).getD h.toNat default);i/\aa (α:=Bool) (λy=>if z21 then(y z21)else(if s then(y s)else(if r then(y r)else(if v then(y v)else(if o then(y o)else(y (decide ((b.getD 0 default)=[116,114,97,112])))))))) (λU=>if U then(aa (α:=Bool) (λQ=>if decide (5<=a.Where)then(Q (!(decide (a.Where<=8))))else(Q true)) (λv4=>if v4 then(KK ((true,3),a))else((a.P.Funcs.length<=4611686018427387904->((0:Int)<=f/\f < ((a.P.Funcs.length:Nat):Int))/\((c.Blocks).length<=4611686018427387904->((0:Int)<=e/\e < (((c.Blocks).length:Nat):Int))/\i/\if z21 then((qq b 4 true)/\aa (α:=Bool) (λJ=>if !decide (a.Where=7)then(J true)else(if !((aP b 4 true).2)then(J true)else(g/\m/\J (!(fG [(b.getD 1 default),(b.getD 2 default)]))))) (λR=>if R then(KK ((true,3),a))else(u/\aa (α:=Bool) (λL=>if !(z20.2)then(L true)else(if decide (z20.1 < 0)then(L true)else(L (decide (1024<z20.1))))) (λT=>if T then(KK ((true,3),a))else(((d.Code).length<=4611686018427387904->((0:Int)<=h/\h < (((d.Code).length:Nat):Int))/\aa (α:=Bool) (λO=>(((aP b 4 true).1).length<=4611686018427387904->if decide (16 < (((aP b 4 true).1).length:Int))then(O true)else(O (decide (16<=((z3.Frames).length:Int)))))) (λK=>if K then(KK ((true,2),a))else(aa (α:=Lt.Read) (λH=>have z4:=(((z3.Frames).length+z9.length<=4611686018427387904/\((z3.Frames).length+z9.length)*64<=140737488355328)/\f.toNat<a.P.Funcs.length/\e.toNat < (c.Blocks).length/\h.toNat < (d.Code).length/\f.toNat=f.toNat/\e.toNat=e.toNat/\h.toNat=h.toNat/\H (Lt.Read.mk (Lt.Program.mk a.P.SSA a.P.Classes a.P.Globals a.P.Externs (a.P.Funcs.set f.toNat (Lt.Func.mk (c.Name) (c.Result) (c.Params) (c.Vars) ((c.Blocks).set e.toNat (Lt.Block.mk (d.Name) (d.Phis) ((d.Code).set h.toNat (Lt.Instr.mk (z3.Op) (z3.Dst) (z3.Name) (z3.Args) ((z3.Frames)++z9) (z3.Objs))) z23))))) a.Where a.Long));g/\m/\z4/\z4) (λI=>KK ((true,0),I))))))))))else(if s then(aa (α:=Bool) (λk=>if decide (a.Where < 7)then(k true)else(if decide ((b.length:Int) < 2)then(k true)else(if decide (10 < (b.length:Int))then(k true)else(g/\k (!(fG [(b.getD 1 default)])))))) (λG=>if G then(KK ((true,3),a))else((0:Int)<=2/\(2<=b.length/\b.length<=b.length)/\(jz p true)/\if !((cm p true).2)then(KK ((true,3),a))else(((d.Code).length<=4611686018427387904->((0:Int)<=h/\h < (((d.Code).length:Nat):Int))/\((z3.Objs).length<=4611686018427387904->aa (α:=Lt.Read) (λM=>have z5:=(((z3.Objs).length+n.length<=4611686018427387904/\((z3.Objs).length+n.length)*40<=140737488355328)/\f.toNat<a.P.Funcs.length/\e.toNat < (c.Blocks).length/\h.toNat < (d.Code).length/\f.toNat=f.toNat/\e.toNat=e.toNat/\h.toNat=h.toNat/\M (Lt.Read.mk (Lt.Program.mk a.P.SSA a.P.Classes a.P.Globals a.P.Externs (a.P.Funcs.set f.toNat (Lt.Func.mk (c.Name) (c.Result) (c.Params) (c.Vars) ((c.Blocks).set e.toNat (Lt.Block.mk (d.Name) (d.Phis) ((d.Code).set h.toNat (Lt.Instr.mk (z3.Op) (z3.Dst) (z3.Name) (z3.Args) (z3.Frames) ((z3.Objs)++n))) z23))))) a.Where a.Long));g/\z5/\z5) (λz=>KK ((true,(cD ((z3.Objs).length:Int) 99)),(Lt.Read.mk z.P 8 z.Long)))))))))else(aa (α:=Bool×Int×Lt.Read) (λj=>aa (α:=Bool) (λx=>i/\if r then(if z24 then(g/\x (fG [(b.getD 1 default)]))else(x false))else(x false)) (λv20=>if v20 then(g/\f.toNat<a.P.Funcs.length/\e.toNat < (c.Blocks).length/\j (true,0,(Lt.Read.mk (Lt.Program.mk a.P.SSA a.P.Classes a.P.Globals a.P.Externs (a.P.Funcs.set f.toNat (Lt.Func.mk (c.Name) (c.Result) (c.Params) (c.Vars) ((c.Blocks).set e.toNat (Lt.Block.mk (d.Name) (d.Phis) (d.Code) (Lt.Term.mk 1 (Lt.Arg.mk 0 ([]:List UInt8) 0) [(b.getD 1 default)] 0)))))) 9 a.Long)))else(aa (α:=Unit) (λD=>aa (α:=Bool) (λt=>i/\if v then(if decide ((b.length:Int)=4)then(m/\u/\t (fG [(b.getD 2 default),(b.getD 3 default)]))else(t false))else(t false)) (λv24=>if v24 then((0:Int)<=1/\(0:Int)<=2/\(1<=2/\2<=b.length)/\(jz ((b.drop 1).take (2 - 1)) false)/\if q.2 then(((0:Int)<=0/\0 < (q.1).length)/\m/\u/\f.toNat<a.P.Funcs.length/\e.toNat < (c.Blocks).length/\j (true,0,(Lt.Read.mk (Lt.Program.mk a.P.SSA a.P.Classes a.P.Globals a.P.Externs (a.P.Funcs.set f.toNat (Lt.Func.mk (c.Name) (c.Result) (c.Params) (c.Vars) ((c.Blocks).set e.toNat (Lt.Block.mk (d.Name) (d.Phis) (d.Code) (Lt.Term.mk 2 ((q.1).getD 0 default) [(b.getD 2 default),(b.getD 3 default)] 0)))))) 9 a.Long)))else(D ()))else(D ()))) (λS=>aa (α:=Unit) (λB=>aa (α:=Bool) (λC=>i/\if o then(C z24)else(C false)) (λv28=>if v28 then((0:Int)<=1/\(1<=b.length/\b.length<=b.length)/\(jz l false)/\if (cm l false).2 then(((0:Int)<=0/\0 < ((cm l false).1).length)/\f.toNat<a.P.Funcs.length/\e.toNat < (c.Blocks).length/\j (true,0,(Lt.Read.mk (Lt.Program.mk a.P.SSA a.P.Classes a.P.Globals a.P.Externs (a.P.Funcs.set f.toNat (Lt.Func.mk (c.Name) (c.Result) (c.Params) (c.Vars) ((c.Blocks).set e.toNat (Lt.Block.mk (d.Name) (d.Phis) (d.Code) (Lt.Term.mk 3 (((cm l false).1).getD 0 default) [] 0)))))) 9 a.Long)))else(B ()))else(B ()))) (λv26=>aa (α:=Unit) (λF=>aa (α:=Bool) (λE=>i/\if decide ((b.getD 0 default)=[116,114,97,112])then(E z24)else(E false)) (λv32=>if v32 then(g/\if (fd (b.getD 1 default)).2 then(f.toNat<a.P.Funcs.length/\e.toNat < (c.Blocks).length/\j (true,0,(Lt.Read.mk (Lt.Program.mk a.P.SSA a.P.Classes a.P.Globals a.P.Externs (a.P.Funcs.set f.toNat (Lt.Func.mk (c.Name) (c.Result) (c.Params) (c.Vars) ((c.Blocks).set e.toNat (Lt.Block.mk (d.Name) (d.Phis) (d.Code) (Lt.Term.mk 4 (Lt.Arg.mk 0 ([]:List UInt8) 0) [] ((fd (b.getD 1 default)).1))))))) 9 a.Long)))else(F ()))else(F ()))) (λV=>j (true,3,(Lt.Read.mk a.P 9 a.Long)))))))) (λw=>KK ((w.1,w.2.1),w.2.2)))))))))else(KK ((false,0),a)))
def GZ(a:Lt.Read)(b:List a8)(KK:((Int)×Lt.Read)->Prop):Prop:=have z5:=(i64.wrap ((a.P.Funcs.length:Int) - 1));have h:=(a.P.Funcs.getD z5.toNat default);have z3:=(i64.wrap (((h.Blocks).length:Int) - 1));have z9:=((0:Int)<=z3/\z3 < (((h.Blocks).length:Nat):Int));have k:=(h.Blocks).getD z3.toNat default;aa (α:=List a8×Lt.Instr) (λB=>aa (α:=Bool) (λz=>(b.length<=4611686018427387904->if decide (2 < (b.length:Int))then(((0:Int)<=1/\1<b.length)/\z (decide ((b.getD 1 default)=[61])))else(z false))) (λv4=>if v4 then(((0:Int)<=0/\0<b.length)/\if !(fG [(b.getD 0 default)])then(KK (3,a))else(((0:Int)<=0/\0<b.length)/\(0:Int)<=2/\(2<=b.length/\b.length<=b.length)/\B (((b.drop 2).take (b.length - 2)),(Lt.Instr.mk 0 (b.getD 0 default) ([]:List UInt8) [] [] []))))else(B (b,(Lt.Instr.mk 0 ([]:List UInt8) ([]:List UInt8) [] [] []))))) (λc=>have m:=(c.1.drop 3).take (c.1.length - 3);have f:=([(c.1.getD 1 default)]:List a8);have d:=Lt.sOp (c.1.getD 0 default);((0:Int)<=0/\0<c.1.length)/\aa (α:=Bool) (λr=>if decide (5<=a.Where)then(if !(decide (a.Where<=8))then(r true)else(if !(d.2)then(r true)else(r (!(((Lt.rOf (d.1)).1).Dst==(!decide (c.2.Dst=([]:List UInt8))))))))else(r true)) (λC=>if C then(KK (3,a))else(aa (α:=List a8×Lt.Instr) (λw=>aa (α:=Bool) (λy=>if decide (d.1=26)then(y true)else(y (decide (d.1=27)))) (λv=>if v then((c.1.length<=4611686018427387904->if decide ((c.1.length:Int) < 3)then(KK (3,a))else(((0:Int)<=2/\2<c.1.length)/\((0:Int)<=1/\1<c.1.length)/\(([]:List a8).length+f.length<=4611686018427387904/\(([]:List a8).length+f.length)*16<=140737488355328)/\(0:Int)<=3/\(3<=c.1.length/\c.1.length<=c.1.length)/\(f.length+m.length<=4611686018427387904/\(f.length+m.length)*16<=140737488355328)/\w ((f++m),(Lt.Instr.mk (d.1) c.2.Dst (c.1.getD 2 default) [] [] [])))))else(if ((Lt.rOf (d.1)).1).Named then((c.1.length<=4611686018427387904->if decide ((c.1.length:Int) < 2)then(KK (3,a))else(((0:Int)<=1/\1<c.1.length)/\(0:Int)<=2/\(2<=c.1.length/\c.1.length<=c.1.length)/\w (((c.1.drop 2).take (c.1.length - 2)),(Lt.Instr.mk (d.1) c.2.Dst (c.1.getD 1 default) [] [] [])))))else((0:Int)<=1/\(1<=c.1.length/\c.1.length<=c.1.length)/\w (((c.1.drop 1).take (c.1.length - 1)),(Lt.Instr.mk (d.1) c.2.Dst c.2.Name [] [] [])))))) (λl=>have j:=(((cm l.1 false).1).length:Int);have t:=([(Lt.Instr.mk l.2.Op l.2.Dst l.2.Name ((cm l.1 false).1) [] [])]:List Lt.Instr);have q:=(k.Code).length+t.length<=4611686018427387904/\((k.Code).length+t.length)*112<=140737488355328;have z4:=(Lt.Read.mk (Lt.Program.mk a.P.SSA a.P.Classes a.P.Globals a.P.Externs (a.P.Funcs.set z5.toNat (Lt.Func.mk (h.Name) (h.Result) (h.Params) (h.Vars) ((h.Blocks).set z3.toNat (Lt.Block.mk (k.Name) (k.Phis) ((k.Code)++t) (Lt.Term.mk ((k.End).Kind) ((k.End).A) ((k.End).To) ((k.End).N))))))) a.Where (i64.wrap (a.Long+1)));(jz l.1 false)/\aa (α:=Bool) (λe=>if !((cm l.1 false).2)then(e true)else(if ((Lt.rOf (d.1)).1).Named then(if !(fG [l.2.Name])then(e true)else(if decide (j < ((Lt.rOf (d.1)).1).Least)then(e true)else(e (decide (((Lt.rOf (d.1)).1).Most<j)))))else(if decide (j < ((Lt.rOf (d.1)).1).Least)then(e true)else(e (decide (((Lt.rOf (d.1)).1).Most<j)))))) (λu=>if u then(KK (3,a))else(if decide (1024<=a.Long)then(KK (2,a))else((a.P.Funcs.length<=4611686018427387904->((0:Int)<=z5/\z5 < ((a.P.Funcs.length:Nat):Int))/\((h.Blocks).length<=4611686018427387904->aa (α:=Lt.Read) (λo=>have g:=(q/\z9/\z5.toNat<a.P.Funcs.length/\z3.toNat < (h.Blocks).length/\z5.toNat=z5.toNat/\z3.toNat=z3.toNat/\o z4);((z9/\g/\g)/\(z9/\q/\z9/\z5.toNat<a.P.Funcs.length/\z3.toNat < (h.Blocks).length/\z5.toNat=z5.toNat/\z3.toNat=z3.toNat/\o z4))/\(z9/\(g/\g)/\(g/\(g/\g))/\(g/\g))/\(z9/\g/\g)) (λi=>aa (α:=Lt.Read) (λp=>aa (α:=Bool) (λn=>if decide (d.1=31)then(n true)else(n (decide (d.1=34)))) (λx=>if x then(p (Lt.Read.mk i.P 7 i.Long))else(p (Lt.Read.mk i.P 6 i.Long)))) (λs=>KK (0,s))))))))))))
def G2(b:Lt.Read)(a:List a8)(c:Bool)(KK:((Int)×Lt.Read)->Prop):Prop:=have e:=Lt.Read.mk (((bC b a).2).P) (((bC b a).2).Where) (((bC b a).2).Long);aa (α:=Bool) (λk=>(a.length<=4611686018427387904->if decide (2 < (a.length:Int))then(((0:Int)<=1/\1<a.length)/\k (decide ((a.getD 1 default)=[61])))else(k false))) (λn=>if n then((iu b a)/\KK (((fa b a).1),(Lt.Read.mk (((fa b a).2).P) (((fa b a).2).Where) (((fa b a).2).Long))))else(((0:Int)<=0/\0<a.length)/\if decide ((a.getD 0 default)=[115,115,97])then(aa (α:=Bool) (λl=>if !c then(l true)else(l (!decide ((a.length:Int)=1)))) (λv4=>if v4 then(KK (3,b))else(KK (0,(Lt.Read.mk (Lt.Program.mk true b.P.Classes b.P.Globals b.P.Externs b.P.Funcs) b.Where b.Long)))))else((iu b a)/\aa (α:=Bool×Int×Lt.Read) (λi=>if !((bC b a).1.1)then((iu e a)/\i ((bW e a).1.1,(bW e a).1.2,(Lt.Read.mk (((bW e a).2).P) (((bW e a).2).Where) (((bW e a).2).Long))))else(i ((bC b a).1.1,(bC b a).1.2,e))) (λf=>have g:=cy f.2.2 a;aa (α:=Bool×Int×Lt.Read) (λm=>if !f.1 then((iu f.2.2 a)/\m (g.1.1,g.1.2,(Lt.Read.mk ((g.2).P) ((g.2).Where) ((g.2).Long))))else(m (f.1,f.2.1,f.2.2))) (λd=>aa (α:=Int×Lt.Read) (λj=>if !d.1 then((iu d.2.2 a)/\j ((fa d.2.2 a).1,(Lt.Read.mk (((fa d.2.2 a).2).P) (((fa d.2.2 a).2).Where) (((fa d.2.2 a).2).Long))))else(j (d.2.1,d.2.2))) (λh=>KK (h.1,h.2)))))))
def G7(b:a8)(KK:(List Lt.RLine×Int×Int)->Prop):Prop:=(b.length<=4611686018427387904->if decide (4194304 < (b.length:Int))then(KK ([],0,2))else(ab (α:=List Lt.RLine×List a8×a8×Int×Bool×Bool×Int) (λu a=>have z3:=([(b.getD a.2.2.2.2.2.2.toNat 0)]:List UInt8);have g:=(((b.getD a.2.2.2.2.2.2.toNat 0).toNat:Nat):Int);have f:=(0<=a.2.2.2.2.2.2/\a.2.2.2.2.2.2.toNat<b.length);(b.length<=4611686018427387904->if decide (a.2.2.2.2.2.2<=(b.length:Int))then(aa (α:=List Lt.RLine×List a8×a8×Int×Bool×Bool) (λs=>aa (α:=Bool) (λp=>(b.length<=4611686018427387904->if decide (a.2.2.2.2.2.2=(b.length:Int))then(p true)else(f/\p (decide (g=(((10:UInt8).toNat:Nat):Int)))))) (λm=>aa (α:=Bool) (λt=>aa (α:=Bool) (λr=>if !m then(f/\r (decide (g=(((59:UInt8).toNat:Nat):Int))))else(r false)) (λn=>if n then(t true)else(t a.2.2.2.2.1))) (λq=>aa (α:=List a8×a8×Bool) (λh=>aa (α:=Bool) (λd=>if m then(d true)else(if q then(d true)else(f/\if decide (g=(((32:UInt8).toNat:Nat):Int))then(d true)else(f/\d (decide (g=(((9:UInt8).toNat:Nat):Int))))))) (λk=>if k then(aa (α:=List a8) (λi=>(a.2.2.1.length<=4611686018427387904->if decide (0 < (a.2.2.1.length:Int))then((a.2.1.length+([a.2.2.1]:List a8).length<=4611686018427387904/\(a.2.1.length+([a.2.2.1]:List a8).length)*16<=140737488355328)/\i (a.2.1++([a.2.2.1]:List a8)))else(i a.2.1))) (λl=>h (l,[],a.2.2.2.2.2.1)))else(aa (α:=Bool) (λe=>if a.2.2.2.2.2.1 then(e true)else(f/\if decide (g < (((33:UInt8).toNat:Nat):Int))then(e true)else(f/\e (decide ((((126:UInt8).toNat:Nat):Int)<g))))) (λo=>f/\(a.2.2.1.length+z3.length<=4611686018427387904/\(a.2.2.1.length+z3.length)*1<=140737488355328)/\h (a.2.1,(a.2.2.1++z3),o))))) (λc=>have z4:=([(Lt.RLine.mk a.2.2.2.1 c.1)]:List Lt.RLine);if m then(if c.2.2 then(KK ([],a.2.2.2.1,3))else(aa (α:=List Lt.RLine) (λj=>(c.1.length<=4611686018427387904->if decide (0 < (c.1.length:Int))then((a.1.length+z4.length<=4611686018427387904/\(a.1.length+z4.length)*32<=140737488355328)/\j (a.1++z4))else(j a.1))) (λv20=>s (v20,[],c.2.1,(i64.wrap (a.2.2.2.1+1)),false,c.2.2))))else(s (a.1,c.1,c.2.1,a.2.2.2.1,q,c.2.2)))))) (λv4=>u (v4.1,v4.2.1,v4.2.2.1,v4.2.2.2.1,v4.2.2.2.2.1,v4.2.2.2.2.2,(i64.wrap (a.2.2.2.2.2.2+1)))))else(KK (a.1,0,0)))) ([],[],[],1,false,false,0)))
def G5(a:a8)(KK:(Lt.Program×Int×Int)->Prop):Prop:=have d:=Lt.Program.mk false [] [] [] [];if !decide ((eK a).2.2=0)then(KK (d,(eK a).2.1,(eK a).2.2))else(ab (α:=Int×Lt.Read) (λf b=>have z3:=((eK a).1).getD b.1.toNat default;have c:=dM b.2 (z3.Words) (decide (b.1=0));(((eK a).1).length<=4611686018427387904->if decide (b.1 < (((eK a).1).length:Int))then((0<=b.1/\b.1.toNat < ((eK a).1).length)/\(K6 b.2 (z3.Words) (decide (b.1=0)))/\if !decide (c.1=0)then((0<=b.1/\b.1.toNat < ((eK a).1).length)/\KK (d,z3.N,c.1))else(f ((i64.wrap (b.1+1)),(Lt.Read.mk ((c.2).P) ((c.2).Where) ((c.2).Long)))))else(aa (α:=Bool) (λe=>if decide (b.2.Where<=2)then(e false)else(e (!(decide (b.2.Where=9))))) (λv4=>if v4 then(KK (d,0,3))else(KK (b.2.P,0,0)))))) (0,(Lt.Read.mk d 0 0)))
def PJ(a:Lt.Program)(KK:Bool->Prop):Prop:=(nH a)/\if decide ((lx (gJ a)).2.2=0)then(KK (Lt.Same a ((lx (gJ a)).1)))else(KK false)
def yW(a:List Lt.Var)(b:List Lt.Var)(KK:Bool->Prop):Prop:=(a.length<=4611686018427387904->(b.length<=4611686018427387904->if !decide ((a.length:Int)=(b.length:Int))then(KK false)else(ab (α:=Int) (λd c=>(a.length<=4611686018427387904->if decide (c < (a.length:Int))then((0<=c/\c.toNat<a.length)/\(0<=c/\c.toNat<b.length)/\if !(decide ((a.getD c.toNat default).Name=(b.getD c.toNat default).Name)&&decide ((a.getD c.toNat default).Type_=(b.getD c.toNat default).Type_))then(KK false)else(d (i64.wrap (c+1))))else(KK true))) 0)))
def yV(a:List Lt.Arg)(b:List Lt.Arg)(KK:Bool->Prop):Prop:=(a.length<=4611686018427387904->(b.length<=4611686018427387904->if !decide ((a.length:Int)=(b.length:Int))then(KK false)else(ab (α:=Int) (λd c=>(a.length<=4611686018427387904->if decide (c < (a.length:Int))then((0<=c/\c.toNat<a.length)/\(0<=c/\c.toNat<b.length)/\if !(decide ((a.getD c.toNat default).Kind=(b.getD c.toNat default).Kind)&&(decide ((a.getD c.toNat default).S=(b.getD c.toNat default).S)&&decide ((a.getD c.toNat default).N=(b.getD c.toNat default).N)))then(KK false)else(d (i64.wrap (c+1))))else(KK true))) 0)))
def xa(a:Lt.Instr)(b:Lt.Instr)(KK:Bool->Prop):Prop:=aa (α:=Bool) (λf=>if !decide (a.Op=b.Op)then(f true)else(if !decide (a.Dst=b.Dst)then(f true)else(if !decide (a.Name=b.Name)then(f true)else(if !(qx a.Args b.Args)then(f true)else(if !decide ((a.Frames.length:Int)=(b.Frames.length:Int))then(f true)else(f (!decide ((a.Objs.length:Int)=(b.Objs.length:Int))))))))) (λn=>if n then(KK false)else(ab (α:=Int) (λl v4=>have g:=b.Frames.getD v4.toNat default;have e:=a.Frames.getD v4.toNat default;(a.Frames.length<=4611686018427387904->if decide (v4 < (a.Frames.length:Int))then((0<=v4/\v4.toNat<a.Frames.length)/\(0<=v4/\v4.toNat<b.Frames.length)/\aa (α:=Bool) (λi=>if !decide (e.Func=g.Func)then(i true)else(if !decide (e.Block=g.Block)then(i true)else(if !decide (e.At=g.At)then(i true)else(i (!decide (((e.Vars).length:Int)=((g.Vars).length:Int))))))) (λm=>if m then(KK false)else(ab (α:=Int) (λk d=>have z4:=(g.Vars).getD d.toNat default;have z3:=(e.Vars).getD d.toNat default;((e.Vars).length<=4611686018427387904->if decide (d < ((e.Vars).length:Int))then((0<=d/\d.toNat < (e.Vars).length)/\(0<=d/\d.toNat < (g.Vars).length)/\if !(decide (z3.Name=z4.Name)&&(decide ((z3.A).Kind=(z4.A).Kind)&&(decide ((z3.A).S=(z4.A).S)&&decide ((z3.A).N=(z4.A).N))))then(KK false)else(k (i64.wrap (d+1))))else(l (i64.wrap (v4+1))))) 0)))else(ab (α:=Int) (λo c=>(a.Objs.length<=4611686018427387904->if decide (c < (a.Objs.length:Int))then(aa (α:=Bool) (λh=>(0<=c/\c.toNat<a.Objs.length)/\(0<=c/\c.toNat<b.Objs.length)/\if !decide ((a.Objs.getD c.toNat default).Class=(b.Objs.getD c.toNat default).Class)then(h true)else((0<=c/\c.toNat<a.Objs.length)/\(0<=c/\c.toNat<b.Objs.length)/\h (!(qx ((a.Objs.getD c.toNat default).Vals) ((b.Objs.getD c.toNat default).Vals))))) (λj=>if j then(KK false)else(o (i64.wrap (c+1)))))else(KK true))) 0))) 0))
def xd(a:Lt.Block)(b:Lt.Block)(KK:Bool->Prop):Prop:=aa (α:=Bool) (λf=>if !decide (a.Name=b.Name)then(f true)else(if !decide ((a.Phis.length:Int)=(b.Phis.length:Int))then(f true)else(if !decide ((a.Code.length:Int)=(b.Code.length:Int))then(f true)else(if !decide (a.End.Kind=b.End.Kind)then(f true)else(if !(decide (a.End.A.Kind=b.End.A.Kind)&&(decide (a.End.A.S=b.End.A.S)&&decide (a.End.A.N=b.End.A.N)))then(f true)else(if !decide (a.End.N=b.End.N)then(f true)else(f (!decide ((a.End.To.length:Int)=(b.End.To.length:Int)))))))))) (λn=>if n then(KK false)else(ab (α:=Int) (λm v4=>(a.End.To.length<=4611686018427387904->if decide (v4 < (a.End.To.length:Int))then((0<=v4/\v4.toNat<a.End.To.length)/\(0<=v4/\v4.toNat<b.End.To.length)/\if !decide ((a.End.To.getD v4.toNat default)=(b.End.To.getD v4.toNat default))then(KK false)else(m (i64.wrap (v4+1))))else(ab (α:=Int) (λo e=>have z5:=(0<=e/\e.toNat<b.Phis.length);have z4:=b.Phis.getD e.toNat default;have z3:=(0<=e/\e.toNat<a.Phis.length);have g:=(a.Phis.getD e.toNat default).Ins;(a.Phis.length<=4611686018427387904->if decide (e < (a.Phis.length:Int))then(aa (α:=Bool) (λk=>z3/\z5/\if !decide ((a.Phis.getD e.toNat default).Dst=z4.Dst)then(k true)else(z3/\z5/\k (!decide ((g.length:Int)=((z4.Ins).length:Int))))) (λl=>if l then(KK false)else(ab (α:=Int) (λp c=>have h:=g.getD c.toNat default;have i:=(z4.Ins).getD c.toNat default;z3/\(g.length<=4611686018427387904->if decide (c < (g.length:Int))then(z3/\(0<=c/\c.toNat<g.length)/\z5/\(0<=c/\c.toNat < (z4.Ins).length)/\if !(decide (h.Block=i.Block)&&(decide ((h.A).Kind=(i.A).Kind)&&(decide ((h.A).S=(i.A).S)&&decide ((h.A).N=(i.A).N))))then(KK false)else(p (i64.wrap (c+1))))else(o (i64.wrap (e+1))))) 0)))else(ab (α:=Int) (λj d=>(a.Code.length<=4611686018427387904->if decide (d < (a.Code.length:Int))then((0<=d/\d.toNat<a.Code.length)/\(0<=d/\d.toNat<b.Code.length)/\if !(qQ (a.Code.getD d.toNat default) (b.Code.getD d.toNat default))then(KK false)else(j (i64.wrap (d+1))))else(KK true))) 0))) 0))) 0))
def yP(a:Lt.Func)(b:Lt.Func)(KK:Bool->Prop):Prop:=aa (α:=Bool) (λe=>if !decide (a.Name=b.Name)then(e true)else(if !decide (a.Result=b.Result)then(e true)else(if !(jD a.Params b.Params)then(e true)else(if !(jD a.Vars b.Vars)then(e true)else(e (!decide ((a.Blocks.length:Int)=(b.Blocks.length:Int)))))))) (λg=>if g then(KK false)else(ab (α:=Int) (λf v4=>have d:=b.Blocks.getD v4.toNat default;have c:=a.Blocks.getD v4.toNat default;(a.Blocks.length<=4611686018427387904->if decide (v4 < (a.Blocks.length:Int))then((0<=v4/\v4.toNat<a.Blocks.length)/\(0<=v4/\v4.toNat<b.Blocks.length)/\if !(rK (Lt.Block.mk (c.Name) (c.Phis) (c.Code) (Lt.Term.mk ((c.End).Kind) ((c.End).A) ((c.End).To) ((c.End).N))) (Lt.Block.mk (d.Name) (d.Phis) (d.Code) (Lt.Term.mk ((d.End).Kind) ((d.End).A) ((d.End).To) ((d.End).N))))then(KK false)else(f (i64.wrap (v4+1))))else(KK true))) 0))
def Vt(a:Lt.Program)(b:Lt.Program)(KK:Bool->Prop):Prop:=aa (α:=Bool) (λe=>if !(a.SSA==b.SSA)then(e true)else(if !decide ((a.Classes.length:Int)=(b.Classes.length:Int))then(e true)else(if !(jD a.Globals b.Globals)then(e true)else(if !decide ((a.Externs.length:Int)=(b.Externs.length:Int))then(e true)else(e (!decide ((a.Funcs.length:Int)=(b.Funcs.length:Int)))))))) (λj=>if j then(KK false)else(ab (α:=Int) (λh v4=>(a.Classes.length<=4611686018427387904->if decide (v4 < (a.Classes.length:Int))then(aa (α:=Bool) (λf=>(0<=v4/\v4.toNat<a.Classes.length)/\(0<=v4/\v4.toNat<b.Classes.length)/\if !decide ((a.Classes.getD v4.toNat default).Name=(b.Classes.getD v4.toNat default).Name)then(f true)else((0<=v4/\v4.toNat<a.Classes.length)/\(0<=v4/\v4.toNat<b.Classes.length)/\f (!(jD ((a.Classes.getD v4.toNat default).Fields) ((b.Classes.getD v4.toNat default).Fields))))) (λi=>if i then(KK false)else(h (i64.wrap (v4+1)))))else(ab (α:=Int) (λg d=>(a.Externs.length<=4611686018427387904->if decide (d < (a.Externs.length:Int))then((0<=d/\d.toNat<a.Externs.length)/\(0<=d/\d.toNat<b.Externs.length)/\if !(decide ((a.Externs.getD d.toNat default).Name=(b.Externs.getD d.toNat default).Name)&&decide ((a.Externs.getD d.toNat default).N=(b.Externs.getD d.toNat default).N))then(KK false)else(g (i64.wrap (d+1))))else(ab (α:=Int) (λk c=>(a.Funcs.length<=4611686018427387904->if decide (c < (a.Funcs.length:Int))then((0<=c/\c.toNat<a.Funcs.length)/\(0<=c/\c.toNat<b.Funcs.length)/\if !(t7 (a.Funcs.getD c.toNat default) (b.Funcs.getD c.toNat default))then(KK false)else(k (i64.wrap (c+1))))else(KK true))) 0))) 0))) 0))
def VE(c:a8)(a:List a8)(KK:a8->Prop):Prop:=ab (α:=a8×Int) (λe b=>(a.length<=4611686018427387904->if decide (b.2 < (a.length:Int))then(aa (α:=a8) (λd=>if decide (0<b.2)then((b.1.length+([(32:UInt8)]:List UInt8).length<=4611686018427387904/\(b.1.length+([(32:UInt8)]:List UInt8).length)*1<=140737488355328)/\d (b.1++([(32:UInt8)]:List UInt8)))else(d b.1)) (λv4=>(0<=b.2/\b.2.toNat<a.length)/\(v4.length+(a.getD b.2.toNat default).length<=4611686018427387904/\(v4.length+(a.getD b.2.toNat default).length)*1<=140737488355328)/\e ((v4++(a.getD b.2.toNat default)),(i64.wrap (b.2+1)))))else((b.1.length+([(10:UInt8)]:List UInt8).length<=4611686018427387904/\(b.1.length+([(10:UInt8)]:List UInt8).length)*1<=140737488355328)/\KK (b.1++([(10:UInt8)]:List UInt8))))) (c,0)
def PL(d:a8)(b:a8)(a:List Lt.Var)(KK:a8->Prop):Prop:=ab (α:=a8×Int) (λe c=>(a.length<=4611686018427387904->if decide (c.2 < (a.length:Int))then((0<=c.2/\c.2.toNat<a.length)/\(0<=c.2/\c.2.toNat<a.length)/\(bM c.1 [b,(a.getD c.2.toNat default).Name,(a.getD c.2.toNat default).Type_])/\e ((iD c.1 [b,(a.getD c.2.toNat default).Name,(a.getD c.2.toNat default).Type_]),(i64.wrap (c.2+1))))else(KK c.1))) (d,0)
def PK(a:Int)(KK:Int->Prop):Prop:=if decide (a < 0)then(KK (IntKind.u64.wrap (0 - (IntKind.u64.wrap a))))else(KK (IntKind.u64.wrap a))
def VC(a:Int)(KK:a8->Prop):Prop:=aa (α:=a8) (λd=>ab (α:=a8×Int) (λc v4=>(10:Int)≠0/\(([(UInt8.ofNat (IntKind.u8.wrap (IntKind.u64.wrap (48+(Int.tmod v4.2 10)))).toNat)]:List UInt8).length+v4.1.length<=4611686018427387904/\(([(UInt8.ofNat (IntKind.u8.wrap (IntKind.u64.wrap (48+(Int.tmod v4.2 10)))).toNat)]:List UInt8).length+v4.1.length)*1<=140737488355328)/\(10:Int)≠0/\if decide ((IntKind.u64.wrap (Int.tdiv v4.2 10))=0)then(d (([(UInt8.ofNat (IntKind.u8.wrap (IntKind.u64.wrap (48+(Int.tmod v4.2 10)))).toNat)]:List UInt8)++v4.1))else(c ((([(UInt8.ofNat (IntKind.u8.wrap (IntKind.u64.wrap (48+(Int.tmod v4.2 10)))).toNat)]:List UInt8)++v4.1),(IntKind.u64.wrap (Int.tdiv v4.2 10))))) ([],(La a))) (λb=>if decide (a < 0)then([45].length+b.length<=4611686018427387904/\KK ([45]++b))else(KK b))
def PI(a:a8)(KK:Bool->Prop):Prop:=ab (α:=Int) (λi d=>have c:=(((a.getD d.toNat 0).toNat:Nat):Int);have z3:=(decide (c < (((97:UInt8).toNat:Nat):Int)));have f:=(decide ((((122:UInt8).toNat:Nat):Int)<c));(a.length<=4611686018427387904->if decide (d < (a.length:Int))then((0<=d/\d.toNat<a.length)/\aa (α:=Bool) (λg=>if decide ((((48:UInt8).toNat:Nat):Int)<=c)then(g (decide (c<=(((57:UInt8).toNat:Nat):Int))))else(g false)) (λv4=>aa (α:=Bool) (λb=>if v4 then(if !(decide (0<d))then(if !decide (c=(((95:UInt8).toNat:Nat):Int))then(if decide (c < (((65:UInt8).toNat:Nat):Int))then(if z3 then(b true)else(b f))else(if decide ((((90:UInt8).toNat:Nat):Int)<c)then(if z3 then(b true)else(b f))else(b false)))else(b false))else(b false))else(if !decide (c=(((95:UInt8).toNat:Nat):Int))then(if decide (c < (((65:UInt8).toNat:Nat):Int))then(if z3 then(b true)else(b f))else(if decide ((((90:UInt8).toNat:Nat):Int)<c)then(if z3 then(b true)else(b f))else(b false)))else(b false))) (λj=>if j then(KK false)else(i (i64.wrap (d+1))))))else(aa (α:=Bool) (λe=>(a.length<=4611686018427387904->if decide (1<=(a.length:Int))then(if decide ((a.length:Int)<=16)then(if !decide (a=[110,117,108,108])then(if !decide (a=[105,110,116])then(e (!decide (a=[102,108,111,97,116])))else(e false))else(e false))else(e false))else(e false))) (λh=>KK h)))) 0
def GU(a:Int)(KK:Bool->Prop):Prop:=(9223372036854775808:Int)≠0/\KK (decide (9218868437227405312 < (Int.tmod (IntKind.u64.wrap a) 9223372036854775808)))
def GW(a:Int)(KK:Int->Prop):Prop:=if F6 a then(KK 9221120237041090560)else(KK a)
def GX(a:Lt.Arg)(KK:Bool->Prop):Prop:=have d:=decide (a.Kind=4);have c:=decide (a.Kind=5);if decide (a.Kind=1)then(if cj a.S then(KK (decide (a.N=0)))else(KK false))else(aa (α:=Bool) (λe=>if decide (a.Kind < 1)then(e true)else(if decide (5<a.Kind)then(e true)else(e (!decide (a.S=([]:List UInt8)))))) (λf=>if f then(KK false)else(aa (α:=Bool) (λb=>if decide (a.Kind=2)then((b true)/\(b true))else(if decide (a.Kind=3)then((if decide ((dL a.N)=a.N)then(b true)else(if d then(if decide (a.N=0)then(b true)else(if c then(if decide (0<=a.N)then(b (decide (a.N<=999)))else(b false))else(b false)))else(if c then(if decide (0<=a.N)then(b (decide (a.N<=999)))else(b false))else(b false))))/\(if decide ((dL a.N)=a.N)then(b true)else(if d then(if decide (a.N=0)then(b true)else(if c then(if decide (0<=a.N)then(b (decide (a.N<=999)))else(b false))else(b false)))else(if c then(if decide (0<=a.N)then(b (decide (a.N<=999)))else(b false))else(b false)))))else((if d then(if decide (a.N=0)then(b true)else(if c then(if decide (0<=a.N)then(b (decide (a.N<=999)))else(b false))else(b false)))else(if c then(if decide (0<=a.N)then(b (decide (a.N<=999)))else(b false))else(b false)))/\(if d then(if decide (a.N=0)then(b true)else(if c then(if decide (0<=a.N)then(b (decide (a.N<=999)))else(b false))else(b false)))else(if c then(if decide (0<=a.N)then(b (decide (a.N<=999)))else(b false))else(b false)))))) (λv4=>KK v4))))
def VB(b:Int)(KK:a8->Prop):Prop:=ab (α:=Int×a8×Int) (λd a=>if decide (a.2.2 < 16)then((16:Int)≠0/\aa (α:=UInt8) (λc=>if decide ((((UInt8.ofNat (IntKind.u8.wrap (Int.tmod a.1 16)).toNat).toNat:Nat):Int) < (((10:UInt8).toNat:Nat):Int))then(c (UInt8.ofNat (IntKind.u8.wrap ((((UInt8.ofNat (IntKind.u8.wrap (Int.tmod a.1 16)).toNat).toNat:Nat):Int)+(((48:UInt8).toNat:Nat):Int))).toNat))else(c (UInt8.ofNat (IntKind.u8.wrap ((((UInt8.ofNat (IntKind.u8.wrap (Int.tmod a.1 16)).toNat).toNat:Nat):Int)+(((87:UInt8).toNat:Nat):Int))).toNat))) (λv4=>(([v4]:List UInt8).length+a.2.1.length<=4611686018427387904/\(([v4]:List UInt8).length+a.2.1.length)*1<=140737488355328)/\(16:Int)≠0/\d ((IntKind.u64.wrap (Int.tdiv a.1 16)),(([v4]:List UInt8)++a.2.1),(i64.wrap (a.2.2+1)))))else([48,102].length+a.2.1.length<=4611686018427387904/\KK ([48,102]++a.2.1))) ((IntKind.u64.wrap (dL b)),[],0)
def PM(a:Lt.Arg)(KK:a8->Prop):Prop:=if !(jQ a)then(KK ([]:List UInt8))else(if decide (a.Kind=1)then(KK a.S)else(if decide (a.Kind=2)then((ir a.N)/\KK (iY a.N))else(if decide (a.Kind=3)then(KK (pm a.N))else(if decide (a.Kind=4)then(KK [110,117,108,108])else((ir a.N)/\[35].length+(iY a.N).length<=4611686018427387904/\KK ([35]++(iY a.N)))))))
def VD(a:Int)(KK:(Lt.RForm×Bool)->Prop):Prop:=have d:=gw.getD a.toNat default;have z4:=Lt.RForm.mk d false (decide (a<=32)) 0 0;have z3:=Lt.RForm.mk d (!decide (a=34)) true 0 0;have c:=Lt.RForm.mk d false true 0 0;aa (α:=Bool) (λk=>if decide (a < 1)then(k true)else(k (decide (34<a)))) (λn=>if n then(KK ((Lt.RForm.mk ([]:List UInt8) false false 0 0),false))else(aa (α:=Lt.RForm) (λb=>((0:Int)<=a/\a < ((35:Nat):Int))/\a.toNat<gw.length/\if !decide (a=27)then(if !decide (a=30)then(if !decide (a=33)then(if decide (a=25)then(b z3)else(if decide (a=26)then(b z3)else(if decide (a=27)then(b z3)else(if decide (29<=a)then(b (Lt.RForm.mk d (!decide (a=34)) (decide (a<=32)) 0 0))else(b (Lt.RForm.mk d (!decide (a=34)) false 0 0))))))else(if decide (a=25)then(b c)else(if decide (a=26)then(b c)else(if decide (a=27)then(b c)else(if decide (29<=a)then(b z4)else(b (Lt.RForm.mk d false false 0 0)))))))else(if decide (a=25)then(b c)else(if decide (a=26)then(b c)else(if decide (a=27)then(b c)else(if decide (29<=a)then(b z4)else(b (Lt.RForm.mk d false false 0 0)))))))else(if decide (a=25)then(b c)else(if decide (a=26)then(b c)else(if decide (a=27)then(b c)else(if decide (29<=a)then(b z4)else(b (Lt.RForm.mk d false false 0 0))))))) (λv4=>aa (α:=Lt.RForm) (λg=>aa (α:=Bool) (λe=>if decide (a=22)then(e (decide (a=22)))else(if decide (a=23)then(e (decide (a=23)))else(if decide (a=24)then(e (decide (a=24)))else(if decide (a=26)then(e (decide (a=26)))else(if decide (a=30)then(e (decide (a=30)))else(e (decide (a=33)))))))) (λl=>if l then(g (Lt.RForm.mk v4.Word v4.Dst v4.Named 1 1))else(aa (α:=Bool) (λh=>if decide (a=25)then(h (decide (a=25)))else(if decide (a=31)then(h (decide (a=31)))else(h (decide (a=32))))) (λi=>if i then(g (Lt.RForm.mk v4.Word v4.Dst v4.Named v4.Least 8))else(aa (α:=Bool) (λf=>if decide (a=29)then(f (decide (a=29)))else(f (decide (a=34)))) (λj=>if j then(g (Lt.RForm.mk v4.Word v4.Dst v4.Named v4.Least 0))else(g (Lt.RForm.mk v4.Word v4.Dst v4.Named 2 2)))))))) (λm=>KK (m,true)))))
def PF(c:List a8)(a:List Lt.Arg)(KK:(List a8)->Prop):Prop:=ab (α:=List a8×Int) (λd b=>(a.length<=4611686018427387904->if decide (b.2 < (a.length:Int))then((0<=b.2/\b.2.toNat<a.length)/\(fC (a.getD b.2.toNat default))/\(b.1.length+([(bh (a.getD b.2.toNat default))]:List a8).length<=4611686018427387904/\(b.1.length+([(bh (a.getD b.2.toNat default))]:List a8).length)*16<=140737488355328)/\d ((b.1++([(bh (a.getD b.2.toNat default))]:List a8)),(i64.wrap (b.2+1))))else(KK b.1))) (c,0)
def PG(f:a8)(a:Lt.Instr)(KK:a8->Prop):Prop:=have l:=([a.Name]:List a8);have z4:=([((Lt.rOf a.Op).1).Word]:List a8);aa (α:=List a8) (λz=>if ((Lt.rOf a.Op).1).Dst then((([]:List a8).length+([a.Dst,[61]]:List a8).length<=4611686018427387904/\(([]:List a8).length+([a.Dst,[61]]:List a8).length)*16<=140737488355328)/\z [a.Dst,[61]])else(z [])) (λi=>have z9:=xG (i++z4) ((a.Args.drop 0).take (1 - 0));(i.length+z4.length<=4611686018427387904/\(i.length+z4.length)*16<=140737488355328)/\aa (α:=List a8) (λx=>aa (α:=Bool) (λs=>if decide (a.Op=26)then(s (decide (0 < (a.Args.length:Int))))else(if decide (a.Op=27)then(s (decide (0 < (a.Args.length:Int))))else(s false))) (λB=>if B then((0:Int)<=1/\(0<=1/\1<=a.Args.length)/\(qs (i++z4) ((a.Args.drop 0).take (1 - 0)))/\(z9.length+l.length<=4611686018427387904/\(z9.length+l.length)*16<=140737488355328)/\(0:Int)<=1/\(1<=a.Args.length/\a.Args.length<=a.Args.length)/\(qs (z9++l) ((a.Args.drop 1).take (a.Args.length - 1)))/\x (xG (z9++l) ((a.Args.drop 1).take (a.Args.length - 1))))else(aa (α:=List a8) (λy=>if ((Lt.rOf a.Op).1).Named then(((i++z4).length+l.length<=4611686018427387904/\((i++z4).length+l.length)*16<=140737488355328)/\y ((i++z4)++l))else(y (i++z4))) (λw=>(qs w a.Args)/\x (xG w a.Args))))) (λv4=>(bM f v4)/\ab (α:=a8×Int) (λC d=>have g:=(0<=d.2/\d.2.toNat<a.Frames.length);have e:=a.Frames.getD d.2.toNat default;(a.Frames.length<=4611686018427387904->if decide (d.2 < (a.Frames.length:Int))then(aa (α:=List a8) (λj=>have v:=g/\(g/\(ir (e.At))/\j [[97,116],e.Func,e.Block,(iY (e.At))])/\((ir (e.At))/\g/\j [[97,116],e.Func,e.Block,(iY (e.At))]);g/\v/\v/\((ir (e.At))/\g/\g/\j [[97,116],e.Func,e.Block,(iY (e.At))])) (λr=>ab (α:=List a8×Int) (λp b=>have k:=(0<=b.2/\b.2.toNat < (e.Vars).length);have h:=(e.Vars).getD b.2.toNat default;have z3:=([h.Name,(bh (h.A))]:List a8);have o:=b.1.length+z3.length<=4611686018427387904/\(b.1.length+z3.length)*16<=140737488355328;g/\((e.Vars).length<=4611686018427387904->if decide (b.2 < ((e.Vars).length:Int))then(aa (α:=List a8) (λn=>g/\k/\(g/\k/\(fC (h.A))/\o/\n (b.1++z3))/\((fC (h.A))/\g/\k/\o/\n (b.1++z3))) (λq=>p (q,(i64.wrap (b.2+1)))))else((bM d.1 b.1)/\C ((iD d.1 b.1),(i64.wrap (d.2+1)))))) (r,0)))else(ab (α:=a8×Int) (λt c=>have m:=a.Objs.getD c.2.toNat default;(a.Objs.length<=4611686018427387904->if decide (c.2 < (a.Objs.length:Int))then(aa (α:=a8) (λu=>have z5:=((0<=c.2/\c.2.toNat<a.Objs.length)/\(qs [[111,98,106],m.Class] (m.Vals))/\(bM c.1 (xG [[111,98,106],m.Class] (m.Vals)))/\u (iD c.1 (xG [[111,98,106],m.Class] (m.Vals))));(0<=c.2/\c.2.toNat<a.Objs.length)/\z5/\z5) (λv20=>t (v20,(i64.wrap (c.2+1)))))else(KK c.1))) (d.1,0)))) ((iD f v4),0)))
def PH(b:a8)(a:Lt.Term)(KK:a8->Prop):Prop:=have d:=([(iY a.N)]:List a8);have c:=([([]:List UInt8),[106,117,109,112],[98,114,97,110,99,104],[114,101,116],[116,114,97,112]].getD a.Kind.toNat default);aa (α:=Bool) (λg=>if decide (a.Kind < 1)then(g true)else(g (decide (4<a.Kind)))) (λk=>if k then(KK b)else(((0:Int)<=a.Kind/\a.Kind < (([([]:List UInt8),[106,117,109,112],[98,114,97,110,99,104],[114,101,116],[116,114,97,112]].length:Nat):Int))/\aa (α:=List a8) (λh=>aa (α:=Bool) (λe=>if decide (a.Kind=2)then(e true)else(e (decide (a.Kind=3)))) (λj=>if j then((fC a.A)/\(([c]:List a8).length+([(bh a.A)]:List a8).length<=4611686018427387904/\(([c]:List a8).length+([(bh a.A)]:List a8).length)*16<=140737488355328)/\h [c,(bh a.A)])else(h [c]))) (λv4=>(v4.length+a.To.length<=4611686018427387904/\(v4.length+a.To.length)*16<=140737488355328)/\aa (α:=List a8) (λi=>if decide (a.Kind=4)then((ir a.N)/\((v4++a.To).length+d.length<=4611686018427387904/\((v4++a.To).length+d.length)*16<=140737488355328)/\i ((v4++a.To)++d))else(i (v4++a.To))) (λf=>(bM b f)/\KK (iD b f)))))
def GV(a:Lt.Program)(KK:a8->Prop):Prop:=aa (α:=a8) (λI=>if a.SSA then((bM [] [[115,115,97]])/\I (iD [] [[115,115,97]]))else(I [])) (λL=>ab (α:=a8×Int) (λK v4=>have p:=(0<=v4.2/\v4.2.toNat<a.Classes.length);have o:=a.Classes.getD v4.2.toNat default;have i:=iD v4.1 [[99,108,97,115,115],o.Name];(a.Classes.length<=4611686018427387904->if decide (v4.2 < (a.Classes.length:Int))then(aa (α:=a8) (λF=>have H:=(p/\(bM v4.1 [[99,108,97,115,115],o.Name])/\(dB i [102,105,101,108,100] (o.Fields))/\F (qu i [102,105,101,108,100] (o.Fields)));p/\(((bM v4.1 [[99,108,97,115,115],o.Name])/\p/\(dB i [102,105,101,108,100] (o.Fields))/\F (qu i [102,105,101,108,100] (o.Fields)))/\H)/\H) (λJ=>K (J,(i64.wrap (v4.2+1)))))else((dB v4.1 [103,108,111,98,97,108] a.Globals)/\ab (α:=a8×Int) (λM k=>have m:=(0<=k.2/\k.2.toNat<a.Externs.length);have r:=a.Externs.getD k.2.toNat default;have z21:=iD k.1 [[101,120,116,101,114,110],r.Name,(iY (r.N))];have z20:=bM k.1 [[101,120,116,101,114,110],r.Name,(iY (r.N))];(a.Externs.length<=4611686018427387904->if decide (k.2 < (a.Externs.length:Int))then(aa (α:=a8) (λG=>m/\(m/\(ir (r.N))/\z20/\G z21)/\((ir (r.N))/\m/\z20/\G z21)) (λB=>M (B,(i64.wrap (k.2+1)))))else(ab (α:=a8×Int) (λw d=>have e:=a.Funcs.getD d.2.toNat default;have n:=iD d.1 [[102,117,110,99],e.Name,e.Result];have j:=bM d.1 [[102,117,110,99],e.Name,e.Result];have g:=qu n [112,97,114,97,109] (e.Params);(a.Funcs.length<=4611686018427387904->if decide (d.2 < (a.Funcs.length:Int))then((0<=d.2/\d.2.toNat<a.Funcs.length)/\aa (α:=a8) (λv=>have z3:=(dB n [112,97,114,97,109] (e.Params))/\(dB g [118,97,114] (e.Vars))/\v (qu g [118,97,114] (e.Vars));have l:=j/\(dB n [112,97,114,97,109] (e.Params))/\(dB g [118,97,114] (e.Vars))/\v (qu g [118,97,114] (e.Vars));((j/\z3/\z3)/\((j/\z3/\z3)/\l)/\(l/\l))/\(((j/\z3/\z3)/\l)/\l)/\((l/\l)/\l)) (λx=>ab (α:=a8×Int) (λD c=>have z4:=(e.Blocks).getD c.2.toNat default;have s:=Lt.Term.mk ((z4.End).Kind) ((z4.End).A) ((z4.End).To) ((z4.End).N);((e.Blocks).length<=4611686018427387904->if decide (c.2 < ((e.Blocks).length:Int))then((0<=c.2/\c.2.toNat < (e.Blocks).length)/\(bM c.1 [[98,108,111,99,107],z4.Name])/\ab (α:=a8×Int) (λE b=>have f:=(0<=b.2/\b.2.toNat < (z4.Phis).length);have z9:=((z4.Phis).getD b.2.toNat default).Ins;((z4.Phis).length<=4611686018427387904->if decide (b.2 < ((z4.Phis).length:Int))then(f/\ab (α:=List a8×Int) (λC v20=>have h:=z9.getD v20.2.toNat default;have q:=(0<=v20.2/\v20.2.toNat<z9.length);have z5:=([h.Block,(bh (h.A))]:List a8);have t:=v20.1.length+z5.length<=4611686018427387904/\(v20.1.length+z5.length)*16<=140737488355328;f/\(z9.length<=4611686018427387904->if decide (v20.2 < (z9.length:Int))then(aa (α:=List a8) (λu=>f/\q/\(f/\q/\(fC (h.A))/\t/\u (v20.1++z5))/\((fC (h.A))/\f/\q/\t/\u (v20.1++z5))) (λy=>C (y,(i64.wrap (v20.2+1)))))else((bM b.1 v20.1)/\E ((iD b.1 v20.1),(i64.wrap (b.2+1)))))) ([[112,104,105],((z4.Phis).getD b.2.toNat default).Dst],0))else(ab (α:=a8×Int) (λz v24=>((z4.Code).length<=4611686018427387904->if decide (v24.2 < ((z4.Code).length:Int))then((0<=v24.2/\v24.2.toNat < (z4.Code).length)/\(K7 v24.1 ((z4.Code).getD v24.2.toNat default))/\z ((YX v24.1 ((z4.Code).getD v24.2.toNat default)),(i64.wrap (v24.2+1))))else((A9 v24.1 s)/\D ((YZ v24.1 s),(i64.wrap (c.2+1)))))) (b.1,0)))) ((iD c.1 [[98,108,111,99,107],z4.Name]),0))else(w (c.1,(i64.wrap (d.2+1)))))) (x,0)))else(KK d.1))) (k.1,0)))) ((qu v4.1 [103,108,111,98,97,108] a.Globals),0)))) (L,0))
theorem iQ{n:Nat}(h:n < 10):Lt.digs n=[UInt8.ofNat (48+n)]:=by grind [Lt.digs]
theorem pS{n:Nat}(h:¬ n < 10):Lt.digs n=Lt.digs (n / 10)++[UInt8.ofNat (48+n % 10)]:=by grind [Lt.digs]
theorem zT:(k n:Nat)->n < 10 ^ (k+1)->(Lt.digs n).length<=k+1
 |0,n,h=>by grind [iQ]
 |k+1,n,h=>by
  by_cases a:n < 10
  .grind [iQ]
  rw[pS a];have:=zT k (n / 10) kQ1
  grind
variable{n:Int}
theorem s6(h:Lt.inR n):(be n).length<=20:=by
 unfold Lt.inR at h;have:=zT 18 n.natAbs kQ1
 grind [be]
theorem eB{n:Nat}(h:n < 18446744073709551616):IntKind.u64.wrap (n:Int)=(n:Int):=by grind [IntKind.wrap,IntKind.signed,IntKind.bits]
variable{α:Type}
theorem Qt(f g:α->a8)(l:List α):(l.flatMap λb=>[f b,g b]).length=2*l.length:=by induction l<;>grind
variable{β:Type}
theorem Dp[Inhabited α](f:α->List β)(l:List α){i:Nat}(h:i<l.length):(l.take (i+1)).flatMap f=(l.take i).flatMap f++f (l.getD i default):=by grind [aA]
theorem eQ[Inhabited α](l:List α)(g:α->List β)(out:List β)(body:(List β×Int->Prop)->List β×Int->Prop)
  (hs:∀R i b,l.length<=LEN->i<l.length->b=out++(l.take i).flatMap g->R (b++g (l.getD i default),i64.wrap ((i:Int)+1))->body R (b,(i:Int)))
  (a:∀R,l.length<=LEN->body R (out++l.flatMap g,(l.length:Int))):ab (λR v=>l.length<=4611686018427387904->body R v) (out,0):=by
 by_cases hl:l.length<=LEN
 .refine JG l.length hl (λi=>out++(l.take i).flatMap g) _ (λR i hi ih _=>?_) (λR _=>?_) (by simp)
  all_goals grind [Dp]
 exact⟨1,λh=>absurd h hl⟩
theorem jb[Inhabited α](g:α->List β)(l:List α){i:Nat}(h:i<l.length):((l.take i).flatMap g).length+(g (l.getD i default)).length<=(l.flatMap g).length:=by
 have e:l.flatMap g=(l.take (i+1)).flatMap g++(l.drop (i+1)).flatMap g:=by grind [amH]
 grind [Dp]
theorem afC:(ws:List a8)->ws.length<=(Lt.jw true ws).length
 |[]=>by simp
 |w::r=>by
  have:=afC r
  grind [Lt.jw]
theorem AE(ws:List a8):ws.length<=(Lt.lnT ws).length:=by unfold Lt.lnT;cases ws<;>grind [afC,Lt.jw]
theorem XY(out:List UInt8)(l:List a8)(hp:bM out l)(KK:a8->Prop)(h:KK (iD out l)):VE out l KK:=by
 unfold VE;(try simp only[ae,am,aq,jval,bor,band,bnand,bimp,and_self]);unfold bM Lt.room at hp;by_cases hl:l.length<=LEN
 rotate_left
 .exact⟨1,λh=>absurd h hl⟩
 have c:(iD out l).length<=1099511627776:=by grind [iD]
 refine af _ l.length (λi x=>∃b,x=(b,(i:Int))/\b++Lt.jw (decide (0<i)) (l.drop i)++[10]=iD out l) (λR i x hi a g=>?_) (λR x a=>?_) _ ⟨out,rfl,by simp[iD,Lt.lnT]⟩
 .obtain⟨b,rfl,e⟩:=a;have f:l.getD i default=l[i]:=by grind
  rw[alF hi,Lt.jw,<- f]at e;have el:=congrArg List.length e
  simp only[ak1,akY,ak7]at el;simp only[aF hi,if_true,Int.toNat_natCast]
  try dsimp +instances only [Int.toNat_natCast]
  intro _ J d;have hj:J (b++(if decide (0<i)=true then [32]else [])):=by
   refine d _ ⟨⟨akW i,hi⟩,?_,?_⟩
   .grind
   grind [ac]
  grind
 grind [Lt.jw]
theorem TS(out first:List UInt8)(l:List Lt.Var)(hp:dB out first l)(KK:a8->Prop)(h:KK (qu out first l)):PL out first l KK:=by
 unfold PL;(try simp only[ae,am,aq,jval,bor,band,bnand,bimp,and_self]);unfold dB iZ at hp;refine eQ l (λv=>Lt.lnT [first,v.Name,v.Type_]) out _ (λR i b hl hi hb ih=>?_) (λR hl=>?_)
 .simp only[aF hi,if_true,Int.toNat_natCast]
  try dsimp +instances only [Int.toNat_natCast]
  have:=jb (λv:Lt.Var=>Lt.lnT [first,v.Name,v.Type_]) l hi
  refine⟨⟨akW i,hi⟩,⟨akW i,hi⟩,?_,ih⟩
  grind [bM]
 simp only[ld,akS,if_false];exact h
theorem TQ(n:Int)(KK:Int->Prop)(h:KK (La n)):PK n KK:=by grind [PK,La]
theorem Y2(h:Lt.inR n):La n=(n.natAbs:Int):=by grind [Lt.inR,La,IntKind.wrap,IntKind.signed,IntKind.bits]
theorem XX(n:Int)(hp:ir n)(KK:a8->Prop)(h:KK (iY n)):VC n KK:=by
 unfold ir at hp;unfold VC;(try simp only[ae,am,aq,jval,bor,band,bnand,bimp,and_self]);rw[Y2 hp];have g:=zT 18 n.natAbs (by grind [Lt.inR])
 unfold Lt.inR at hp;intro J j;have hj:J (Lt.digs n.natAbs):=by grind [iY,be]
 have step:∀(m:Nat)(a:a8)(R:a8×Int->Prop),m<=9223372036854775808->Lt.digs m++a=Lt.digs n.natAbs->(¬ m < 10->R (UInt8.ofNat (48+m % 10)::a,((m / 10:Nat):Int))) ->
   (10:Int)≠0/\(([UInt8.ofNat (IntKind.u8.wrap (IntKind.u64.wrap (48+Int.tmod (m:Int) 10))).toNat]:List UInt8).length+a.length<=4611686018427387904/\(([UInt8.ofNat (IntKind.u8.wrap (IntKind.u64.wrap (48+Int.tmod (m:Int) 10))).toNat]:List UInt8).length+a.length)*1<=140737488355328)/\(10:Int)≠0 /\
    if decide (IntKind.u64.wrap (Int.tdiv (m:Int) 10)=0)=true then J ([UInt8.ofNat (IntKind.u8.wrap (IntKind.u64.wrap (48+Int.tmod (m:Int) 10))).toNat]++a)
    else R ([UInt8.ofNat (IntKind.u8.wrap (IntKind.u64.wrap (48+Int.tmod (m:Int) 10))).toNat]++a,IntKind.u64.wrap (Int.tdiv (m:Int) 10)):=by
  intro m a R hm e f;have w:IntKind.u64.wrap (48+Int.tmod (m:Int) 10)=((48+m % 10:Nat):Int):=by grind [eB]
  have w2:UInt8.ofNat (IntKind.u8.wrap ((48+m % 10:Nat):Int)).toNat=UInt8.ofNat (48+m % 10):=by grind [IntKind.wrap,IntKind.bits]
  have w3:IntKind.u64.wrap (Int.tdiv (m:Int) 10)=((m / 10:Nat):Int):=by rw[show Int.tdiv (m:Int) 10=((m / 10:Nat):Int)from rfl];exact eB kQ1
  grind [iQ]
 refine af _ 20 (λi x=>∃(m:Nat)(a:a8),x=(a,(m:Int))/\m < 10 ^ (20-i)/\m<=9223372036854775808/\Lt.digs m++a=Lt.digs n.natAbs) (λR i x hi c f=>?_) (λR x c=>?_) _ ⟨n.natAbs,[],rfl,by omega,by omega,by simp⟩
 .obtain⟨m,a,rfl,hm,b,e⟩:=c;refine step m a R b e (λd=>f _ ⟨m / 10,_,rfl,?_,by omega,?_⟩)
  .rw[show 20-i=(20 - (i+1))+1 by omega,Nat.pow_succ]at hm;omega
  grind [pS]
 obtain⟨m,a,rfl,hm,b,e⟩:=c;exact step m a R b e (λd=>absurd hm kQ1)
theorem u8w(y:Int):(((UInt8.ofNat (IntKind.u8.wrap y).toNat).toNat:Nat):Int)=IntKind.u8.wrap y:=by grind [IntKind.wrap,IntKind.signed,IntKind.bits,UInt8.toNat_ofNat']
theorem XW(n:Int)(KK:a8->Prop)(h:KK (pm n)):VB n KK:=by
 unfold VB;(try simp only[ae,am,aq,jval,bor,band,bnand,bimp,and_self]);unfold pm at h;have hb:∀x:Int,(if decide ((((UInt8.ofNat (IntKind.u8.wrap (Int.tmod x 16)).toNat).toNat:Nat):Int) < (((10:UInt8).toNat:Nat):Int))=true then UInt8.ofNat (IntKind.u8.wrap ((((UInt8.ofNat (IntKind.u8.wrap (Int.tmod x 16)).toNat).toNat:Nat):Int)+(((48:UInt8).toNat:Nat):Int))).toNat
   else UInt8.ofNat (IntKind.u8.wrap ((((UInt8.ofNat (IntKind.u8.wrap (Int.tmod x 16)).toNat).toNat:Nat):Int)+(((87:UInt8).toNat:Nat):Int))).toNat)=XE x:=by
  grind [u8w,XE]
 refine af _ 16 (λi x=>∃(y:Int)(a:a8),x=(y,a,(i:Int))/\a.length=i/\rU (16-i) y a=rU 16 (IntKind.u64.wrap (dL n)) []) (λR i x hi b c=>?_) (λR x b=>?_) _ ⟨_,[],rfl,rfl,rfl⟩
 .obtain⟨y,a,rfl,hl,e⟩:=b;have hd:decide ((i:Int) < 16)=true:=by grind
  dsimp only;rw[hb,if_pos hd];refine⟨by decide,⟨by grind,by grind⟩,by decide,c _ ⟨_,_,by rw[ac kQ1],by grind,?_⟩⟩;rw[show 16-i=(16 - (i+1))+1 by omega,rU]at e;exact e
 grind [akY,ak7,rU]
theorem Ny(n:Int)(KK:Bool->Prop)(h:KK (F6 n)):GU n KK:=by unfold GU;(try simp only[ae,am,aq,jval,bor,band,bnand,bimp,and_self]);exact⟨by decide,h⟩
theorem NA(n:Int)(KK:Int->Prop)(h:KK (dL n)):GW n KK:=by unfold GW;(try simp only[ae,am,aq,jval,bor,band,bnand,bimp,and_self]);exact h
theorem NB(a:Lt.Arg)(KK:Bool->Prop)(h:KK (jQ a)):GX a KK:=by
 unfold GX;dsimp only;(try simp only[ae,am,aq,jval,bor,band,bnand,bimp,and_self])
 grind [jQ,decide]
theorem TO(s:a8)(KK:Bool->Prop)(h:KK (cj s)):PI s KK:=by
 unfold PI;dsimp only;(try simp only[ae,am,aq,jval,bor,band,bnand,bimp,and_self]);by_cases hl:s.length<=LEN
 rotate_left
 .exact⟨1,λh=>absurd h hl⟩
 refine af _ s.length (λi x=>x=(i:Int)/\∀j,j<i->wJ j (s.getD j 0)=true) (λR i x hi a b=>?_) (λR x a=>?_) _ ⟨rfl,by omega⟩
 .obtain⟨rfl,a⟩:=a;simp only[aF hi,if_true,Int.toNat_natCast]
  try dsimp +instances only [Int.toNat_natCast]
  grind [wJ,ac,cj]
 grind [cj]
theorem TT(a:Lt.Arg)(hp:fC a)(KK:a8->Prop)(h:KK (bh a)):PM a KK:=by grind [PM,bh,fC,Lt.Arg.ok,ir,s6,iY]
theorem TL(l:List a8)(a:List Lt.Arg)(hp:qs l a)(KK:List a8->Prop)(h:KK (xG l a)):PF l a KK:=by
 unfold PF;(try simp only[ae,am,aq,jval,bor,band,bnand,bimp,and_self]);obtain⟨c,hp⟩:=hp;unfold Lt.room at hp;have e:∀l:List Lt.Arg,(l.flatMap λx=>[bh x])=l.map bh:=λl=>by induction l<;>simp_all
 refine eQ a (λx=>[bh x]) l _ (λR i b hl hi hb ih=>?_) (λR hl=>?_)
 .simp only[aF hi,if_true,Int.toNat_natCast]
  try dsimp +instances only [Int.toNat_natCast]
  have:=jb (λx=>[bh x]) a hi
  rw[e,e,akV]at this;refine⟨⟨akW i,hi⟩,c _ (au _ hi),?_,ih⟩
  grind
 simp only[ld,akS,if_false];rw[e];exact h
theorem TN(out:List UInt8)(t:Lt.Term)(hp:A9 out t)(KK:a8->Prop)(h:KK (YZ out t)):PH out t KK:=by
 obtain⟨⟨d,b⟩,hp⟩:=hp;unfold PH;dsimp only;(try simp only[ae,am,aq,jval,bor,band,bnand,bimp,and_self]);unfold YZ at h;refine ifk (λhc=>kk h ?_) (λhc=>?_)
 .grind [vb]
 have hk:¬ (t.Kind < 1\/4<t.Kind):=by grind
 unfold vb at h hp;rw[if_neg hk]at h hp;have f:t.To.length<=1099511627776:=by grind [AE,Bk,ak1,Lt.room]
 refine⟨⟨by omega,by grind⟩,?_⟩;generalize hw:([[],[106,117,109,112],[98,114,97,110,99,104],[114,101,116],[116,114,97,112]]:List a8).getD t.Kind.toNat default=w;have e:Bk t=([w]++(if t.Kind=2\/t.Kind=3 then [bh t.A]else []))++t.To++(if t.Kind=4 then [iY t.N]else []):=by rw[<- hw];rfl
 intro J i;have hj:J ([w]++(if t.Kind=2\/t.Kind=3 then [bh t.A]else [])):=by
  refine i _ ?_;generalize hv:([w]++(if t.Kind=2\/t.Kind=3 then [bh t.A]else []))=v at e;have j:v.length<=2:=by grind
  refine⟨⟨by omega,by omega⟩,?_⟩;intro g a;have c:g (Bk t):=a _ ⟨hp,h⟩
  rw[e]at c;refine ifk (λhc=>⟨b,?_,?_⟩) (λhc=>?_)
  all_goals grind
 refine ifk (λhc=>⟨d,?_,?_⟩) (λhc=>?_)
 all_goals grind
theorem acN(n:Int)(KK:Lt.RForm×Bool->Prop)(h:KK (Lt.rOf n)):VD n KK:=by
 by_cases hr:n < 1\/34<n
 .unfold VD Lt.rOf at *;rw[if_pos hr]at h;simp only[ae,jval,bor]
  grind
 have:n=1\/n=2\/n=3\/n=4\/n=5\/n=6\/n=7\/n=8\/n=9\/n=10\/n=11\/n=12\/n=13\/n=14\/n=15\/n=16\/n=17\/n=18\/n=19\/n=20\/n=21\/n=22\/n=23\/n=24\/n=25\/n=26\/n=27\/n=28\/n=29\/n=30\/n=31\/n=32\/n=33\/n=34:=by omega
 rcases this with rfl|rfl|rfl|rfl|rfl|rfl|rfl|rfl|rfl|rfl|rfl|rfl|rfl|rfl|rfl|rfl|rfl|rfl|rfl|rfl|rfl|rfl|rfl|rfl|rfl|rfl|rfl|rfl|rfl|rfl|rfl|rfl|rfl|rfl
 all_goals
  simp_all[Lt.rOf,VD,ae,gw]
theorem TM(out:List UInt8)(x:Lt.Instr)(hp:K7 out x)(KK:a8->Prop)(h:KK (YX out x)):PG out x KK:=by
 obtain⟨⟨c,okF,okO⟩,g,hp⟩:=hp;unfold jP Lt.room at hp;simp only[ak1]at hp;unfold PG;dsimp only;(try simp only[ae,am,aq,jval,bor,band,bnand,bimp,and_self]);intro J D;have hw:=AE (i7 x)
 have O:J (if(Lt.rOf x.Op).1.Dst=true then [x.Dst,[61]]else []):=by
  refine D _ ?_;generalize hv:(if(Lt.rOf x.Op).1.Dst=true then [x.Dst,[61]]else [])=v;have L:sk x=v++[(Lt.rOf x.Op).1.Word]:=by rw[<- hv];rfl
  have I:v.length<=2:=by grind
  refine⟨⟨by grind,by grind⟩,?_⟩;rw[<- L];have H:(sk x).length<=3:=by grind
  intro G q;have n:G (i7 x):=by
   refine q _ ⟨by grind [bM,Lt.room],?_⟩;refine eQ x.Frames (λf=>Lt.lnT (fQ f)) (iD out (i7 x)) _ (λR i b hl hi hb ih=>?_) (λR hl=>?_)
   .simp only[aF hi,if_true,Int.toNat_natCast]
    try dsimp +instances only [Int.toNat_natCast]
    have o:(0:Int)<=(i:Int)/\i<x.Frames.length:=⟨akW i,hi⟩
    have B:ir (x.Frames.getD i default).At:=cC g hi
    simp only[o,B,and_self,true_and];(try simp only[ae,am,aq,jval,bor,band,bnand,bimp,and_self]);have p:=jb (λf=>Lt.lnT (fQ f)) x.Frames hi
    have k:=cC okF hi
    generalize x.Frames.getD i default=f at p k B ih|-;have d:b.length+(Lt.lnT (fQ f)).length<=1099511627776:=by grind [iD]
    have r:=AE (fQ f)
    have y:(fQ f).length=4+2*f.Vars.length:=by simp only[fQ,ak1,Qt,akY,ak7]
    refine eQ f.Vars (λv=>[v.Name,bh v.A]) _ _ (λF j w z hj hw t=>?_) (λF z=>?_)
    .simp only[aF hj,if_true,Int.toNat_natCast]
     try dsimp +instances only [Int.toNat_natCast]
     have o2:(0:Int)<=(j:Int)/\j<f.Vars.length:=⟨akW j,hj⟩
     have E:fC (f.Vars.getD j default).A:=k.2 _ (au _ hj)
     simp only[o2,E,and_self,true_and];(try simp only[ae,am,aq,jval,bor,band,bnand,bimp,and_self]);refine⟨?_,t⟩;rw[hw];simp only[ak1,Qt,akY,ak7,amL];omega
    simp only[ld,akS,if_false];refine⟨?_,ih⟩;unfold bM Lt.room;exact d
   simp only[ld,akS,if_false];refine eQ x.Objs (λo=>Lt.lnT (i6 o)) _ _ (λR i b hl hi hb ih=>?_) (λR hl=>?_)
   .simp only[aF hi,if_true,Int.toNat_natCast]
    try dsimp +instances only [Int.toNat_natCast]
    have p:=jb (λo=>Lt.lnT (i6 o)) x.Objs hi
    have l:=cC okO hi
    have o:(0:Int)<=(i:Int)/\i<x.Objs.length:=⟨akW i,hi⟩
    refine⟨o,o,?_⟩;generalize x.Objs.getD i default=v at p l ih|-;have d:b.length+(Lt.lnT (i6 v)).length<=1099511627776:=by grind [iD]
    have r:=AE (i6 v)
    have y:(i6 v).length=2+v.Vals.length:=by grind [i6]
    refine⟨⟨l,?_⟩,?_,ih⟩
    .grind [Lt.room]
    unfold bM Lt.room;exact d
   grind [YX,jP,iD]
  have C:=hw
  refine ifk (λhc=>?_) (λhc=>?_)
  .have s:(x.Op=26\/x.Op=27)/\x.Args≠[]:=by grind
   have m:1<=x.Args.length:=by grind
   have e:i7 x=sk x++(x.Args.take 1).map bh++[x.Name]++(x.Args.drop 1).map bh:=by grind [i7]
   have el:=congrArg List.length e
   simp only[ak1,akV,amL,List.length_drop,akY,ak7]at el;have K:List.take (1 - 0) (List.drop 0 x.Args)=x.Args.take 1:=rfl
   have N:List.take (x.Args.length - 1) (List.drop 1 x.Args)=x.Args.drop 1:=amR (by simp)
   rw[K,N];refine⟨by omega,⟨by omega,m⟩,⟨λa ha=>c a (amE ha),?_⟩,?_,by omega,⟨m,akR _⟩,⟨λa ha=>c a (List.mem_of_mem_drop ha),?_⟩,?_⟩
   .grind [Lt.room]
   .grind [xG]
   .grind [Lt.room,xG]
   rw[e]at n;exact n
  have s:¬ ((x.Op=26\/x.Op=27)/\x.Args≠[]):=by grind [al4]
  have e:i7 x=sk x++(if(Lt.rOf x.Op).1.Named then [x.Name]else [])++x.Args.map bh:=by grind [i7]
  have el:=congrArg List.length e
  simp only[ak1,akV]at el;intro M u;have P:M (sk x++(if(Lt.rOf x.Op).1.Named then [x.Name]else [])):=by
   refine u _ ⟨⟨c,?_⟩,?_⟩
   .grind [Lt.room]
   rw[e]at n;exact n
  grind
 grind
theorem Nz(p:Lt.Program)(hp:nH p)(KK:a8->Prop)(h:KK (gJ p)):GV p KK:=by
 obtain⟨okP,G,r,hp⟩:=hp;unfold GV;dsimp only;(try simp only[ae,am,aq,jval,bor,band,bnand,bimp,and_self]);unfold gJ at h hp;unfold Lt.room at hp;simp only[ak1]at hp;intro J W;have O:J (if p.SSA then Lt.lnT [[115,115,97]]else []):=by
  refine W _ ?_;generalize(if p.SSA then Lt.lnT [[115,115,97]]else [])=s at h hp;refine eQ p.Classes ix s _ (λR i b hl hi hb ih=>?_) (λR hl=>?_)
  .simp only[aF hi,if_true,Int.toNat_natCast]
   try dsimp +instances only [Int.toNat_natCast]
   have o:(0:Int)<=(i:Int)/\i<p.Classes.length:=⟨akW i,hi⟩
   have v:=jb ix p.Classes hi
   generalize p.Classes.getD i default=c at v ih|-;have l:b.length+(ix c).length<=1099511627776:=by grind
   simp only[ix,ak1]at l;have E:bM b [[99,108,97,115,115],c.Name]:=by grind [bM,Lt.room]
   have V:dB (iD b [[99,108,97,115,115],c.Name]) [102,105,101,108,100] c.Fields:=by grind [dB,Lt.room,iD]
   simp only[o,E,V,and_self,true_and];(try simp only[ae,am,aq,jval,bor,band,bnand,bimp,and_self]);simp only[ix,<- al2]at ih;exact ih
  simp only[ld,akS,if_false];refine⟨by grind [dB,Lt.room],?_⟩;refine eQ p.Externs jA _ _ (λR i b hl hi hb ih=>?_) (λR hl=>?_)
  .simp only[aF hi,if_true,Int.toNat_natCast]
   try dsimp +instances only [Int.toNat_natCast]
   have o:(0:Int)<=(i:Int)/\i<p.Externs.length:=⟨akW i,hi⟩
   have v:=jb jA p.Externs hi
   have P:ir (p.Externs.getD i default).N:=cC G hi
   generalize p.Externs.getD i default=c at v ih P|-;have E:bM b [[101,120,116,101,114,110],c.Name,iY c.N]:=by grind [bM,Lt.room,qu,iZ,jA]
   simp only[o,E,P,and_self,true_and];(try simp only[ae,am,aq,jval,bor,band,bnand,bimp,and_self]);exact ih
  simp only[ld,akS,if_false];refine eQ p.Funcs lm _ _ (λR i b hl hi hb ih=>?_) (λR hl=>?_)
  .simp only[aF hi,if_true,Int.toNat_natCast]
   try dsimp +instances only [Int.toNat_natCast]
   have o:(0:Int)<=(i:Int)/\i<p.Funcs.length:=⟨akW i,hi⟩
   have v:=jb lm p.Funcs hi
   have y:=cC okP hi
   have e:=cC r hi
   refine⟨o,?_⟩;generalize p.Funcs.getD i default=f at v y e ih|-;have l:b.length+(lm f).length<=1099511627776:=by grind [iZ,qu]
   simp only[lm,ak1]at l;refine⟨by grind [bM,Lt.room],by grind [dB,Lt.room,iD],?_,?_⟩
   .grind [dB,Lt.room,iZ,qu,iD]
   refine eQ f.Blocks iw _ _ (λR2 j b2 M hj Z m=>?_) (λR2 M=>?_)
   .simp only[aF hj,if_true,Int.toNat_natCast]
    try dsimp +instances only [Int.toNat_natCast]
    have o2:(0:Int)<=(j:Int)/\j<f.Blocks.length:=⟨akW j,hj⟩
    have H:=jb iw f.Blocks hj
    have a:=cC y hj
    have d:=cC e hj
    simp only[o2,and_self,true_and];generalize f.Blocks.getD j default=k at H a d m|-;have B:b2.length+(iw k).length<=1099511627776:=by grind [iZ,qu,iD,ak1]
    simp only[iw,ak1]at B;refine⟨by grind [bM,Lt.room],?_⟩;refine eQ k.Phis (λx=>Lt.lnT (nJ x)) _ _ (λT q b3 F hq aa C=>?_) (λT F=>?_)
    .simp only[aF hq,if_true,Int.toNat_natCast]
     try dsimp +instances only [Int.toNat_natCast]
     have o3:(0:Int)<=(q:Int)/\q<k.Phis.length:=⟨akW q,hq⟩
     have L:=jb (λx=>Lt.lnT (nJ x)) k.Phis hq
     have u:=cC a.1 hq
     simp only[o3,and_self,true_and];generalize k.Phis.getD q default=x at L u C|-;have z:b3.length+(Lt.lnT (nJ x)).length<=1099511627776:=by grind [iD]
     have Y:=AE (nJ x)
     have ab:(nJ x).length=2+2*x.Ins.length:=by simp only[nJ,ak1,Qt,akY,ak7]
     refine eQ x.Ins (λi=>[i.Block,bh i.A]) _ _ (λI t w g K hw n=>?_) (λI g=>?_)
     .simp only[aF K,if_true,Int.toNat_natCast]
      try dsimp +instances only [Int.toNat_natCast]
      have S:(0:Int)<=(t:Int)/\t<x.Ins.length:=⟨akW t,K⟩
      have X:fC (x.Ins.getD t default).A:=u.2 _ (au _ K)
      simp only[S,X,and_self,true_and];(try simp only[ae,am,aq,jval,bor,band,bnand,bimp,and_self]);refine⟨?_,n⟩;rw[hw];simp only[ak1,Qt,akY,ak7,amL];omega
     simp only[ld,akS,if_false];refine⟨?_,C⟩;unfold bM Lt.room;exact z
    simp only[ld,akS,if_false];refine eQ k.Code jP _ _ (λI q b4 g hq Q n=>?_) (λI g=>?_)
    .simp only[aF hq,if_true,Int.toNat_natCast]
     try dsimp +instances only [Int.toNat_natCast]
     have U:=jb jP k.Code hq
     have okc:=cC a.2.1 hq
     have D:=cC d hq
     refine⟨⟨akW q,hq⟩,⟨okc,D,?_⟩,n⟩
     grind [Lt.room,iD]
    simp only[ld,akS,if_false];refine⟨(⟨a.2.2,?_⟩:A9 _ k.End),?_⟩
    .grind [Lt.room,iD]
    simp only[iw,<- al2]at m;exact m
   simp only[ld,akS,if_false];simp only[lm,<- al2]at ih;exact ih
  simp only[ld,akS,if_false];unfold iZ at h;exact h
 exact ifk (λhc=>⟨by grind [bM,Lt.room],by rw[if_pos hc]at O;exact O⟩) (λhc=>by grind)
theorem ZW(op:Int):(Lt.Of op).1.Most<=8:=by grind (splits:=20) [Lt.Of]
variable{op:Int}
theorem VT(h:op=26\/op=27):1<=(Lt.Of op).1.Least:=by rcases h with rfl|rfl<;>decide
structure InstrOk (i:Lt.Instr):Prop where
 args:i.Args.length<=8
 frames:i.Frames.length<=16
 objs:i.Objs.length<=99
 fr:∀f∈i.Frames,Lt.frame f=true
 ob:∀o∈i.Objs,Lt.virt o=true
 least:i.Op=26\/i.Op=27->1<=i.Args.length
 aok:bH i.Args false=true
 of:(Lt.Of i.Op).2=true
 dst:(Lt.Of i.Op).1.Dst=!decide (i.Dst=[])
 nm:(Lt.Of i.Op).1.Named=!decide (i.Name=[])
 dstN:(Lt.Of i.Op).1.Dst=true->Lt.Name i.Dst=true
 nmN:(Lt.Of i.Op).1.Named=true->Lt.Name i.Name=true
 lo:(Lt.Of i.Op).1.Least<=(i.Args.length:Int)
 hi:(i.Args.length:Int)<=(Lt.Of i.Op).1.Most
 none:i.Op≠31/\i.Op≠34->i.Frames=[]/\i.Objs=[]
variable{i:Lt.Instr}
theorem im(h:Lt.instr i=true):InstrOk i:=by
 unfold Lt.instr at h;simp only[akP,decide_eq_true_eq,beq_iff_eq,alA,Bool.and_eq_false_iff]at h;obtain⟨⟨⟨⟨⟨⟨h1,h2⟩,h3⟩,h4⟩,h5⟩,⟨⟨⟨h6,h7⟩,h8⟩,h9⟩,b⟩,d⟩:=h;have hm:=ZW i.Op
 have a:(∀f∈i.Frames,Lt.frame f=true)/\(∀o∈i.Objs,Lt.virt o=true):=by grind
 refine⟨by omega,h9,b,a.1,a.2,λc=>?_,h8,h1,h2,h3,λhd=>?_,λhd=>?_,h6,h7,λc=>?_⟩
 .have:=VT c
  omega
 all_goals grind
theorem Ad{f:Lt.Frame}(h:Lt.frame f=true):Lt.Name f.Func=true/\Lt.Name f.Block=true/\0<=f.At/\f.At<=1024/\f.Vars.length<=16/\∀b∈f.Vars,iN b=true:=by grind [Lt.frame]
theorem Rb{o:Lt.Virt}(h:Lt.virt o=true):Lt.Name o.Class=true/\o.Vals.length<=8/\bH o.Vals true=true:=by grind [Lt.virt]
theorem Oq{x:Lt.Phi}(h:Lt.phi x=true):Lt.Name x.Dst=true/\x.Ins≠[]/\x.Ins.length<=256/\∀i∈x.Ins,oG i=true:=by grind [Lt.phi]
variable{b:Lt.Block}
theorem zy(h:Lt.block b=true):Lt.Name b.Name=true/\fh b.End=true/\(∀x∈b.Phis,Lt.phi x=true)/\∀i∈b.Code,Lt.instr i=true:=by grind [Lt.block]
def longs(l:List Lt.Block):Nat:=(l.map λb=>b.Phis.length+b.Code.length).sum
theorem Dc:∀(l:List Lt.Block)(n:Nat),n<=1024->Lt.blocks l n=true->n+longs l<=1024/\∀b∈l,Lt.block b=true
 |[],n,hn,_=>⟨by grind [longs],by simp⟩
 |b::r,n,hn,h=>by
  simp only[Lt.blocks,akP,decide_eq_true_eq]at h;obtain⟨⟨h1,h2⟩,h3⟩:=h;obtain⟨k1,k2⟩:=Dc r _ h1 h3
  grind [longs]
structure FuncOk (f:Lt.Func):Prop where
 name:Lt.Name f.Name=true
 res:Lt.kind f.Result=true
 params:Lt.typed f.Params 6=true
 vars:Lt.typed f.Vars 1024=true
 ne:f.Blocks≠[]
 len:f.Blocks.length<=256
 long:longs f.Blocks<=1024
 bl:∀b∈f.Blocks,Lt.block b=true
variable{f:Lt.Func}
theorem yt(h:aJ f=true):FuncOk f:=by unfold aJ at h;simp only[akP,decide_eq_true_eq,alA,decide_eq_false_iff_not]at h;obtain⟨⟨⟨⟨⟨⟨h1,h2⟩,h3⟩,h4⟩,h5⟩,h6⟩,h7⟩:=h;obtain⟨k1,k2⟩:=Dc _ 0 kQ1 h7;exact⟨h1,h2,h3,h4,h5,h6,by omega,k2⟩
structure ProgOk (p:Lt.Program):Prop where
 nc:p.Classes.length<=8
 ne:p.Externs.length<=8
 nf:p.Funcs.length<=8
 glob:Lt.typed p.Globals 8=true
 cl:∀c∈p.Classes,cV c=true
 ex:∀x∈p.Externs,cP x=true
 fn:∀f∈p.Funcs,aJ f=true
variable{p:Lt.Program}
theorem FV(h:bt p=true):ProgOk p:=by unfold bt at h;simp only[akP,decide_eq_true_eq,ak0]at h;obtain⟨⟨⟨⟨h1,h2⟩,h3⟩,h4⟩,h5,h6,h7⟩:=h;exact⟨h1,h2,h3,h4,h5,h6,h7⟩
variable{a:Lt.Arg}
theorem gz(h:bE a=true):(a.Kind=1/\Lt.Name a.S=true/\a.N=0)\/(a.Kind=2/\a.S=[])\/(a.Kind=3/\a.S=[]/\Lt.Plain a.N=a.N)\/(a.Kind=4/\a.S=[]/\a.N=0)\/(a.Kind=5/\a.S=[]/\0<=a.N/\a.N<=999):=by grind (splits:=20) [bE]
theorem UD[Inhabited α][DecidableEq α](a b:List α)(hl:a.length<=LEN)(c:a.length=b.length)(rest:Bool)(KK:Bool->Prop)(body:(Int->Prop)->Int->Prop)
  (hs:∀R i,i<a.length->(a.getD i default=b.getD i default->R (i64.wrap ((i:Int)+1)))->(a.getD i default≠b.getD i default->KK false)->body R (i:Int))
  (d:∀R,KK rest->body R (a.length:Int)) (h:KK (decide (a=b)&&rest)):ab body 0:=by
 refine af body a.length (λi x=>x=(i:Int)/\KK (decide (a.drop i=b.drop i)&&rest)) (λR i x hi hx ih=>?_) (λR x hx=>?_) _ ⟨rfl,by grind⟩
 all_goals grind [alF,ac,LEN,List.cons.injEq]
theorem cE[Inhabited α][DecidableEq α](a b:List α)(c:a.length=b.length)(rest:Bool)(KK:Bool->Prop)(body:(Int->Prop)->Int->Prop)
  (hs:∀R i,a.length<=LEN->i<a.length->(a.getD i default=b.getD i default->R (i64.wrap ((i:Int)+1)))->(a.getD i default≠b.getD i default->KK false)->body R (i:Int))
  (d:∀R,KK rest->body R (a.length:Int)) (h:KK (decide (a=b)&&rest)):ab (λR v=>a.length<=4611686018427387904->body R v) 0:=by
 by_cases hl:a.length<=LEN
 .exact UD a b hl c rest KK _ (λR i hi h1 h2 _=>hs R i hl hi h1 h2) (λR h _=>d R h) h
 exact⟨1,λh=>absurd h hl⟩
theorem ag3(x y:Lt.Var):(decide (x.Name=y.Name)&&decide (x.Type_=y.Type_))=decide (x=y):=by
 obtain⟨a,b⟩:=x;obtain⟨c,d⟩:=y
 grind
theorem EY(x y:Lt.Arg):(decide (x.Kind=y.Kind)&&(decide (x.S=y.S)&&decide (x.N=y.N)))=decide (x=y):=by
 obtain⟨a,b,c⟩:=x;obtain⟨d,e,f⟩:=y
 grind
theorem abU(x y:Lt.Bind):(decide (x.Name=y.Name)&&(decide (x.A.Kind=y.A.Kind)&&(decide (x.A.S=y.A.S)&&decide (x.A.N=y.A.N))))=decide (x=y):=by
 rw[EY];obtain⟨a,b⟩:=x;obtain⟨c,d⟩:=y
 grind
theorem ai2(x y:Lt.In):(decide (x.Block=y.Block)&&(decide (x.A.Kind=y.A.Kind)&&(decide (x.A.S=y.A.S)&&decide (x.A.N=y.A.N))))=decide (x=y):=by
 rw[EY];obtain⟨a,b⟩:=x;obtain⟨c,d⟩:=y
 grind
theorem S4(x y:Lt.Extern):(decide (x.Name=y.Name)&&decide (x.N=y.N))=decide (x=y):=by
 obtain⟨a,b⟩:=x;obtain⟨c,d⟩:=y
 grind
theorem ob2{a:List α}{b:List β}{i:Nat}(h:i<a.length)(e:a.length=b.length):(0:Int)<=(i:Int)/\i<b.length:=⟨akW i,by omega⟩
theorem Fk(a b:List Lt.Var)(KK:Bool->Prop)(h:KK (jD a b)):yW a b KK:=by
 unfold yW;(try simp only[ae,am,aq,jval,bor,band,bnand,bimp,and_self]);intro _ _;unfold jD at h;refine ifk (λhc=>kk h (by grind)) (λhc=>?_);have c:a.length=b.length:=by grind
 refine cE a b c true KK _ (λR i hl hi ih d=>?_) (λR h=>?_) (kk h (by simp))
 all_goals grind [ag3]
theorem Fj(a b:List Lt.Arg)(KK:Bool->Prop)(h:KK (qx a b)):yV a b KK:=by
 unfold yV;(try simp only[ae,am,aq,jval,bor,band,bnand,bimp,and_self]);intro _ _;unfold qx at h;refine ifk (λhc=>kk h (by grind)) (λhc=>?_);have c:a.length=b.length:=by grind
 refine cE a b c true KK _ (λR i hl hi ih d=>?_) (λR h=>?_) (kk h (by simp))
 all_goals grind [EY]
theorem B5(a b:Lt.Instr)(KK:Bool->Prop)(h:KK (qQ a b)):xa a b KK:=by
 unfold xa;dsimp only;(try simp only[ae,am,aq,jval,bor,band,bnand,bimp,and_self]);unfold qQ at h;unfold qx;refine ifk (λhc=>kk h (by grind)) (λhc=>?_);simp only[alP,alA,decide_eq_false_iff_not,not_or,alE,decide_eq_true_eq,Classical.not_not]at hc;obtain⟨h1,h2,h3,h4,h5,h6⟩:=hc;have e:decide (a=b)=(decide (a.Frames=b.Frames)&&(decide (a.Objs=b.Objs)&&true)):=by
  obtain⟨u,p,a3,a4,a5,s⟩:=a;obtain⟨b1,b2,b3,v,q,b6⟩:=b
  grind
 rw[e]at h;have f:a.Frames.length=b.Frames.length:=by omega
 have c:a.Objs.length=b.Objs.length:=by omega
 refine cE a.Frames b.Frames f _ KK _ (λR i hl hi ih d=>?_) (λR h=>?_) h
 .simp only[aF hi,if_true,Int.toNat_natCast]
  try dsimp +instances only [Int.toNat_natCast]
  refine⟨⟨akW i,hi⟩,ob2 hi f,?_⟩;generalize a.Frames.getD i default=x at ih d|-;generalize b.Frames.getD i default=y at ih d|-;refine ifk (λhc=>d (by grind)) (λhc=>?_);have g:x.Vars.length=y.Vars.length:=by grind
  refine cE x.Vars y.Vars g true (λb=>if b then R (i64.wrap ((i:Int)+1))else KK false) _ (λk j hl hj o l=>?_) (λk h=>?_) ?_
  .grind [abU]
  .grind
  refine ifk (λhv=>ih ?_) (λhv=>d ?_)
  .obtain⟨m,n,z,t⟩:=x;simp_all
  grind
 simp only[ld,akS,if_false];refine cE a.Objs b.Objs c _ KK _ (λR i hl hi ih d=>?_) (λR h=>?_) h
 .simp only[aF hi,if_true,Int.toNat_natCast]
  try dsimp +instances only [Int.toNat_natCast]
  refine⟨⟨akW i,hi⟩,ob2 hi c,?_⟩;have o1:(0:Int)<=(i:Int)/\i<a.Objs.length:=⟨akW i,hi⟩
  have o2:=ob2 hi c
  simp only[o1,o2,and_self,true_and];(try simp only[ae,am,aq,jval,bor,band,bnand,bimp,and_self]);generalize a.Objs.getD i default=x at ih d|-;generalize b.Objs.getD i default=y at ih d|-;obtain⟨m,n⟩:=x;obtain⟨r,w⟩:=y
  grind
 grind
theorem B8(a b:Lt.Block)(KK:Bool->Prop)(h:KK (rK a b)):xd a b KK:=by
 unfold xd;dsimp only;(try simp only[ae,am,aq,jval,bor,band,bnand,bimp,and_self]);unfold rK at h;rw[EY];refine ifk (λhc=>kk h (by grind)) (λhc=>?_);simp only[alP,alA,decide_eq_false_iff_not,not_or,alE,decide_eq_true_eq,Classical.not_not]at hc;obtain⟨h1,h2,h3,h4,h5,h6,h7⟩:=hc;have e:decide (a=b)=(decide (a.End.To=b.End.To)&&(decide (a.Phis=b.Phis)&&(decide (a.Code=b.Code)&&true))):=by
  obtain⟨w,s,a3,⟨a4,a5,t,r⟩⟩:=a;obtain⟨b1,b2,b3,⟨A,z,b6,v⟩⟩:=b
  grind
 rw[e]at h;have k:a.End.To.length=b.End.To.length:=by omega
 have d:a.Phis.length=b.Phis.length:=by omega
 have g:a.Code.length=b.Code.length:=by omega
 refine cE a.End.To b.End.To k _ KK _ (λR i hl hi ih c=>?_) (λR h=>?_) h
 .grind
 simp only[ld,akS,if_false];refine cE a.Phis b.Phis d _ KK _ (λR i hl hi ih c=>?_) (λR h=>?_) h
 .simp only[aF hi,if_true,Int.toNat_natCast]
  try dsimp +instances only [Int.toNat_natCast]
  have o1:(0:Int)<=(i:Int)/\i<a.Phis.length:=⟨akW i,hi⟩
  have o2:=ob2 hi d
  simp only[o1,o2,and_self,true_and];(try simp only[ae,am,aq,jval,bor,band,bnand,bimp,and_self]);generalize a.Phis.getD i default=x at ih c|-;generalize b.Phis.getD i default=y at ih c|-;obtain⟨u,l⟩:=x;obtain⟨q,m⟩:=y;dsimp only;refine ifk (λhc=>c (by grind)) (λhc=>?_);have f:l.length=m.length:=by grind
  refine cE l m f true (λb=>if b then R (i64.wrap ((i:Int)+1))else KK false) _ (λn j hl hj p o=>?_) (λn h=>?_) ?_
  all_goals simp_all[ai2]
 simp only[ld,akS,if_false];refine cE a.Code b.Code g _ KK _ (λR i hl hi ih c=>?_) (λR h=>?_) h
 all_goals grind [qQ]
theorem Fa(a b:Lt.Func)(KK:Bool->Prop)(h:KK (t7 a b)):yP a b KK:=by
 unfold yP;dsimp only;(try simp only[ae,am,aq,jval,bor,band,bnand,bimp,and_self]);unfold t7 at h;unfold jD;refine ifk (λhc=>kk h (by grind)) (λhc=>?_);simp only[alP,alA,decide_eq_false_iff_not,not_or,alE,decide_eq_true_eq,Classical.not_not]at hc;obtain⟨h1,h2,h3,h4,h5⟩:=hc;have e:decide (a=b)=(decide (a.Blocks=b.Blocks)&&true):=by
  obtain⟨w,o,a3,a4,a5⟩:=a;obtain⟨b1,b2,b3,z,A⟩:=b
  grind
 rw[e]at h;have c:a.Blocks.length=b.Blocks.length:=by omega
 refine cE a.Blocks b.Blocks c _ KK _ (λR i hl hi ih d=>?_) (λR h=>?_) h
 .simp only[aF hi,if_true,Int.toNat_natCast]
  try dsimp +instances only [Int.toNat_natCast]
  refine⟨⟨akW i,hi⟩,ob2 hi c,?_⟩;generalize a.Blocks.getD i default=x at ih d|-;generalize b.Blocks.getD i default=y at ih d|-;obtain⟨r,k,j,⟨l,g,s,t⟩⟩:=x;obtain⟨f,n,q,⟨m,p,u,v⟩⟩:=y
  grind [rK]
 grind
theorem XQ(a b:Lt.Program)(KK:Bool->Prop)(h:KK (Lt.Same a b)):Vt a b KK:=by
 unfold Vt;(try simp only[ae,am,aq,jval,bor,band,bnand,bimp,and_self]);unfold Lt.Same at h;unfold jD t7;refine ifk (λhc=>kk h (by grind)) (λhc=>?_);simp only[alP,alA,decide_eq_false_iff_not,not_or,alE,decide_eq_true_eq,Classical.not_not,beq_iff_eq]at hc;obtain⟨h1,h2,h3,h4,h5⟩:=hc;have e:decide (a=b)=(decide (a.Classes=b.Classes)&&(decide (a.Externs=b.Externs)&&(decide (a.Funcs=b.Funcs)&&true))):=by
  obtain⟨n,j,a3,a4,a5⟩:=a;obtain⟨b1,b2,b3,p,q⟩:=b
  grind
 rw[e]at h;have c:a.Classes.length=b.Classes.length:=by omega
 have g:a.Externs.length=b.Externs.length:=by omega
 have f:a.Funcs.length=b.Funcs.length:=by omega
 refine cE a.Classes b.Classes c _ KK _ (λR i hl hi ih d=>?_) (λR h=>?_) h
 .simp only[aF hi,if_true,Int.toNat_natCast]
  try dsimp +instances only [Int.toNat_natCast]
  have o1:(0:Int)<=(i:Int)/\i<a.Classes.length:=⟨akW i,hi⟩
  have o2:=ob2 hi c
  simp only[o1,o2,and_self,true_and];(try simp only[ae,am,aq,jval,bor,band,bnand,bimp,and_self]);generalize a.Classes.getD i default=x at ih d|-;generalize b.Classes.getD i default=y at ih d|-;obtain⟨k,l⟩:=x;obtain⟨m,o⟩:=y
  grind
 simp only[ld,akS,if_false];refine cE a.Externs b.Externs g _ KK _ (λR i hl hi ih d=>?_) (λR h=>?_) h
 .grind [S4]
 simp only[ld,akS,if_false];refine cE a.Funcs b.Funcs f _ KK _ (λR i hl hi ih d=>?_) (λR h=>?_) h
 all_goals grind
theorem Ao:∀(k:Nat)(x:Int)(l:a8),(rU k x l).length=k+l.length
 |0,_,_=>by simp[rU]
 |k+1,x,l=>by rw[rU,Ao k];grind
theorem uM{P:Prop}{body:(α->Prop)->α->Prop}{x:α}(h:P->ab body x):ab (λR v=>P->body R v) x:=by
 by_cases hp:P
 .simp_all
 exact⟨1,λh=>absurd h hp⟩
theorem NG(n most:Int)(KK:Int->Prop)(h:KK (cD n most)):G1 n most KK:=by grind [G1,cD]
theorem TW(w:a8)(KK:Bool->Prop)(h:KK (D7 w)):PO w KK:=by simp_all[PO,ae,jval,D7]
theorem NI(l:List a8)(KK:Bool->Prop)(h:KK (fG l)):G3 l KK:=by
 unfold G3;refine uM (λhl=>dy l hl cj true KK _ (λR i hi ih a=>?_) (λR h=>?_) (kk h (by grind [fG])))
 all_goals grind
theorem NN(l:List a8)(KK:Bool->Prop)(h:KK (db l)):G8 l KK:=by
 unfold G8;(try simp only[ae,am,aq,jval,bor,band,bnand,bimp,and_self,iC,oX,oY]);refine λhl=>⟨λhc=>⟨Int.le_refl 0 |> λ_=>by decide,by grind⟩,?_⟩
 refine⟨λ_ _=>⟨by decide,by grind⟩,kk h ?_⟩
 grind [db,fG]
theorem acO(w:a8)(KK:Int×Bool->Prop)(h:KK (Lt.sOp w)):aeO w KK:=by
 unfold aeO;have d:gw.length=35:=rfl
 have key:∀k i,i+k=35->KK (OP w (gw.drop i) (i:Int))->pf (λ(c:Int->Prop) a=>if decide (a<=34)then(((0:Int)<=a/\a < ((35:Nat):Int))/\a.toNat<gw.length/\if decide ((gw.getD a.toNat default)=w)then(KK (a,true))else(c (i64.wrap (a+1))))else(KK (0,false))) (k+1) (i:Int):=by
  intro k;induction k with
  |zero=>
   intro i hi h;have e:i=35:=by omega
   subst e;exact h
  |succ k ih=>
   intro i hi h;have b:i<gw.length:=by omega
   rw[alF b]at h;have e:gw.getD i default=gw[i]:=by grind
   rw[<- e]at h;show(if decide ((i:Int)<=34)then _ else _)
   grind (splits:=20) [Int.toNat_natCast,OP,ac]
 exact⟨35,key 34 1 rfl h⟩
theorem Ac(f:β->α->β)(b:β)(l:List α)(x:α):(l++[x]).foldl f b=f (l.foldl f b) x:=by simp
theorem Ud(s:a8)(i:Nat)(hi:i<s.length)(a:i < 30) :
  (if s.getD 0 0=45 then((s.take (i+1)).drop 1).foldl jB 0 else(s.take (i+1)).foldl jB 0) =
  (if i=0/\s.getD 0 0=45 then(if s.getD 0 0=45 then((s.take i).drop 1).foldl jB 0 else(s.take i).foldl jB 0)
   else jB (if s.getD 0 0=45 then((s.take i).drop 1).foldl jB 0 else(s.take i).foldl jB 0) (s.getD i 0)):=by
 grind [aA]
theorem Ak(n:Int):Lt.inR (xI n):=by
 have:=wf_wrap (k:=.i64) n
 simp only[Lit.wf,akP,decide_eq_true_eq]at this;have h1:i64.min=-9223372036854775808:=by decide
 have h2:i64.max=9223372036854775807:=by decide
 grind [Lt.inR,xI]
theorem X1(s:a8)(KK:Int×Bool->Prop)(h:KK (fd s)):VH s KK:=by
 unfold VH;(try simp only[ae,am,aq,jval,bor,band,bnand,bimp,and_self,iC,oX,oY]);refine uM (λhl=>?_);have hb:∀c:UInt8,decide ((((c.toNat:Nat):Int))=(((45:UInt8).toNat:Nat):Int))=decide (c=45):=λc=>by
  by_cases hc:c=45
  .simp_all
  have:c.toNat≠(45:UInt8).toNat:=λe=>hc (UInt8.toNat_inj.1 e)
  grind
 simp only[hb];obtain⟨g,f,j,l⟩:∃g:Nat->Int,g 0=0/\(∀i,i<s.length->i < 30->g (i+1)=if i=0/\s.getD 0 0=45 then g i else jB (g i) (s.getD i 0))/\g (min s.length 30)=D8 s:=by
  refine⟨λi=>if s.getD 0 0=45 then((s.take i).drop 1).foldl jB 0 else(s.take i).foldl jB 0,by simp,λi h1 h2=>Ud s i h1 h2,?_⟩;have e:s.take (min s.length 30)=s.take 30:=by grind
  simp only[e];rfl
 refine JG (min s.length 30) (by grind [LEN]) g _ (λR i hi m=>?_) (λR=>?_) f
 .have h1:i<s.length:=by omega
  have h2:i < 30:=by omega
  have e:=j i h1 h2
  have b:decide ((i:Int) < 30)=true:=by grind
  have d:decide ((i:Int)=0)=decide (i=0):=by simp
  simp only[aF h1,if_true,ak9,b,Int.toNat_natCast,d]
  grind [jB]
 have a:(decide (((min s.length 30:Nat):Int) < (s.length:Int))&&decide (((min s.length 30:Nat):Int) < 30))=false:=by grind
 simp only[a,akS,if_false];refine⟨λh=>h.elim,λh=>h.elim,λ_=>⟨λhc=>⟨by decide,by grind⟩,?_⟩⟩;have k:(if decide (0 < (s.length:Int))&&decide (s.getD 0 0=45)then IntKind.u64.wrap (0-g (min s.length 30))else g (min s.length 30))=(if s.getD 0 0=45 then IntKind.u64.wrap (0-D8 s)else D8 s):=by grind
 rw[k];refine⟨Ak _,?_⟩
 grind [fd,Ln]
theorem MV(s:a8){i:Nat}(h:i+2<s.length):(s.drop 2).take (i+1)=(s.drop 2).take i++[s.getD (i+2) 0]:=by grind [aA]
theorem X0(s:a8)(KK:Int×Bool->Prop)(h:KK (Bw s)):VG s KK:=by
 unfold VG;(try simp only[ae,am,aq,jval,bor,band,bnand,bimp,and_self,iC,oX,oY]);refine λhl=>ifk (λhc=>?_) (λhc=>?_)
 .grind [Bw]
 have b:s.length=18:=by grind
 refine af _ 16 (λi x=>x=(((s.drop 2).take i).foldl Bx 0,((i+2:Nat):Int))) (λR i x hi hx a=>?_) (λR x hx=>?_) _ rfl
 .subst hx;have h1:i+2<s.length:=by omega
  have e:=MV s h1
  have hc:(decide (((i+2:Nat):Int) < 18))=true:=by grind
  simp only[hc,if_true,Int.toNat_natCast];refine⟨λ_=>⟨akW _,h1⟩,λ_=>by decide,?_⟩;refine a _ ?_;rw[e,Ac,ac kQ1]
  grind [Bx]
 grind [Bw,Ll]
theorem QB:Lt.inR 0:=by grind [Lt.inR]
theorem QC(s:a8):Lt.inR (fd s).1:=by
 unfold fd;split
 .exact Ak _
 exact QB
theorem ab8(s:a8):Lt.inR (Bw s).1:=by
 unfold Bw;split
 .exact Ak _
 exact QB
theorem ajG(c w:Bool)(A B:Prop):(if c then(if w then A else B)else B)=(if c&&w then A else B):=by grind
theorem XZ(s:a8)(KK:Lt.Arg×Bool->Prop)(h:KK (Lt.dE s)):VF s KK:=by
 have hp:∀k n,Lt.inR n->fC ⟨k,[],n⟩:=λ_ _ h=>h
 have a:fC ⟨1,s,0⟩:=QB
 have d:=hp 2 _ (QC s)
 have n2:=hp 3 _ (ab8 s)
 have e:=hp 5 _ (QC (s.drop 1))
 have c:=hp 4 _ QB
 unfold VF;dsimp only;intro g b hl;have i:=b (s.drop 1) ?_
 .cases s<;>grind
 have b0:((0:Int)<=0/\(0:Int) < ((5:Nat):Int))=True:=by decide
 have b1:((0:Int)<=1/\(1:Int) < ((5:Nat):Int))=True:=by decide
 have b2:((0:Int)<=2/\(2:Int) < ((5:Nat):Int))=True:=by decide
 have b3:((0:Int)<=3/\(3:Int) < ((5:Nat):Int))=True:=by decide
 have f:((0:Int)<=4/\(4:Int) < ((5:Nat):Int))=True:=by decide
 simp only[ae,am,bL,bd,b0,b1,b2,b3,f,show(decide ((0:Int) < 5))=true from rfl,show(decide ((1:Int) < 5))=true from rfl,show(decide ((2:Int) < 5))=true from rfl,show(decide ((3:Int) < 5))=true from rfl,show(decide ((4:Int) < 5))=true from rfl,show(decide ((5:Int) < 5))=false from rfl,if_true,akS,if_false,a,d,n2,e,c,true_and,ajG]
 grind [Lt.dE,rZ]
theorem D2(p:α->Bool)(d:α):∀l:List α,((List.range l.length).all λi=>p (l.getD i d))=l.all p
 |[]=>rfl
 |a::r=>by
  rw[akY,List.range_succ_eq_map,ak2,List.all_map];have:=D2 p d r
  grind
theorem DZ(i:Nat)(c:UInt8):wJ i c=(Lt.letter c||(kE c&&decide (0<i))):=by grind [wJ,Lt.letter,uH,kE]
theorem aX(s:a8):cj s=Lt.Name s:=by
 unfold cj Lt.Name Lt.kept;cases s with
 |nil=>rfl
 |cons a r=>
  rw[akY,List.range_succ_eq_map,ak2,List.all_map];have e:((List.range r.length).all ((λi=>wJ i ((a::r).getD i 0)) ∘ Nat.succ))=r.all iq:=by
   rw[<- D2 iq 0 r]
   grind [DZ,iq]
  grind [DZ,iq]
theorem Ym(x:Nat):(9218868437227405312<x % 9223372036854775808) ↔ ((x &&& 9218868437227405312)=9218868437227405312/\(x &&& 4503599627370495)≠0):=by
 have b:x &&& 4503599627370495=x % 2 ^ 52:=amM x 52
 have d:x &&& 9223372036854775807=x % 2 ^ 63:=amM x 63
 have c:(x &&& 9218868437227405312) % 2 ^ 52=0:=by
  rw[<- amM,Nat.and_assoc]
  grind
 have a:x &&& 9223372036854775807=(x &&& 9218868437227405312) ||| (x &&& 4503599627370495):=by rw[<- Nat.and_or_distrib_left];rfl
 obtain⟨q,hq⟩:∃q,x &&& 9218868437227405312=2 ^ 52*q:=⟨_,(Nat.mul_div_cancel' (Nat.dvd_of_mod_eq_zero c)).symm⟩
 have h:=Nat.and_le_right (n:=x) (m:=9218868437227405312)
 rw[hq,b,<- Nat.two_pow_add_eq_or_of_lt (anG _ (by decide))]at a;omega
theorem nU(n:Int):IntKind.u64.wrap n=(((BitVec.ofInt 64 n).toNat:Nat):Int):=by grind [BitVec.toNat_ofInt,IntKind.wrap,IntKind.signed,IntKind.bits]
theorem A7(n:Int):dL n=Lt.Plain n:=by
 unfold dL F6 Lt.Plain;have a:i64.bits=64:=rfl
 rw[nU,a,BitVec.toNat_and,BitVec.toNat_and];generalize(BitVec.ofInt 64 n).toNat=x;have c:(BitVec.ofInt 64 9218868437227405312).toNat=9218868437227405312:=by decide
 have b:(BitVec.ofInt 64 4503599627370495).toNat=4503599627370495:=by decide
 rw[c,b];have h1:=Nat.and_le_right (n:=x) (m:=9218868437227405312)
 have h2:=Nat.and_le_right (n:=x) (m:=4503599627370495)
 have:=Ym x
 grind [cF]
def Tg:a8:=[48,49,50,51,52,53,54,55,56,57,97,98,99,100,101,102]
def wq(k:Nat):UInt8:=Tg.getD (k % 16) 0
theorem QA(k:Nat):XE (k:Int)=wq k:=by
 unfold XE wq;have e:Int.tmod (k:Int) 16=((k % 16:Nat):Int):=rfl
 rw[e];have h:k % 16 < 16:=anG _ (by decide)
 generalize k % 16=j at h;have:∀j:Fin 16,UInt8.ofNat (IntKind.u8.wrap ((IntKind.u8.wrap ((j.1:Nat):Int))+(if IntKind.u8.wrap ((j.1:Nat):Int) < 10 then 48 else 87))).toNat=Tg.getD j.1 0:=by decide
 exact this ⟨j,h⟩
theorem E4:∀(k m:Nat)(l:a8),m < 18446744073709551616->rU k (m:Int) l=((List.range k).map λi=>wq (m / 16 ^ (k - 1-i)))++l
 |0,m,l,_=>rfl
 |k+1,m,l,h=>by
  rw[rU,show Int.tdiv (m:Int) 16=((m / 16:Nat):Int)from rfl,eB kQ1,E4 k (m / 16) _ kQ1,QA,List.range_succ,al0];have e:(List.range k).map (λi=>wq (m / 16 / 16 ^ (k - 1-i)))=(List.range k).map (λi=>wq (m / 16 ^ (k+1 - 1-i))):=by
   refine ak4 (λi hi=>?_);have hi:i<k:=am9.1 hi
   rw[Nat.div_div_eq_div_mul,show k+1 - 1-i=(k - 1-i)+1 by omega,Nat.pow_succ,Nat.mul_comm 16]
  grind
theorem XD(u:Int)(s:Nat)(hs:s<=60):XC u (s:Int)=wq ((BitVec.ofInt 64 u).toNat / 2 ^ s):=by
 unfold XC;have a:IntKind.u64.bits=64:=rfl
 rw[nU u,eB (n:=s) kQ1,a,Int.toNat_natCast,Nat.min_eq_left kQ1];have hx:=(BitVec.ofInt 64 u).isLt
 generalize(BitVec.ofInt 64 u).toNat=x at hx|-;have e:Int.fdiv (x:Int) (2 ^ s)=((x / 2 ^ s:Nat):Int):=by grind
 have d:x / 2 ^ s < 18446744073709551616:=Nat.lt_of_le_of_lt (Nat.div_le_self _ _) hx
 have b:(BitVec.ofInt 64 15).toNat=15:=by decide
 have c:(BitVec.ofInt 64 ((x / 2 ^ s:Nat):Int)).toNat=x / 2 ^ s:=by grind [BitVec.toNat_ofInt]
 rw[e,BitVec.toNat_and,b,c];have f:(x / 2 ^ s &&& 15:Nat)=x / 2 ^ s % 16:=amM _ 4
 rw[f,eB kQ1,Int.toNat_natCast];rfl
theorem M1(n:Int):pm n=ik n:=by
 unfold pm ik;rw[A7,nU,E4 16 _ _ (BitVec.isLt _),List.append_nil]
 congr 1
 refine ak4 (λi hi=>?_);have hi:i < 16:=am9.1 hi
 have e:(60:Int) - 4*(i:Int)=((60 - 4*i:Nat):Int):=by omega
 rw[e,XD _ _ kQ1];rw[show 60 - 4*i=4*(16 - 1-i)by omega,Nat.pow_mul]
theorem Bp(a:Lt.Arg):jQ a=bE a:=by grind [jQ,bE,aX,A7,decide]
theorem rO(a:Lt.Arg):bh a=aB a:=by grind [bh,aB,iY,Bp,M1,gz]
theorem tg(op:Int):(Lt.rOf op).2=(Lt.Of op).2/\(Lt.rOf op).1.Word=(Lt.Of op).1.Word/\(Lt.rOf op).1.Dst=(Lt.Of op).1.Dst/\(Lt.rOf op).1.Named=(Lt.Of op).1.Named/\(Lt.rOf op).1.Least=(Lt.Of op).1.Least/\(Lt.rOf op).1.Most=(Lt.Of op).1.Most:=by
 by_cases h:1<=op/\op<=34
 .obtain⟨k,rfl⟩:=alY (show 0<=op by omega);have hk:k < 35:=by omega
  have:∀k:Fin 35,1<=k.1->(Lt.rOf (k.1:Int)).2=(Lt.Of (k.1:Int)).2/\(Lt.rOf (k.1:Int)).1.Word=(Lt.Of (k.1:Int)).1.Word/\(Lt.rOf (k.1:Int)).1.Dst=(Lt.Of (k.1:Int)).1.Dst/\(Lt.rOf (k.1:Int)).1.Named=(Lt.Of (k.1:Int)).1.Named/\(Lt.rOf (k.1:Int)).1.Least=(Lt.Of (k.1:Int)).1.Least/\(Lt.rOf (k.1:Int)).1.Most=(Lt.Of (k.1:Int)).1.Most:=by decide +kernel
  exact this ⟨k,hk⟩ (by grind)
 grind (splits:=20) [Lt.rOf,Lt.Of]
theorem zS:(n:Nat)->∀c∈Lt.digs n,48<=c.toNat/\c.toNat<=57:=by
 intro n;induction n using Nat.strongRecOn with
 |_ n ih=>
  have hd:∀k:Nat,k < 10->(UInt8.ofNat (48+k)).toNat=48+k:=λk hk=>by simp;omega
  by_cases h:n < 10
  all_goals grind [iQ,pS]
theorem Qr(n:Nat):Lt.digs n≠[]:=by
 by_cases h:n < 10
 all_goals simp_all[iQ,pS]
theorem QJ{m:Nat}{c:UInt8}(h1:48<=c.toNat)(h2:c.toNat<=57)(h3:10*m+(c.toNat - 48) < 18446744073709551616):jB (m:Int) c=((10*m+(c.toNat - 48):Nat):Int):=by grind [jB,IntKind.wrap,IntKind.signed,IntKind.bits]
theorem SZ:(n:Nat)->n < 18446744073709551616->(Lt.digs n).foldl jB 0=(n:Int):=by
 intro n;induction n using Nat.strongRecOn with
 |_ n ih=>
  intro hn;have hd:∀k:Nat,k < 10->(UInt8.ofNat (48+k)).toNat=48+k:=λk hk=>by simp;omega
  by_cases h:n < 10
  .rw[iQ h];show jB ((0:Nat):Int) _=_
   rw[QJ (by grind) (by grind) (by grind),hd n h];omega
  rw[pS h,Ac,ih (n / 10) kQ1 kQ1];have:=anG n (show 10 > 0 by decide)
  rw[QJ (by grind) (by grind) (by grind),hd _ this];omega
theorem Yq(h:Lt.inR n):Ln (be n)=n:=by
 have hl:=s6 h
 unfold Lt.inR at h;have b:=Qr n.natAbs
 have c:=zS n.natAbs
 have hf:=SZ n.natAbs kQ1
 unfold Ln D8 xI;rw[amR (show(be n).length<=30 by omega)];by_cases hn:n < 0
 .grind [be,IntKind.wrap,IntKind.signed,IntKind.bits]
 have e:be n=Lt.digs n.natAbs:=by grind [be]
 rw[e];have a:¬ (Lt.digs n.natAbs).getD 0 0=45:=by intro e;cases d:Lt.digs n.natAbs<;>simp_all
 grind [IntKind.wrap,IntKind.bits]
theorem qw(h:Lt.inR n):fd (be n)=(n,true):=by grind [fd,Yq,iY]
theorem mi(n:Int):∀c∈be n,c=45\/(48<=c.toNat/\c.toNat<=57):=by grind [be,zS]
theorem Ue(n:Int):be n≠[]:=by grind [be,Qr]
theorem XF(k:Nat):(if 97<=(IntKind.u64.wrap (((wq k).toNat:Nat):Int))then IntKind.u64.wrap ((IntKind.u64.wrap (((wq k).toNat:Nat):Int)) - 87)else IntKind.u64.wrap ((IntKind.u64.wrap (((wq k).toNat:Nat):Int)) - 48))=((k % 16:Nat):Int):=by
 unfold wq;have h:k % 16 < 16:=anG _ (by decide)
 generalize k % 16=j at h;have:∀j:Fin 16,(if 97<=(IntKind.u64.wrap (((Tg.getD j.1 0).toNat:Nat):Int))then IntKind.u64.wrap ((IntKind.u64.wrap (((Tg.getD j.1 0).toNat:Nat):Int)) - 87)else IntKind.u64.wrap ((IntKind.u64.wrap (((Tg.getD j.1 0).toNat:Nat):Int)) - 48))=((j.1:Nat):Int):=by decide
 exact this ⟨j,h⟩
theorem ab0{u k:Nat}(h:16*u+15 < 18446744073709551616):Bx (u:Int) (wq k)=((16*u+k % 16:Nat):Int):=by
 unfold Bx;rw[XF];have e:Int.tmod ((k % 16:Nat):Int) 16=((k % 16:Nat):Int):=by grind
 rw[e];have a:=anG k (show 16 > 0 by decide)
 rw[show((u:Nat):Int)*16=((16*u:Nat):Int)by omega,eB kQ1,show((16*u:Nat):Int)+((k % 16:Nat):Int)=((16*u+k % 16:Nat):Int)by omega,eB kQ1]
theorem DC:∀(k m:Nat)(l:a8),m < 18446744073709551616->k<=16->(rU k (m:Int) l).foldl Bx 0=l.foldl Bx ((m % 16 ^ k:Nat):Int)
 |0,m,l,_,_=>by grind [rU]
 |k+1,m,l,h,hk=>by
  rw[rU,show Int.tdiv (m:Int) 16=((m / 16:Nat):Int)from rfl,eB kQ1,DC k (m / 16) _ kQ1 kQ1,QA,anC];have hp:16 ^ k<=16 ^ 15:=Nat.pow_le_pow_right (by decide) kQ1
  have hm:=anG (m / 16) (show 16 ^ k > 0 from Nat.pow_pos (by decide))
  have a:(16:Nat) ^ 15=1152921504606846976:=by decide
  rw[ab0 kQ1]
  congr 2
  grind [Nat.mod_mul]
theorem Ul(h:Lt.inR n):Lt.inR (dL n):=by grind [dL,Lt.inR]
theorem Xm(h:Lt.inR n):Ll (pm n)=dL n:=by
 have hp:=Ul h
 unfold Lt.inR at hp;unfold Ll pm;have hx:IntKind.u64.wrap (dL n)=(((IntKind.u64.wrap (dL n)).toNat:Nat):Int):=by rw[nU];rfl
 have a:(IntKind.u64.wrap (dL n)).toNat < 18446744073709551616:=by rw[nU];omega
 have hl:=Ao 16 (IntKind.u64.wrap (dL n)) []
 have b:([48,102]++rU 16 (IntKind.u64.wrap (dL n)) []).drop 2=rU 16 (IntKind.u64.wrap (dL n)) []:=rfl
 rw[b,amR (by grind),hx,DC 16 _ _ a kQ1]
 grind [IntKind.wrap,IntKind.signed,IntKind.bits]
theorem Y0(n:Int):(pm n).length=18:=by rfl
theorem OH(n:Int):pm (dL n)=pm n:=by grind [pm,dL]
theorem Zb(h:Lt.inR n):Bw (pm n)=(dL n,true):=by grind [Bw,Xm,Y0,OH]
theorem ly(s:a8)(a:Lt.Arg):rZ s a=true ↔ bE a=true/\aB a=s:=by grind [rZ,Bp,rO]
theorem s5{a:UInt8}{r:a8}(h:Lt.Name (a::r)=true):Lt.letter a=true:=by grind [Lt.Name]
theorem FL(n:Int):Lt.Name (be n)=false:=by
 cases b:be n with
 |nil=>rfl
 |cons a r=>
  have hb:=mi n a (by grind)
  cases hN:Lt.Name (a::r)with
  |false=>rfl
  |true=>
   exfalso
   have:=s5 hN
   unfold Lt.letter uH at this;rcases hb with rfl|hb
   all_goals grind
theorem Rd:aB ⟨2,[],n⟩=be n:=by rfl
theorem Re(h:Lt.Plain n=n):aB ⟨3,[],n⟩=ik n:=by simp[aB,bE,h]
theorem afQ:aB ⟨4,[],0⟩=[110,117,108,108]:=by decide
theorem Zz(h0:0<=n)(h1:n<=999):aB ⟨5,[],n⟩=35::be n:=by grind [aB,bE]
variable{s:a8}
theorem Zy(h:Lt.Name s=true):aB ⟨1,s,0⟩=s:=by simp[aB,bE,h]
theorem ad8(s:a8):rZ s ⟨1,s,0⟩=Lt.Name s:=by grind [rZ,Bp,rO,Zy,bE]
theorem nO(h:bE a=true)(ok:a.ok):Lt.dE (aB a)=(a,true):=by
 obtain⟨k,s,n⟩:=a;have ok:Lt.inR n:=ok
 rcases gz h with⟨hk,hN,hn⟩|⟨hk,hs⟩|⟨hk,hs,hp⟩|⟨hk,hs,hn⟩|⟨hk,hs,h0,h1⟩
 .grind [Zy,Lt.dE,ad8]
 .grind [Rd,Lt.dE,ad8,FL,qw,ly]
 .simp only at hk hs hp;subst hk;subst hs
  rw[Re hp];have e:ik n=48::102::(ik n).drop 2:=rfl
  have hN:Lt.Name (ik n)=false:=by
   cases hN:Lt.Name (ik n)with
   |false=>rfl
   |true=>rw[e]at hN;have:=s5 hN;revert this;decide
  have h2:∀m,rZ (ik n) ⟨2,[],m⟩=false:=by
   intro m;cases b:rZ (ik n) ⟨2,[],m⟩with
   |false=>rfl
   |true=>
    have:=((ly _ _).1 b).2
    rw[Rd]at this;have hb:=mi m 102 (by grind)
    grind
  unfold Lt.dE;rw[ad8,hN,h2,if_neg (by decide),if_neg (by decide)];have c:(Bw (ik n)).1=n:=by rw[<- M1,Zb ok,A7];exact hp
  grind [ly,Re]
 .simp only at hk hs hn;subst hk;subst hs;subst hn
  decide +kernel
 simp only at hk hs h0 h1;subst hk;subst hs
 rw[Zz h0 h1];have hN:Lt.Name (35::be n)=false:=by
  cases hN:Lt.Name (35::be n)with
  |false=>rfl
  |true=>have:=s5 hN;revert this;decide
 have h2:∀m,rZ (35::be n) ⟨2,[],m⟩=false:=by
  intro m;cases b:rZ (35::be n) ⟨2,[],m⟩with
  |false=>rfl
  |true=>
   have:=((ly _ _).1 b).2
   rw[Rd]at this;have hb:=mi m 35 (by grind)
   grind
 have h3:∀m,rZ (35::be n) ⟨3,[],m⟩=false:=by
  intro m;cases b:rZ (35::be n) ⟨3,[],m⟩with
  |false=>rfl
  |true=>
   obtain⟨hr,this⟩:=(ly _ _).1 b;rcases gz hr with h|h|h|h|h
   all_goals grind [Re,ik]
 grind [ly,afQ,Lt.dE,ad8,qw,Zz]
theorem wQ(h:(Lt.dE s).2=true):bE (Lt.dE s).1=true/\aB (Lt.dE s).1=s:=by grind [Lt.dE,ly]
variable{objs:Bool}
theorem qV(h:bb objs a=true)(ok:a.ok):iE objs (aB a)=true:=by grind [bb,iE,nO]
theorem sI(h:iE objs s=true):bb objs (Lt.dE s).1=true:=by grind [iE,bb,wQ]
theorem D6{l:List Lt.Arg}(h:bH l objs=true)(ok:vU l):cm (Lt.puts l) objs=(l,true):=by
 unfold bH at h;rw[ak0]at h;unfold cm Lt.puts;have h1:(l.map aB).all (iE objs)=true:=by rw[ak0];intro w hw;obtain⟨a,ha,rfl⟩:=ak8.1 hw;exact qV (h a ha) (ok a ha)
 have h2:(l.map aB).map (λw=>(Lt.dE w).1)=l:=by
  rw[al3];have:∀a∈l,((λw=>(Lt.dE w).1) ∘ aB) a=id a:=λa ha=>by
   show(Lt.dE (aB a)).1=a
   have:=h a ha
   unfold bb at this;simp only[akP]at this;rw[nO this.1 (ok a ha)]
  simp_all[ak4]
 grind
variable{l:List a8}
theorem Bv(h:(cm l objs).2=true):bH (cm l objs).1 objs=true/\(cm l objs).1.length=l.length/\Lt.puts (cm l objs).1=l:=by
 unfold cm at h|-;split at h
 .rename_i hc;rw[if_pos hc];rw[ak0]at hc;refine⟨?_,by simp,?_⟩
  .grind [bH,sI]
  unfold Lt.puts;rw[al3];have:∀w∈l,(aB ∘ (λw=>(Lt.dE w).1)) w=id w:=λw hw=>by grind [iE,wQ]
  simp_all[ak4]
 grind
theorem s9:∀{l:List Lt.Bind},(∀b∈l,Lt.Name b.Name=true/\bb objs b.A=true/\b.A.ok)->cq objs (l.flatMap λb=>[b.Name,aB b.A])=some l
 |[],_=>rfl
 |b::r,h=>by
  obtain⟨h1,h2,h3⟩:=h b (by simp);have ih:=s9 (l:=r) (λx hx=>h x (by grind))
  have ha:bE b.A=true:=by grind [bb]
  rw[alW];show cq objs (b.Name::aB b.A::(r.flatMap λb=>[b.Name,aB b.A]))=_
  simp_all[cq,aX,qV,nO]
theorem xB:∀{l:List a8}{x:List Lt.Bind},cq objs l=some x->(∀b∈x,Lt.Name b.Name=true/\bb objs b.A=true)/\(x.flatMap λb=>[b.Name,aB b.A])=l
 |[],x,h=>by grind [cq]
 |[_],x,h=>by grind [cq]
 |a::b::r,x,h=>by
  rw[cq]at h;split at h
  .rename_i hc;rw[akP,aX]at hc;cases hr:cq objs r with
   |none=>grind
   |some y=>
    obtain⟨k1,k2⟩:=xB hr
    grind [sI,iE,wQ]
  grind
theorem KW(w:a8):∀(l:List a8)(n m:Int),OP w l n=(m,true)->∃i:Nat,i<l.length/\m=n+(i:Int)/\l.getD i []=w
 |[],n,m,h=>by grind [OP]
 |x::r,n,m,h=>by
  rw[OP]at h;split at h
  .grind
  obtain⟨i,h1,h2,h3⟩:=KW w r _ _ h;exact⟨i+1,by grind,by omega,by grind⟩
theorem Zc{w:a8}(h:(Lt.sOp w).2=true):(1<=(Lt.sOp w).1/\(Lt.sOp w).1<=34)/\(Lt.Of (Lt.sOp w).1).1.Word=w/\(Lt.Of (Lt.sOp w).1).2=true:=by
 have e:Lt.sOp w=((Lt.sOp w).1,true):=by grind
 obtain⟨i,h1,h2,h3⟩:=KW w (gw.drop 1) 1 (Lt.sOp w).1 e;have hi:i < 34:=h1
 have a:=tg (Lt.sOp w).1
 grind (splits:=20) [Lt.rOf]
theorem adQ(h:(Lt.Of op).2=true):Lt.sOp (Lt.Of op).1.Word=(op,true):=by
 by_cases hc:1<=op/\op<=34
 .obtain⟨k,rfl⟩:=alY (show 0<=op by omega);have hk:k < 35:=by omega
  have:∀k:Fin 35,1<=k.1->Lt.sOp (Lt.Of (k.1:Int)).1.Word=((k.1:Int),true):=by decide +kernel
  exact this ⟨k,hk⟩ (by grind)
 exfalso
 rw[<- (tg op).1]at h
 grind [Lt.rOf]
theorem di(a b:List Lt.Line):fg (a++b)=fg a++fg b:=by simp[fg]
theorem la(w:List a8):fg [Lt.ln w]=Lt.lnT w:=by simp[fg,Lt.ln,Lt.lnT]
theorem nk(f:α->List a8)(l:List α):fg (l.map λx=>Lt.ln (f x))=l.flatMap λx=>Lt.lnT (f x):=by
 induction l with
 |nil=>rfl
 |cons a r ih=>rw[List.map_cons,alW,<- ih,<- la,<- di];rfl
theorem oK(f:α->List Lt.Line)(l:List α):fg (l.flatMap f)=l.flatMap λx=>fg (f x):=by
 induction l with
 |nil=>rfl
 |cons a r ih=>grind [di]
theorem oy{f g:α->List β}{l:List α}(h:∀x∈l,f x=g x):l.flatMap f=l.flatMap g:=by induction l<;>grind
theorem Uv(h:Lt.instr i=true):i7 i=Lt.words i:=by
 have b:=im h
 obtain⟨_,c,d,a,_,_⟩:=tg i.Op;unfold i7 Lt.words sk Lt.puts;have e:bh=aB:=funext rO
 rw[c,d,a,e];by_cases hc:i.Op=26\/i.Op=27
 .have:=b.least hc
  cases ha:i.Args<;>grind
 grind
variable{t:Lt.Term}
theorem qY(h:fh t=true) :
  (∃x,t=⟨1,⟨0,[],0⟩,[x],0⟩/\Lt.Name x=true)\/(∃a x y,t=⟨2,a,[x,y],0⟩/\bb false a=true/\Lt.Name x=true/\Lt.Name y=true) \/
  (∃a,t=⟨3,a,[],0⟩/\bb false a=true)\/(∃n,t=⟨4,⟨0,[],0⟩,[],n⟩):=by
 obtain⟨k,a,b,n⟩:=t;unfold fh DP at h;simp only[akP,ak0]at h;obtain⟨c,h⟩:=h;split at h
 .rename_i hk;simp only[akP,decide_eq_true_eq]at h;obtain⟨⟨rfl,hl⟩,rfl⟩:=h;subst hk
  match b,hl with
  |[x],_=>grind
 split at h
 .rename_i hk;simp only[akP,decide_eq_true_eq]at h;obtain⟨⟨ha,hl⟩,rfl⟩:=h;subst hk
  match b,hl with
  |[x,y],_=>grind
 split at h
 all_goals simp_all
theorem YY(h:fh t=true):vb t=Lt.lnT (j8 t):=by
 unfold vb Bk j8 iY;rcases qY h with⟨x,rfl,_⟩|⟨a,x,y,rfl,_⟩|⟨a,rfl,_⟩|⟨n,rfl⟩
 all_goals simp_all[rO]
theorem wK(first:List UInt8)(l:List Lt.Var):iZ first l=fg (sw first l):=(nk (λv:Lt.Var=>[first,v.Name,v.Type_]) l).symm
theorem Uq(h:Lt.instr i=true):jP i=fg (r9 i):=by
 have a:bh=aB:=funext rO
 unfold jP r9;rw[di,di,la,nk,nk,Uv h];unfold fQ kW i6 sx Lt.puts;rw[a];rfl
theorem OG(h:Lt.block b=true):iw b=fg (mA b):=by
 have c:bh=aB:=funext rO
 obtain⟨_,a,_,hc⟩:=zy h;unfold iw mA;rw[di,di,di,la,nk,oK,la,YY a,oy (λx hx=>Uq (hc x hx))]
 grind [nJ,FR]
theorem Ur(h:aJ f=true):lm f=fg (p6 f):=by
 have a:=yt h
 grind [lm,p6,di,la,oK,wK,oy,OG,FuncOk.bl]
theorem Us(h:bt p=true):gJ p=fg (DX p):=by
 have a:=FV h
 unfold gJ DX;rw[di,di,di,di,oK,oK,<- wK,oy (λx hx=>Ur (a.fn x hx))];have b:p.Classes.flatMap ix=p.Classes.flatMap λx=>fg (kR x):=oy (λc _=>by grind [ix,kR,di,la,wK])
 have d:p.Externs.flatMap jA=fg (p.Externs.map uu):=(nk (λx:Lt.Extern=>[[101,120,116,101,114,110],x.Name,Lt.number x.N]) p.Externs).symm
 grind [fg,la]
def sg(c:UInt8):Bool:=decide (33<=c.toNat)&&decide (c.toNat<=126)&&!decide (c=59)
def fw(w:a8):Prop:=w≠[]/\∀c∈w,sg c=true
def xw(x:Lt.Line):Prop:=x.Words≠[]/\∀w∈x.Words,fw w
theorem aO{w:a8}(h:(!decide (w=[])&&w.all sg)=true):fw w:=by simp only[akP,alA,decide_eq_false_iff_not,ak0]at h;exact h
theorem Cm{c:UInt8}(h:iq c=true):sg c=true:=by
 unfold iq Lt.letter uH kE at h;unfold sg;simp only[alP,akP,decide_eq_true_eq,alA,decide_eq_false_iff_not]at h|-;refine⟨⟨by omega,by omega⟩,?_⟩;rintro rfl
 grind
theorem bN(h:Lt.Name s=true):fw s:=by unfold Lt.Name at h;simp only[akP,alA,decide_eq_false_iff_not,ak0]at h;exact⟨h.1.1.1.1,λc hc=>Cm (h.2 c hc)⟩
theorem DH(h:Lt.kind s=true):fw s:=by
 unfold Lt.kind at h;simp only[alP,decide_eq_true_eq]at h;rcases h with(rfl|rfl)|h
 .exact aO (by decide)
 .exact aO (by decide)
 exact bN h
theorem qg(n:Int):fw (be n):=by
 refine⟨Ue n,λc hc=>?_⟩;rcases mi n c hc with rfl|h
 .decide
 unfold sg;simp only[akP,decide_eq_true_eq,alA,decide_eq_false_iff_not];refine⟨⟨by omega,by omega⟩,?_⟩;rintro rfl
 grind
theorem Tf(k:Nat):sg (wq k)=true:=by
 unfold wq;have h:k % 16 < 16:=anG _ (by decide)
 generalize k % 16=j at h;have:∀j:Fin 16,sg (Tg.getD j.1 0)=true:=by decide
 exact this ⟨j,h⟩
theorem Xn(n:Int):fw (ik n):=by
 refine⟨by simp[ik],λc hc=>?_⟩;rw[<- M1]at hc;unfold pm at hc;rw[nU,E4 16 _ _ (BitVec.isLt _),List.append_nil]at hc;rcases ak3.1 hc with hc|hc
 .simp only[akX,List.not_mem_nil,or_false]at hc;rcases hc with rfl|rfl<;>decide
 grind [Tf]
theorem UY(h:bE a=true):fw (aB a):=by
 obtain⟨k,s,n⟩:=a;rcases gz h with⟨hk,hN,hn⟩|⟨hk,hs⟩|⟨hk,hs,hp⟩|⟨hk,hs,hn⟩|⟨hk,hs,h0,h1⟩
 .grind [Zy,bN]
 .grind [Rd,qg]
 .grind [Re,Xn]
 .simp only at hk hs hn;subst hk;subst hs;subst hn
  rw[afQ];exact aO (by decide)
 simp only at hk hs h0 h1;subst hk;subst hs
 rw[Zz h0 h1];refine⟨by simp,λc hc=>?_⟩;rcases akX.1 hc with rfl|hc
 .decide
 exact(qg n).2 c hc
theorem pI(h:bb objs a=true):fw (aB a):=by grind [bb,UY]
theorem DY{l:List Lt.Arg}(h:bH l objs=true):∀w∈Lt.puts l,fw w:=by
 intro w hw;obtain⟨a,ha,rfl⟩:=ak8.1 hw
 grind [bH,pI]
theorem ZV(h:(Lt.Of op).2=true):fw (Lt.Of op).1.Word:=by
 by_cases hc:1<=op/\op<=34
 .obtain⟨k,rfl⟩:=alY (show 0<=op by omega);have hk:k < 35:=by omega
  have:∀k:Fin 35,1<=k.1->(!decide ((Lt.Of (k.1:Int)).1.Word=[])&&(Lt.Of (k.1:Int)).1.Word.all sg)=true:=by decide +kernel
  exact aO (this ⟨k,hk⟩ (by grind))
 exfalso
 rw[<- (tg op).1]at h
 grind [Lt.rOf]
theorem ax{w:a8}(h:fw w)(hl:∀v∈l,fw v):∀v∈w::l,fw v:=by grind
theorem dl:∀v∈([]:List a8),fw v:=by simp
theorem p8{a b:List a8}(h:∀v∈a,fw v)(hl:∀v∈b,fw v):∀v∈a++b,fw v:=by grind
theorem DB{n:α->a8}{a:α->a8}{l:List α}(h:∀x∈l,fw (n x)/\fw (a x)):∀v∈l.flatMap (λx=>[n x,a x]),fw v:=by grind
theorem O8(h:Lt.instr i=true):xw (Lt.ln (Lt.words i)):=by
 have a:=im h
 have hp:=DY a.aok
 refine⟨by simp[Lt.ln,Lt.words],?_⟩;show ∀w∈Lt.words i,fw w
 unfold Lt.words;refine p8 (p8 ?_ (ax (ZV a.of) dl)) ?_
 .split
  .rename_i hd;exact ax (bN (a.dstN hd)) (ax (aO (by decide)) dl)
  grind
 grind [InstrOk.least,Lt.Of,Lt.puts,bN,InstrOk.nmN]
theorem o8{first:List UInt8}(hf:fw first){l:List Lt.Var}(h:Lt.typed l n=true):∀x∈sw first l,xw x:=by
 intro x hx;obtain⟨v,hv,rfl⟩:=ak8.1 hx;unfold Lt.typed at h;simp only[akP,ak0]at h;have:=h.2 v hv
 exact⟨by simp[Lt.ln],ax hf (ax (bN this.1) (ax (DH this.2) dl))⟩
theorem MT(h:Lt.instr i=true):∀x∈r9 i,xw x:=by
 have a:=im h
 unfold r9;intro x hx;rcases ak3.1 hx with hx|hx
 .rcases ak3.1 hx with hx|hx
  .grind [O8]
  obtain⟨f,hf,rfl⟩:=ak8.1 hx;obtain⟨h1,h2,_,_,_,h3⟩:=Ad (a.fr f hf);refine⟨by simp[Lt.ln,kW],p8 (ax (aO (by decide)) (ax (bN h1) (ax (bN h2) (ax (qg _) dl)))) (DB (λb hb=>?_))⟩
  grind [iN,bN,pI]
 obtain⟨o,hm,rfl⟩:=ak8.1 hx;obtain⟨h1,_,h3⟩:=Rb (a.ob o hm);exact⟨by simp[Lt.ln,sx],p8 (ax (aO (by decide)) (ax (bN h1) dl)) (DY h3)⟩
theorem IM(h:Lt.block b=true):∀x∈mA b,xw x:=by
 obtain⟨hn,c,hp,hc⟩:=zy h;unfold mA;intro x hx;rcases ak3.1 hx with hx|hx
 .rcases ak3.1 hx with hx|hx
  .rcases ak3.1 hx with hx|hx
   .rw[ak6.1 hx];exact⟨by simp[Lt.ln],ax (aO (by decide)) (ax (bN hn) dl)⟩
   obtain⟨y,hy,rfl⟩:=ak8.1 hx;obtain⟨h1,_,_,h3⟩:=Oq (hp y hy);refine⟨by simp[Lt.ln,FR],p8 (ax (aO (by decide)) (ax (bN h1) dl)) (DB (λi hi=>?_))⟩
   grind [oG,bN,pI]
  grind [MT]
 rw[ak6.1 hx];generalize b.End=t at c;rcases qY c with⟨x,rfl,h1⟩|⟨a,x,y,rfl,h1,h2,h3⟩|⟨a,rfl,h1⟩|⟨n,rfl⟩
 .exact⟨by simp[Lt.ln,j8],ax (aO (by decide)) (ax (bN h1) dl)⟩
 .exact⟨by simp[Lt.ln,j8],ax (aO (by decide)) (ax (pI h1) (ax (bN h2) (ax (bN h3) dl)))⟩
 .exact⟨by simp[Lt.ln,j8],ax (aO (by decide)) (ax (pI h1) dl)⟩
 exact⟨by simp[Lt.ln,j8],ax (aO (by decide)) (ax (qg _) dl)⟩
theorem M3(h:aJ f=true):∀x∈p6 f,xw x:=by
 have a:=yt h
 unfold p6;intro x hx;rcases ak3.1 hx with hx|hx
 .rcases ak3.1 hx with hx|hx
  .rcases ak3.1 hx with hx|hx
   .rw[ak6.1 hx];exact⟨by simp[Lt.ln],ax (aO (by decide)) (ax (bN a.name) (ax (DH a.res) dl))⟩
   exact o8 (aO (by decide)) a.params x hx
  exact o8 (aO (by decide)) a.vars x hx
 obtain⟨b,hb,hx⟩:=amV.1 hx;exact IM (a.bl b hb) x hx
theorem OB(h:bt p=true):∀x∈DX p,xw x:=by
 have a:=FV h
 unfold DX;intro x hx;rcases ak3.1 hx with hx|hx
 .rcases ak3.1 hx with hx|hx
  .rcases ak3.1 hx with hx|hx
   .rcases ak3.1 hx with hx|hx
    .split at hx
     .rw[ak6.1 hx];exact⟨by simp[Lt.ln],ax (aO (by decide)) dl⟩
     grind
    obtain⟨c,hc,hx⟩:=amV.1 hx;have hr:=a.cl c hc
    unfold cV at hr;simp only[akP]at hr;unfold kR at hx;rcases ak3.1 hx with hx|hx
    .rw[ak6.1 hx];exact⟨by simp[Lt.ln],ax (aO (by decide)) (ax (bN hr.1) dl)⟩
    exact o8 (aO (by decide)) hr.2 x hx
   exact o8 (aO (by decide)) a.glob x hx
  obtain⟨e,b,rfl⟩:=ak8.1 hx;have hr:=a.ex e b
  unfold cP at hr;simp only[akP]at hr;exact⟨by simp[Lt.ln,uu],ax (aO (by decide)) (ax (bN hr.1.1) (ax (qg _) dl))⟩
 obtain⟨f,hf,hx⟩:=amV.1 hx;exact M3 (a.fn f hf) x hx
theorem tx:∀(w r:a8)(k:Lt.Cut),(∀c∈w,sg c=true)->k.remark=false->cJ (w++r) k=cJ r { k with w:=k.w++w }
 |[],r,k,_,_=>by simp
 |c::w,r,k,h,hr=>by
  have hc:=h c (by simp)
  unfold sg at hc;simp only[akP,decide_eq_true_eq,alA,decide_eq_false_iff_not]at hc;have a:¬ c=10:=by rintro rfl;grind
  have d:¬ c=32:=by rintro rfl;grind
  have e:¬ c=9:=by rintro rfl;grind
  have b:k.byte c={ k with w:=k.w++[c] }:=by grind [Lt.Cut.byte]
  rw[amU,cJ,if_neg a,b,tx w r { k with w:=k.w++[c] } (λx hx=>h x (by grind)) hr];simp
theorem BB:∀(ws:List a8)(r:a8)(out:List Lt.RLine)(l:List a8)(w:a8)(n:Int),(∀v∈ws,fw v)->w≠[] ->
  cJ (Lt.jw true ws++10::r) ⟨out,l,w,n,false,false⟩=cJ r ⟨out++[⟨n,l++w::ws⟩],[],[],n+1,false,false⟩
 |[],r,out,l,w,n,_,hw=>by simp_all[Lt.jw,cJ,Lt.Cut.line,Lt.Cut.word]
 |v::vs,r,out,l,w,n,h,hw=>by
  have hv:=h v (by simp)
  rw[Lt.jw,if_pos rfl];show cJ (32::(v++Lt.jw true vs++10::r)) _=_
  rw[cJ,if_neg (by decide)];have a:(⟨out,l,w,n,false,false⟩:Lt.Cut).byte 32=⟨out,l++[w],[],n,false,false⟩:=by grind [Lt.Cut.byte,Lt.Cut.word]
  rw[a,al2,tx v _ _ hv.2 rfl];simp only[alV];rw[BB vs r out (l++[w]) v n (λx hx=>h x (by grind)) hv.1];simp
def numb:Int->List Lt.Line->List Lt.RLine
 |_,[]=>[]
 |n,x::t=>⟨n,x.Words⟩::numb (n+1) t
theorem xL:∀(L:List Lt.Line)(out:List Lt.RLine)(n:Int),(∀x∈L,xw x)->cJ (fg L) ⟨out,[],[],n,false,false⟩=(out++numb n L,0,0)
 |[],out,n,_=>by simp[fg,cJ,Lt.Cut.line,Lt.Cut.word,numb]
 |x::t,out,n,h=>by
  obtain⟨a,hx⟩:=h x (by simp);cases hw:x.Words with
  |nil=>grind
  |cons w ws=>
   rw[hw]at hx;have hv:=hx w (by simp)
   have e:fg (x::t)=w++(Lt.jw true ws++10::fg t):=by simp[fg,hw,Lt.jw]
   rw[e,tx w _ _ hv.2 rfl];simp only[alV];rw[BB ws _ out [] w n (λv hv=>hx v (by grind)) hv.1,xL t _ _ (λy hy=>h y (by grind))];simp[numb,hw]
theorem OS{L:List Lt.Line}(h:∀x∈L,xw x)(hl:(fg L).length<=4194304):eK (fg L)=(numb 1 L,0,0):=by grind [eK,xL]
theorem TU(l:List a8)(objs:Bool)(hp:jz l objs)(KK:List Lt.Arg×Bool->Prop)(h:KK (cm l objs)):PN l objs KK:=by
 unfold PN;(try simp only[ae,am,aq,jval,bor,band,bnand,bimp,and_self]);have hr:l.length<=1099511627776:=hp
 refine uM (λhl=>?_);refine af _ l.length (λi x=>x=((l.take i).map (λw=>(Lt.dE w).1),(i:Int))/\(l.take i).all (iE objs)=true) (λR i x a hx b=>?_) (λR x hx=>?_) _ ⟨rfl,rfl⟩
 .obtain⟨rfl,c⟩:=hx;simp only[aF a,if_true,Int.toNat_natCast];refine⟨⟨akW i,a⟩,?_⟩;refine ifk (λhc=>?_) (λhc=>?_)
  .grind [iE,au,cm]
  grind [aA,ac,iE]
 grind [cm]
theorem AZ(l:List a8){i:Nat}(h:i+1<l.length):(l.drop (i+1)).take (i+2 - (i+1))=[l.getD (i+1) default]:=by
 have e:i+2 - (i+1)=1:=by omega
 grind [alF]
theorem wR(w:a8)(objs:Bool):cm [w] objs=if iE objs w=true then([(Lt.dE w).1],true)else([],false):=by grind [cm]
theorem ba(w:a8):fG [w]=cj w:=by simp[fG]
theorem gM(v w:a8):fG [v,w]=(cj v&&cj w):=by simp[fG]
theorem DU(objs:Bool):(l:List a8)->l.length % 2=1->cq objs l=none
 |[],h=>by grind
 |[_],_=>rfl
 |a::b::r,h=>by
  have:=DU objs r (by grind)
  grind [cq]
theorem NJ(l:List a8)(f:Int)(objs:Bool)(hp:qq l f objs)(KK:List Lt.Bind×Bool->Prop)(h:KK (aP l f objs)):G4 l f objs KK:=by
 obtain⟨hr,hf0,g⟩:=hp;have hr:l.length<=1099511627776:=hr
 obtain⟨n,rfl⟩:=alY hf0;unfold G4;dsimp only;rw[show((n:Nat):Int)=(Int.ofNat n)from rfl]at *;have d:∀k:Nat,Int.tmod (k:Int) 2=((k % 2:Nat):Int):=λk=>by rfl
 intro o c hl;have j:=c (decide ((l.length:Int)<Int.ofNat n)||!decide (Int.tmod (i64.wrap ((l.length:Int)-Int.ofNat n)) 2=0)) ?_
 .grind
 simp only[ae,am,aq,jval,bor,ba];refine ifk (λhc=>?_) (λhc=>?_)
 .grind [aP,jI,DU]
 simp only[alP,decide_eq_true_eq,alA,decide_eq_false_iff_not,not_or,Decidable.not_not]at hc;obtain⟨h1,h2⟩:=hc;have h1:n<=l.length:=by grind
 rw[jI kQ1 kQ1]at h2;rw[show((l.length:Int)-Int.ofNat n)=((l.length-n:Nat):Int)from by grind,d]at h2;have h2:(l.length-n) % 2=0:=by omega
 obtain⟨m,hm⟩:∃m,l.length=n+2*m:=⟨(l.length-n) / 2,by omega⟩
 have hs:aP l (Int.ofNat n) objs=match cq objs (l.drop n)with|some x=>(x,true)|none=>([],false):=by grind [aP]
 refine af _ m (λi x=>∃a:List Lt.Bind,x=(a,((n+2*i:Nat):Int))/\a.length<=i/\cq objs (l.drop n)=(cq objs (l.drop (n+2*i))).map (a++·)) (λR i x hi hx e=>?_) (λR x hx=>?_) _ ⟨[],rfl,by simp,by simp⟩
 .obtain⟨a,rfl,ha,hx⟩:=hx;have h3:n+2*i+1<l.length:=by omega
  have h4:n+2*i<l.length:=by omega
  have w1:i64.wrap (((n+2*i:Nat):Int)+1)=((n+2*i+1:Nat):Int):=ac kQ1
  have w2:i64.wrap (((n+2*i:Nat):Int)+2)=((n+2*i+2:Nat):Int):=by grind [jI]
  have hd:l.drop (n+2*i)=l.getD (n+2*i) default::l.getD (n+2*i+1) default::l.drop (n+2*(i+1)):=by grind [alF]
  simp only[w1,w2,aF h4,if_true,Int.toNat_natCast,AZ l h3];rw[hd,cq]at hx;rw[wR];refine λhl=>⟨by omega,by omega,⟨by omega,by omega⟩,?_,⟨by omega,h4⟩,?_⟩
  .show 1<=Lt.room
   decide
  by_cases b:(cj (l.getD (n+2*i) default)&&iE objs (l.getD (n+2*i+1) default))=true
  .rw[if_pos b]at hx;simp only[akP]at b;rw[if_pos b.2,b.1];simp only[alT,Bool.or_false,akS,if_false];refine⟨⟨by omega,h4⟩,⟨by decide,by simp⟩,⟨⟨by grind,by grind⟩,?_⟩⟩;refine e _ ⟨_,rfl,by grind,?_⟩;rw[hx];cases cq objs (l.drop (n+2*(i+1)))<;>simp
  grind
 grind [cq]
theorem lz(h:db l=true):l.length=3:=by grind [db]
theorem jH{l:List Lt.Var}{k:Nat}(h:Lt.typed l k=true):l.length<=k:=by grind [Lt.typed]
theorem fF(n most:Int):(cD n most=0)=(n<most):=by grind [cD]
theorem jK{n c:Nat}(h:n<=5000)(hc:c<=200):(n+1<=4611686018427387904/\(n+1)*c<=140737488355328)=True:=by
 have:(n+1)*c<=5001*200:=Nat.mul_le_mul kQ1 hc
 grind
theorem mK(h:1<l.length):((0:Int)<=1/\1<l.length)=True:=by simp[h]
theorem tD(h:2<l.length):((0:Int)<=2/\2<l.length)=True:=by simp[h]
theorem fU{l:List α}(h:l≠[])(h8:l.length<=5000):i64.wrap ((l.length:Int) - 1)=((l.length - 1:Nat):Int):=by grind [al4,jI]
theorem kf{l:List α}(h:l≠[]):(l.length - 1<l.length)=True:=by grind [al4]
theorem kg{l:List α}(h:l≠[]):((0:Int)<=((l.length - 1:Nat):Int)/\((l.length - 1:Nat):Int) < (l.length:Int))=True:=by grind [al4]
theorem Wh[Inhabited α]{l:List α}{p:α->Bool}(h:l.all p=true)(hn:l≠[]):p (l.getD (l.length - 1) default)=true:=by grind [al4]
theorem NF(r:Lt.Read)(l:List a8)(hp:iu r l)(KK:((Bool×Int)×Lt.Read)->Prop)(h:KK (bC r l)):G0 r l KK:=by
 obtain⟨hi,hl,hr⟩:=hp;have hr:l.length<=1099511627776:=hr
 have h0:0<l.length:=al4.2 hl
 obtain⟨hw,⟨g,j,m⟩,⟨e,c,f⟩,h1,h2,h3⟩:=hi;have i:=jH (k:=8) e
 have n:=@jK r.P.Classes.length
 unfold G0;dsimp only;unfold bC at h;refine⟨⟨by decide,h0⟩,?_⟩;refine ifk (λhc=>?_) (λhc=>?_)
 .rw[if_pos (by grind)]at h;simp only[ae,am,aq,bL,bd,jval,bor,band,bnand,bimp,and_self,iC,oX,oY,ba,alT,akS,if_false,fF]
  grind [Lt.i9,cD]
 rw[if_neg (by grind)]at h;refine ifk (λhc=>?_) (λhc=>?_)
 .rw[if_pos (by grind)]at h;simp only[ae,am,aq,bL,bd,jval,bor,band,bnand,bimp,and_self,iC,oX,oY,ba,alT,akS,if_false,fF];refine ifk (λhb=>kk h ?_) (λhb=>?_)
  .grind [ls]
  simp only[alP,alA,decide_eq_false_iff_not,not_or,Decidable.not_not,alE]at hb;have a:=h1 hb.1
  have b:=lz hb.2
  have hf:=jH (k:=8) (akP _ _ ▸ Wh c a:_/\_).2
  have d:r.P.Classes.length<=5000:=by omega
  simp only[fU a d,kf a,kg a,Int.toNat_natCast,mK (l:=l) kQ1,tD (l:=l) kQ1,implies_true,true_and,alQ,jK (show(r.P.Classes.getD (r.P.Classes.length - 1) default).Fields.length<=5000 by omega) (show 32<=200 by omega)]
  grind [ls,cD,Lt.last]
 rw[if_neg (by grind)]at h;refine ifk (λhc=>?_) (λhc=>?_)
 .rw[if_pos (by grind)]at h;simp only[ae,am,aq,bL,bd,jval,bor,band,bnand,bimp,and_self,iC,oX,oY,ba,alT,akS,if_false,fF];refine ifk (λhb=>kk h ?_) (λhb=>?_)
  .grind [iy]
  have b:l.length=3:=lz (by grind)
  simp only[mK (l:=l) kQ1,tD (l:=l) kQ1,implies_true,true_and,alQ,jK (show r.P.Globals.length<=5000 by omega) (show 32<=200 by omega)];refine λ_=>kk h ?_
  unfold iy cD
  grind
 rw[if_neg (by grind)]at h;refine ifk (λhc=>?_) (λhc=>?_)
 .rw[if_pos (by grind)]at h;simp only[ae,am,aq,bL,bd,jval,bor,band,bnand,bimp,and_self,iC,oX,oY,ba,alT,akS,if_false,fF];refine⟨by grind,by grind,by grind,ifk (λhb=>kk h ?_) (λhb=>?_)⟩
  .grind [gu]
  have b:l.length=3:=by grind
  refine ifk (λhb=>kk h ?_) (λhb=>?_)
  .grind [gu]
  simp only[mK (l:=l) kQ1,tD (l:=l) kQ1,implies_true,true_and,alQ,jK (show r.P.Externs.length<=5000 by omega) (show 24<=200 by omega)];refine λ_=>kk h ?_
  unfold gu cD
  grind
 rw[if_neg (by grind)]at h;refine ifk (λhc=>?_) (λhc=>?_)
 .rw[if_pos (by grind)]at h;simp only[ae,am,aq,bL,bd,jval,bor,band,bnand,bimp,and_self,iC,oX,oY,ba,alT,akS,if_false,fF];refine ifk (λhb=>kk h ?_) (λhb=>?_)
  .grind [Lt.jY]
  have b:l.length=3:=lz (by grind)
  simp only[mK (l:=l) kQ1,tD (l:=l) kQ1,implies_true,true_and,alQ,jK (show r.P.Funcs.length<=5000 by omega) (show 104<=200 by omega)];refine λ_=>kk h ?_
  unfold Lt.jY cD
  grind
 grind
theorem wk[Inhabited α](l:List α)(x:α):(l++[x]).getD ((l++[x]).length - 1) default=x:=by grind
variable{r:Lt.Read}
theorem j0(h:Lt.Inv r)(hw:3<=r.Where):r.P.Funcs≠[]/\pZ r.curF r.Where r.Long/\r.curF.Params.length<=6/\r.curF.Vars.length<=1024/\r.curF.Blocks.length<=256:=by
 obtain⟨_,_,_,_,_,h3⟩:=h;obtain⟨fs,f,hf,_,hp⟩:=h3 hw;have e:r.curF=f:=by grind [Lt.Read.curF]
 rw[e];exact⟨by grind,hp,jH (k:=6) hp.1.2.2.1,jH (k:=1024) hp.1.2.2.2,hp.2.1.1⟩
theorem vN(h:Lt.Inv r)(hw:5<=r.Where):r.curF.Blocks≠[]/\r.curB.Phis.length<=1024/\r.curB.Code.length<=1024/\r.curB.Code.all Lt.instr=true:=by
 obtain⟨_,hp,_⟩:=j0 h kQ1;obtain⟨_,⟨_,h0,hn⟩,_,hb⟩:=hp
 grind [Lt.Read.curB]
theorem C5(h:Lt.Inv r)(hw:6<=r.Where)(a:r.Where<=8):r.curB.Code≠[]/\r.curI.Frames.length<=16/\r.curI.Objs.length<=99:=by
 obtain⟨_,hp,_⟩:=j0 h kQ1;obtain⟨_,⟨_,h0,hn⟩,_,hb⟩:=hp
 grind [Lt.Read.curB,wk,Lt.Read.curI,Lt.instr]
theorem xJ(objs:Bool):∀(l:List a8)(x:List Lt.Bind),cq objs l=some x->l.length=2*x.length
 |[],x,h=>by grind [cq]
 |[_],x,h=>by grind [cq]
 |a::b::r,x,h=>by
  rw[cq]at h;split at h
  .cases hr:cq objs r with
   |none=>grind
   |some y=>
    have:=xJ objs r y hr
    grind
  grind
theorem lu{f:Int}(h:(aP l f objs).2=true)(h0:0<=f):(l.length:Int)=f+2*((aP l f objs).1.length:Int):=by grind [aP,xJ,List.length_drop]
theorem NL(r:Lt.Read)(l:List a8)(hp:iu r l)(KK:((Bool×Int)×Lt.Read)->Prop)(h:KK (bW r l)):G6 r l KK:=by
 obtain⟨hi,hl,hr⟩:=hp;have hr:l.length<=1099511627776:=hr
 have h0:0<l.length:=al4.2 hl
 have a:=hi
 obtain⟨hw,⟨G,w,C⟩,⟨N,J,F⟩,h1,h2,h3⟩:=hi;unfold G6;dsimp only;unfold bW at h;refine λ_=>ifk (λhf=>?_) (λhf=>?_)
 .have hf:r.P.Funcs≠[]:=λe=>by grind
  have t:r.P.Funcs.length<=5000:=by omega
  have g:r.P.Funcs.getD (r.P.Funcs.length - 1) default=r.curF:=rfl
  refine λ_=>?_
  simp only[fU hf t,kf hf,kg hf,Int.toNat_natCast,true_and];refine⟨⟨by decide,h0⟩,?_⟩;refine ifk (λhc=>?_) (λhc=>?_)
  .rw[if_pos (by grind)]at h;simp only[ae,am,aq,bL,bd,jval,bor,band,bnand,bimp,and_self,iC,oX,oY,ba,alT,akS,if_false,fF];refine ifk (λhb=>kk h ?_) (λhb=>?_)
   .grind [jS]
   have j:r.Where=3:=by grind
   have d:l.length=3:=lz (by grind)
   obtain⟨_,_,M,_⟩:=j0 a kQ1;simp only[g,mK (l:=l) kQ1,tD (l:=l) kQ1,implies_true,true_and,alQ,jK (show r.curF.Params.length<=5000 by omega) (show 32<=200 by omega)];refine λ_=>kk h ?_
   unfold jS cD Lt.Read.func Lt.last;simp only[g]
   grind
  rw[if_neg (by grind)]at h;refine ifk (λhc=>?_) (λhc=>?_)
  .rw[if_pos (by grind)]at h;simp only[ae,am,aq,bL,bd,jval,bor,band,bnand,bimp,and_self,iC,oX,oY,ba,alT,akS,if_false,fF];refine ifk (λhb=>kk h ?_) (λhb=>?_)
   .grind [Lt.mM]
   have j:3<=r.Where:=by grind
   have d:l.length=3:=lz (by grind)
   obtain⟨_,_,_,L,_⟩:=j0 a kQ1;simp only[g,mK (l:=l) kQ1,tD (l:=l) kQ1,implies_true,true_and,alQ,jK (show r.curF.Vars.length<=5000 by omega) (show 32<=200 by omega)];refine λ_=>kk h ?_
   unfold Lt.mM cD Lt.Read.func Lt.last;simp only[g]
   grind
  rw[if_neg (by grind)]at h;refine ifk (λhc=>?_) (λhc=>?_)
  .rw[if_pos (by grind)]at h;simp only[ae,am,aq,bL,bd,jval,bor,band,bnand,bimp,and_self,iC,oX,oY,ba,alT,akS,if_false,fF];refine⟨by grind,by grind,by grind,ifk (λhb=>kk h ?_) (λhb=>?_)⟩
   .grind [Lt.fE]
   have j:3<=r.Where:=by grind
   have d:l.length=2:=by grind
   obtain⟨_,_,_,_,p⟩:=j0 a kQ1;simp only[g,mK (l:=l) kQ1,implies_true,true_and,alQ,jK (show r.curF.Blocks.length<=5000 by omega) (show 136<=200 by omega)];refine λ_=>kk h ?_
   unfold Lt.fE cD Lt.Read.func Lt.last;simp only[g]
   grind
  rw[if_neg (by grind)]at h;refine ifk (λhc=>?_) (λhc=>?_)
  .rw[if_pos (by grind)]at h;simp only[ae,am,aq,bL,bd,jval,bor,band,bnand,bimp,and_self,iC,oX,oY,ba,alT,akS,if_false,fF];refine⟨⟨by omega,by decide,by decide⟩,λq k s=>?_,?_⟩
   .grind [aP]
   refine ifk (λhb=>kk h ?_) (λhb=>?_)
   .grind [Lt.pu]
   have q:r.Where=5:=by grind
   have k:(aP l 2 false).2=true:=by grind
   have s:¬ (aP l 2 false).1.length=0:=by grind
   have d:=lu (l:=l) (f:=2) (objs:=false) k (by decide)
   have b:1<l.length:=by omega
   obtain⟨_,_,_,_,p⟩:=j0 a kQ1;obtain⟨c,I,_⟩:=vN a kQ1;refine λ_=>⟨λ_=>⟨by decide,b⟩,ifk (λo=>kk h ?_) (λo=>?_)⟩
   .unfold Lt.pu;grind
   have u:(aP l 2 false).1.length<=256:=by grind
   have m:r.Long < 1024:=by grind
   have E:0<=r.Long:=(j0 a kQ1).2.1.2.1.2.1
   have D:i64.wrap (r.Long+1)=r.Long+1:=jI kQ1 kQ1
   have z:r.curF.Blocks.getD (r.curF.Blocks.length - 1) default=r.curB:=rfl
   have n:r.curF.Blocks.length<=5000:=by omega
   simp only[g,mK (l:=l) b,true_and,fU c n,kf c,kg c,Int.toNat_natCast,z,alQ,jK (show r.curB.Phis.length<=5000 by omega) (show 40<=200 by omega),D];refine af _ (aP l 2 false).1.length (λi x=>x=((i:Int),⟨l.getD 1 default,((aP l 2 false).1.take i).map λx=>⟨x.Name,x.A⟩⟩)) (λR i x b hx Q=>?_) (λR x hx=>?_) _ rfl
   .grind [Int.toNat_natCast,akW,ac,aA]
   subst hx;simp only[ld,akS,if_false];refine λ_=>⟨λh=>h.elim,λh=>h.elim,λh=>h.elim,λ_=>kk h ?_⟩
   rw[alI];have hn:cj (l.getD 1 default)=true:=by grind
   have O:(decide (r.Where=5)&&(aP l 2 false).2&&!decide ((aP l 2 false).1.length=0)&&cj (l.getD 1 default))=true:=by grind
   simp_all[Lt.pu,Lt.Read.block,Lt.Read.func,Lt.last,if_neg]
  grind
 have hf:r.P.Funcs=[]:=by simp_all
 have H:r.Where<=2:=by grind
 have v:decide (r.Where=3)=false:=by grind
 have y:decide (r.Where=4)=false:=by grind
 have K:decide (r.Where=5)=false:=by grind
 have B:decide (r.Where=9)=false:=by grind
 refine⟨⟨by decide,h0⟩,?_⟩;simp only[v,y,K,B,am7,if_true,ae]
 grind [jS,Lt.mM,Lt.fE,Lt.pu,qq]
theorem rJ(r:Lt.Read)(h:jC l=some t):wS r l=(0,⟨⟨r.P.SSA,r.P.Classes,r.P.Globals,r.P.Externs,r.P.Funcs.set (r.P.Funcs.length - 1) ⟨r.curF.Name,r.curF.Result,r.curF.Params,r.curF.Vars,r.curF.Blocks.set (r.curF.Blocks.length - 1) ⟨r.curB.Name,r.curB.Phis,r.curB.Code,t⟩⟩⟩,9,r.Long⟩):=by unfold wS;rw[h];rfl
theorem kA(r:Lt.Read)(h:jC l=none):wS r l=(3,⟨r.P,9,r.Long⟩):=by grind [wS]
theorem Ki(r:Lt.Read)(l:List a8)(hp:iu r l)(KK:((Bool×Int)×Lt.Read)->Prop)(h:KK (cy r l)):CV r l KK:=by
 obtain⟨hi,hl,hr⟩:=hp;have hr:l.length<=1099511627776:=hr
 have h0:0<l.length:=al4.2 hl
 obtain⟨hw,⟨L,p,n⟩,_⟩:=id hi;unfold CV;dsimp only;unfold cy at h;refine⟨⟨by decide,h0⟩,?_⟩;simp only[ae,jval];refine ifk (λhc=>?_) (λhc=>?_)
 .rw[if_pos (by grind)]at h
  try simp only[am7]
  refine ifk (λp=>?_) (λp=>?_)
  .grind
  rw[if_neg (by grind)]at h;have N:5<=r.Where:=by grind
  have O:r.Where<=8:=by grind
  obtain⟨hf,_,_,_,K⟩:=j0 hi kQ1;obtain⟨k,M,J,_⟩:=vN hi kQ1;have B:r.P.Funcs.length<=5000:=by omega
  have x:r.curF.Blocks.length<=5000:=by omega
  have q:r.curB.Code.length<=5000:=by omega
  have A:r.P.Funcs.getD (r.P.Funcs.length - 1) default=r.curF:=rfl
  have y:r.curF.Blocks.getD (r.curF.Blocks.length - 1) default=r.curB:=rfl
  have u:r.curB.Code.getD (r.curB.Code.length - 1) default=r.curI:=rfl
  simp only[fU hf B,kf hf,kg hf,Int.toNat_natCast,A,fU k x,kf k,kg k,y,true_and,ba,gM];refine λ_ _=>⟨⟨by decide,h0⟩,?_⟩
  refine ifk (λn=>?_) (λn=>?_)
  .rw[if_pos (by grind)]at h;refine⟨⟨by omega,by decide,by decide⟩,?_⟩;simp only[ae,am,aq,bL,bd,jval,bor,band,bnand,bimp,and_self,iC,oX,oY,ba,gM,alT,akS,if_false,fF];refine⟨λm o=>?_,λm o=>?_,λhb=>?_,ifk (λhb=>kk h ?_) (λhb=>ifk (λd=>kk h ?_) (λd=>?_))⟩
   .grind [lu]
   .grind [lu]
   .grind [lu]
   .grind [Lt.sAt]
   .have D:(decide (r.Where=7)&&(aP l 4 true).2&&cj (Lt.w1 l)&&cj (Lt.w2 l)&&((fd (Lt.w3 l)).2&&decide (0<=(fd (Lt.w3 l)).1)&&decide ((fd (Lt.w3 l)).1<=1024)))=false:=by grind
    grind [Lt.sAt]
   have D:(decide (r.Where=7)&&(aP l 4 true).2&&cj (Lt.w1 l)&&cj (Lt.w2 l)&&((fd (Lt.w3 l)).2&&decide (0<=(fd (Lt.w3 l)).1)&&decide ((fd (Lt.w3 l)).1<=1024)))=true:=by grind
   have m:r.Where=7:=by grind
   have o:(aP l 4 true).2=true:=by grind
   have H:=lu (l:=l) (f:=4) (objs:=true) o (by decide)
   obtain⟨a,z,v⟩:=C5 hi kQ1 kQ1;simp only[fU a q,kf a,kg a,Int.toNat_natCast,u,true_and,mK (l:=l) kQ1,tD (l:=l) kQ1,implies_true,alQ,jK (show r.curI.Frames.length<=5000 by omega) (show 64<=200 by omega)];refine λ_ _=>kk h ?_
   unfold Lt.sAt;rw[if_neg (by grind)];unfold Lt.Read.instr Lt.Read.block Lt.Read.func Lt.last;simp only[A,y,u];by_cases b:16 < (aP l 4 true).1.length\/16<=r.curI.Frames.length
   .rw[if_pos b,if_pos (by grind)]
   rw[if_neg b,if_neg (by grind)]
  rw[if_neg (by grind)]at h;refine ifk (λs=>?_) (λs=>?_)
  .rw[if_pos (by grind)]at h;simp only[ae,am,aq,bL,bd,jval,bor,band,bnand,bimp,and_self,iC,oX,oY,ba,gM,alT,akS,if_false,fF];have F:(l.drop 2).take (l.length - 2)=l.drop 2:=amR (by grind)
   refine⟨λ_ C _=>?_,λ_=>by decide,λhb=>?_,λhb=>?_,ifk (λhb=>kk h ?_) (λhb=>ifk (λd=>kk h ?_) (λd=>?_))⟩
   .grind
   .grind
   .rw[F];show(l.drop 2).length<=1099511627776;grind
   .grind [Lt.rY]
   .grind [Lt.rY]
   rw[F]at d|-;have D:(decide (7<=r.Where)&&decide (2<=l.length)&&decide (l.length<=10)&&cj (Lt.w1 l)&&(cm (l.drop 2) true).2)=true:=by grind
   have C:2<=l.length:=by grind
   have m:7<=r.Where:=by grind
   obtain⟨a,z,v⟩:=C5 hi kQ1 kQ1;simp only[fU a q,kf a,kg a,Int.toNat_natCast,u,true_and,mK (l:=l) kQ1,implies_true,alQ,jK (show r.curI.Objs.length<=5000 by omega) (show 40<=200 by omega)];refine λ_ _=>kk h ?_
   unfold Lt.rY;rw[if_neg (by grind)];unfold Lt.Read.instr Lt.Read.block Lt.Read.func Lt.last cD;simp only[A,y,u];by_cases b:99<=r.curI.Objs.length
   .rw[if_pos b,if_pos kQ1]
   rw[if_neg b,if_neg kQ1]
  rw[if_neg (by grind)]at h;have hk:l.getD 0 default=[106,117,109,112]\/l.getD 0 default=[98,114,97,110,99,104]\/l.getD 0 default=[114,101,116]\/l.getD 0 default=[116,114,97,112]:=by grind
  refine λw j=>?_
  have I:w (true,(wS r l).1,(wS r l).2):=j _ h
  clear j h hc n s;have z0:((0:Int)<=0/\0<l.length)=True:=by grind
  have c:decide ((l.length:Int)=2)=decide (l.length=2):=decide_eq_decide.2 kQ1
  have g:decide ((l.length:Int)=4)=decide (l.length=4):=decide_eq_decide.2 kQ1
  rcases hk with e|e|e|e
  .simp only[e,show(decide (([106,117,109,112]:List UInt8)=[106,117,109,112]))=true from rfl,show(decide (([106,117,109,112]:List UInt8)=[98,114,97,110,99,104]))=false from rfl,show(decide (([106,117,109,112]:List UInt8)=[114,101,116]))=false from rfl,show(decide (([106,117,109,112]:List UInt8)=[116,114,97,112]))=false from rfl,z0,ae,am,aq,bL,bd,jval,bor,band,bnand,bimp,and_self,iC,oX,oY,ba,gM,alT,akS,if_false,if_true,true_and,alX,ak9,decide_true,not_false_eq_true,false_implies,true_implies,implies_true,c,g,forall_const]
   grind [rJ,jC,kA]
  .simp only[e,show(decide (([98,114,97,110,99,104]:List UInt8)=[106,117,109,112]))=false from rfl,show(decide (([98,114,97,110,99,104]:List UInt8)=[98,114,97,110,99,104]))=true from rfl,show(decide (([98,114,97,110,99,104]:List UInt8)=[114,101,116]))=false from rfl,show(decide (([98,114,97,110,99,104]:List UInt8)=[116,114,97,112]))=false from rfl,z0,ae,am,aq,bL,bd,jval,bor,band,bnand,bimp,and_self,iC,oX,oY,ba,gM,alT,akS,if_false,if_true,true_and,alX,ak9,decide_true,not_false_eq_true,false_implies,true_implies,implies_true,c,g,forall_const];by_cases h4:l.length=4
   .have E:(l.drop 1).take (2 - 1)=[l.getD 1 default]:=AZ l (i:=0) kQ1
    rw[E,wR];have t:jz [l.getD 1 default] false:=by show 1<=1099511627776;omega
    refine⟨λ_=>⟨by decide,by omega⟩,λ_=>⟨by decide,by omega⟩,λ_=>by decide,λ_=>by decide,λ_=>⟨by decide,by omega⟩,λ_=>t,λ_ ha=>?_,λ_ _=>⟨by decide,by omega⟩,λ_ _=>⟨by decide,by omega⟩,kk I ?_⟩
    .grind
    have G:¬ Lt.w0 l=Av:=by grind
    grind [rJ,jC,kA]
   grind [kA,jC]
  .simp only[e,show(decide (([114,101,116]:List UInt8)=[106,117,109,112]))=false from rfl,show(decide (([114,101,116]:List UInt8)=[98,114,97,110,99,104]))=false from rfl,show(decide (([114,101,116]:List UInt8)=[114,101,116]))=true from rfl,show(decide (([114,101,116]:List UInt8)=[116,114,97,112]))=false from rfl,z0,ae,am,aq,bL,bd,jval,bor,band,bnand,bimp,and_self,iC,oX,oY,ba,gM,alT,akS,if_false,if_true,true_and,alX,ak9,decide_true,not_false_eq_true,false_implies,true_implies,implies_true,c,g,forall_const];have G:¬ Lt.w0 l=Av:=by grind
   have n2:¬ Lt.w0 l=jd:=by grind
   by_cases h4:l.length=2
   .have E:(l.drop 1).take (l.length - 1)=[l.getD 1 default]:=by grind [AZ]
    grind [wR,jz,rJ,jC,kA]
   grind [kA,jC]
  simp only[e,show(decide (([116,114,97,112]:List UInt8)=[106,117,109,112]))=false from rfl,show(decide (([116,114,97,112]:List UInt8)=[98,114,97,110,99,104]))=false from rfl,show(decide (([116,114,97,112]:List UInt8)=[114,101,116]))=false from rfl,show(decide (([116,114,97,112]:List UInt8)=[116,114,97,112]))=true from rfl,z0,ae,am,aq,bL,bd,jval,bor,band,bnand,bimp,and_self,iC,oX,oY,ba,gM,alT,akS,if_false,if_true,true_and,alX,ak9,decide_true,not_false_eq_true,false_implies,true_implies,implies_true,c,g,forall_const]
  grind [rJ,jC,kA]
 grind
end Go.Am
end
