/-
  Part 15: AmKS · AmE13.
-/
import Derived.Test.YtlikflolhhlgjaaDoorTx14
set_option linter.unusedSimpArgs false
set_option linter.unusedVariables false
set_option linter.unusedSectionVars false
set_option linter.unnecessarySimpa false
section
namespace Go.Am
open Go Go.Proofs
set_option linter.unusedVariables false
set_option maxRecDepth 100000
theorem En.ok0 {P:Program} {u:Ut} {sh:List (TypeId×List Sh)} {pk:PKt}:En.ok ⟨P,u,[],sh,pk⟩:=fun _ h=>by cases h
theorem En.okc {P:Program} {u:Ut} {sh:List (TypeId×List Sh)} {pk:PKt} {f:Nat} {C:CKt} {cs:CTt} (h:Cont P f C) (hs:En.ok ⟨P,u,cs,sh,pk⟩):En.ok ⟨P,u,(f,C)::cs,sh,pk⟩:=by
 intro x hx
 rcases List.mem_cons.1 hx with rfl | hx
 ·exact h
 ·exact hs x hx
theorem mixed:Tryd.prog.follows .mixedOrders=true:=by kernel_rfl
def okF (n:Nat) (fn:Func):Bool:=fn.name != "runtime.NumGoroutine" && (fn.body.isSome&&(Nat.ble n fn.ntmps&&chkC fn.ntmps (fn.body.getD .skip)))
theorem okF_1 {n:Nat} {fn:Func} (h:okF n fn=true):(fn.name == "runtime.NumGoroutine")=false/\fn.body.isSome=true/\Nat.ble n fn.ntmps=true/\chkC fn.ntmps (fn.body.getD .skip)=true:=by
 unfold okF at h
 simp only [Bool.and_eq_true,bne,Bool.not_eq_true'] at h
 exact h
theorem k0 (e:En) (he:e.ok) (hm:e.P.follows .mixedOrders=true) {f:Nat} {fn:Func} (an:An) {ps rs:List U} {F:Fl ps->Fl rs} (hf:e.P.funcs[f]? = some fn) (hb:okF ps.length fn=true) (law:∀ x,∀ KK:Fl rs->Prop,KK (F x)->bodyT e fn an ps rs x KK):Cont e.P f (pureT0 ps rs F):=
 Cont_pure0 he hm hf (okF_1 hb).1 (okF_1 hb).2.1 (okF_1 hb).2.2.1 (okF_1 hb).2.2.2 law
theorem k1 (e:En) (he:e.ok) (hm:e.P.follows .mixedOrders=true) {f:Nat} {fn:Func} (an:An) {ps rs:List U} {pre:Fl ps->Prop} {F:Fl ps->Fl rs} (hf:e.P.funcs[f]? = some fn) (hb:okF ps.length fn=true) (law:∀ x,pre x->∀ KK:Fl rs->Prop,KK (F x)->bodyT e fn an ps rs x KK):Cont e.P f (pureT ps rs pre F):=
 Cont_pure he hm hf (okF_1 hb).1 (okF_1 hb).2.1 (okF_1 hb).2.2.1 (okF_1 hb).2.2.2 law
theorem k2 (e:En) (he:e.ok) (hm:e.P.follows .mixedOrders=true) {f:Nat} {fn:Func} (an:An) {sh:List Sh} {u:U} {ps rs:List U} {pre:El u->Fl ps->Prop} {Fn:El u->Fl ps->Fl rs×El u} (hf:e.P.funcs[f]? = some fn) (hb:okF (ps.length+1) fn=true) (law:∀ x y,pre x y->∀ KK:Fl rs×El u->Prop,KK (Fn x y)->bodyPT e fn an sh u ps rs x y KK):Cont e.P f (ptrT sh u ps rs pre Fn):=
 Cont_ptr he hm hf (okF_1 hb).1 (okF_1 hb).2.1 (okF_1 hb).2.2.1 (okF_1 hb).2.2.2 law
theorem k3 (e:En) (he:e.ok) (hm:e.P.follows .mixedOrders=true) {f:Nat} {fn:Func} (an:An) {u:U} {ps:List U} {pre:List (El u)->Fl ps->Prop} {Fn:List (El u)->Fl ps->List (El u)} (hf:e.P.funcs[f]? = some fn) (hb:okF (ps.length+1) fn=true) (law:∀ x y,pre x y->∀ KK:List (El u)->Prop,KK (Fn x y)->bodyOT e fn an u ps x y KK):Cont e.P f (ownT u ps pre Fn):=
 Cont_own he hm hf (okF_1 hb).1 (okF_1 hb).2.1 (okF_1 hb).2.2.1 (okF_1 hb).2.2.2 law
abbrev sh5:List Sh:=[.fr,.fr,.fr,.ow [],.ow [],.ow []]
abbrev sh4:List Sh:=[.fr,.ow [.fr,.fr,.fr,.fr]]
abbrev sh3:List Sh:=[.fr,.fr,.fr,.fr,.ow [.fr,.fr,.fr,.fr],.ow [.fr,.fr]]
abbrev sh1:List Sh:=[.fr,.fr,.ow [.fr,.fr],.ow [.fr,.fr],.ow [.fr,.ow [.fr,.fr],.ow sh3,.fr,.fr,.fr,.fr,.fr,.fr]]
abbrev sh2:List Sh:=[.fr,.ow [.fr,.ow [.fr,.fr]],.ow [.fr,.fr],.ow [.fr,.fr],.ow sh1,.fr,.fr,.fr,.fr]
abbrev sh0:List Sh:=[.fr,.ow [.fr,.ow [.fr,.fr]],.ow [.fr,.fr],.ow [.fr,.fr],.ow sh1,.fr,.fr]
def eU:Ut:=[(86,(.st .Class)),(128,(.st .Var)),(88,(.st .Extern)),(51,(.st .Func)),(60,(.st .Block)),(69,(.st .Phi)),(66,(.st .Instr)),(9,.s),(55,(.st .Arg)),(159,(.st .Frame)),(163,(.st .Virt)),(132,(.st .In)),(76,(.st .RLine)),(80,(.st .Line)),(5,.b8),(3,(.i .i64)),(161,(.st .Bind))]
def eS:List (TypeId×List Sh):=[(27,[.fr,.ow [.fr,.ow [.fr,.fr]],.ow [.fr,.fr],.ow [.fr,.fr],.ow sh1]),(51,sh1),(60,[.fr,.ow [.fr,.fr],.ow sh3,.fr,.fr,.fr,.fr,.fr,.fr]),(66,sh3),(86,[.fr,.ow [.fr,.fr]]),(103,sh2),(104,sh2),(165,sh0),(166,sh0)]
def C_letter:CKt:=pureT0 [.b8] [.bo] (fun x=>Lt.letter x)
def an_letter:An:=.s .l (.j ⟨[],[],[],[.sl 2 .bo]⟩ .l .l)
theorem walk_letter (a0_c:UInt8) (KK:Bool->Prop):F_letter a0_c KK=bodyT ⟨Tryd.prog,eU,[],[],noP⟩ Tryd.f62 an_letter [.b8] [.bo] a0_c KK:=by kernel_rfl
theorem c_letter:Cont Tryd.prog 62 C_letter:=k0 ⟨Tryd.prog,eU,[],[],noP⟩ En.ok0 mixed (fn:=Tryd.f62) an_letter (by kernel_rfl) (by kernel_rfl) (fun a0_c KK h=>Eq.mp (walk_letter a0_c KK) (law_letter a0_c KK h))
def C_kept:CKt:=pureT0 [.s] [.bo] (fun x=>Lt.kept x)
def an_kept:An:=.s .l (.j ⟨[],[],[],[.sl 2 .bo]⟩ .l .l)
theorem walk_kept (a0_s:List UInt8) (KK:Bool->Prop):F_kept a0_s KK=bodyT ⟨Tryd.prog,eU,[],[],noP⟩ Tryd.f63 an_kept [.s] [.bo] a0_s KK:=by kernel_rfl
theorem c_kept:Cont Tryd.prog 63 C_kept:=k0 ⟨Tryd.prog,eU,[],[],noP⟩ En.ok0 mixed (fn:=Tryd.f63) an_kept (by kernel_rfl) (by kernel_rfl) (fun a0_s KK h=>Eq.mp (walk_kept a0_s KK) (law_kept a0_s KK h))
def C_wordDigit:CKt:=pureT0 [.b8] [.bo] (fun x=>Lt.wordDigit x)
def an_wordDigit:An:=.s .l (.s .l .l)
theorem walk_wordDigit (a0_c:UInt8) (KK:Bool->Prop):F_wordDigit a0_c KK=bodyT ⟨Tryd.prog,eU,[],[],noP⟩ Tryd.f64 an_wordDigit [.b8] [.bo] a0_c KK:=by kernel_rfl
theorem c_wordDigit:Cont Tryd.prog 64 C_wordDigit:=k0 ⟨Tryd.prog,eU,[],[],noP⟩ En.ok0 mixed (fn:=Tryd.f64) an_wordDigit (by kernel_rfl) (by kernel_rfl) (fun a0_c KK h=>Eq.mp (walk_wordDigit a0_c KK) (law_wordDigit a0_c KK h))
def C_Name:CKt:=pureT0 [.s] [.bo] (fun x=>Lt.Name x)
def an_Name:An:=.s .l (.s (.j ⟨[0],[],[],[.sl 20 .bo]⟩ .l (.c (.s .l .l) .l)) (.s (.s .l (.b (.lp ⟨[0,22],[],[],[.sl 23 (.i .i64)]⟩ (.s .l (.s (.c .l .l) (.s (.b (.s .l (.j ⟨[0,22,23],[],[],[.sl 37 .bo]⟩ .l (.c (.s .l .l) .l)))) .l)))))) (.s .l .l)))
abbrev t_Name:CTt:=[(62,C_letter),(63,C_kept),(64,C_wordDigit)]
theorem walk_Name (a0_s:List UInt8) (KK:Bool->Prop):F_Name a0_s KK=bodyT ⟨Tryd.prog,eU,t_Name,[],noP⟩ Tryd.f35 an_Name [.s] [.bo] a0_s KK:=by kernel_rfl
theorem c_Name:Cont Tryd.prog 35 C_Name:=k0 ⟨Tryd.prog,eU,t_Name,[],noP⟩ (En.okc c_letter (En.okc c_kept (En.okc c_wordDigit En.ok0))) mixed (fn:=Tryd.f35) an_Name (by kernel_rfl) (by kernel_rfl) (fun a0_s KK h=>Eq.mp (walk_Name a0_s KK) (law_Name a0_s KK h))
def C_kind:CKt:=pureT0 [.s] [.bo] (fun x=>Lt.kind x)
def an_kind:An:=.s .l (.j ⟨[],[],[],[.sl 2 .bo]⟩ .l .l)
abbrev t_kind:CTt:=[(35,C_Name)]
theorem walk_kind (a0_s:List UInt8) (KK:Bool->Prop):F_kind a0_s KK=bodyT ⟨Tryd.prog,eU,t_kind,[],noP⟩ Tryd.f61 an_kind [.s] [.bo] a0_s KK:=by kernel_rfl
theorem c_kind:Cont Tryd.prog 61 C_kind:=k0 ⟨Tryd.prog,eU,t_kind,[],noP⟩ (En.okc c_Name En.ok0) mixed (fn:=Tryd.f61) an_kind (by kernel_rfl) (by kernel_rfl) (fun a0_s KK h=>Eq.mp (walk_kind a0_s KK) (law_kind a0_s KK h))
def C_typed:CKt:=pureT0 [(.sl (.st .Var)),(.i .i64)] [.bo] (fun x=>Lt.typed x.1 x.2)
def an_typed:An:=.s .l (.s (.s .l (.c (.s .l .l) .l)) (.s (.s .l (.b (.lp ⟨[11,12],[],[],[.sl 13 (.i .i64)]⟩ (.s .l (.s (.c .l .l) (.s (.b (.s .l (.j ⟨[11,12,13],[],[],[.sl 26 .bo]⟩ .l (.c (.s .l .l) .l)))) .l)))))) (.s .l .l)))
abbrev t_typed:CTt:=[(35,C_Name),(61,C_kind)]
theorem walk_typed (a0_l:List Lt.Var) (a1_most:Int) (KK:Bool->Prop):F_typed a0_l a1_most KK=bodyT ⟨Tryd.prog,eU,t_typed,[],noP⟩ Tryd.f34 an_typed [(.sl (.st .Var)),(.i .i64)] [.bo] (a0_l,a1_most) KK:=by kernel_rfl
theorem c_typed:Cont Tryd.prog 34 C_typed:=k0 ⟨Tryd.prog,eU,t_typed,[],noP⟩ (En.okc c_Name (En.okc c_kind En.ok0)) mixed (fn:=Tryd.f34) an_typed (by kernel_rfl) (by kernel_rfl) (fun (a0_l,a1_most) KK h=>Eq.mp (walk_typed a0_l a1_most KK) (law_typed a0_l a1_most KK h))
def C_Plain:CKt:=pureT0 [(.i .i64)] [(.i .i64)] (fun x=>Lt.Plain x)
def an_Plain:An:=.s .l (.s (.j ⟨[0],[],[],[.sl 10 .bo]⟩ .l (.c (.s .l .l) .l)) (.s .l .l))
theorem walk_Plain (a0_n:Int) (KK:Int->Prop):F_Plain a0_n KK=bodyT ⟨Tryd.prog,eU,[],[],noP⟩ Tryd.f114 an_Plain [(.i .i64)] [(.i .i64)] a0_n KK:=by kernel_rfl
theorem c_Plain:Cont Tryd.prog 114 C_Plain:=k0 ⟨Tryd.prog,eU,[],[],noP⟩ En.ok0 mixed (fn:=Tryd.f114) an_Plain (by kernel_rfl) (by kernel_rfl) (fun a0_n KK h=>Eq.mp (walk_Plain a0_n KK) (law_Plain a0_n KK h))
def C_wordRight:CKt:=pureT0 [(.st .Arg)] [.bo] (fun x=>Lt.wordRight x)
def an_wordRight:An:=.s .l (.s (.s .l (.b (.s .l (.c (.s .l .l) (.s .l (.c (.s .l .l) (.s .l (.c (.j ⟨[],[],[],[.sl 2 .bo]⟩ .l .l) (.s .l (.c (.s .l .l) (.s .l (.c (.j ⟨[],[],[],[.sl 2 .bo]⟩ .l .l) .l)))))))))))) (.s .l .l))
abbrev t_wordRight:CTt:=[(35,C_Name),(114,C_Plain)]
theorem walk_wordRight (a0_a:Lt.Arg) (KK:Bool->Prop):F_wordRight a0_a KK=bodyT ⟨Tryd.prog,eU,t_wordRight,[],noP⟩ Tryd.f77 an_wordRight [(.st .Arg)] [.bo] a0_a KK:=by kernel_rfl
theorem c_wordRight:Cont Tryd.prog 77 C_wordRight:=k0 ⟨Tryd.prog,eU,t_wordRight,[],noP⟩ (En.okc c_Name (En.okc c_Plain En.ok0)) mixed (fn:=Tryd.f77) an_wordRight (by kernel_rfl) (by kernel_rfl) (fun a0_a KK h=>Eq.mp (walk_wordRight a0_a KK) (law_wordRight a0_a KK h))
def C_showArgs:CKt:=pureT0 [(.sl (.st .Arg)),.bo] [.bo] (fun x=>Lt.showArgs x.1 x.2)
def an_showArgs:An:=.s .l (.s (.s .l (.b (.lp ⟨[1,7,8],[],[],[.sl 9 (.i .i64)]⟩ (.s .l (.s (.c .l .l) (.s (.b (.s .l (.j ⟨[1,7,8,9],[],[],[.sl 24 .bo]⟩ .l (.c (.s .l .l) .l)))) .l)))))) (.s .l .l))
abbrev t_showArgs:CTt:=[(77,C_wordRight)]
theorem walk_showArgs (a0_l:List Lt.Arg) (a1_objs:Bool) (KK:Bool->Prop):F_showArgs a0_l a1_objs KK=bodyT ⟨Tryd.prog,eU,t_showArgs,[],noP⟩ Tryd.f121 an_showArgs [(.sl (.st .Arg)),.bo] [.bo] (a0_l,a1_objs) KK:=by kernel_rfl
theorem c_showArgs:Cont Tryd.prog 121 C_showArgs:=k0 ⟨Tryd.prog,eU,t_showArgs,[],noP⟩ (En.okc c_wordRight En.ok0) mixed (fn:=Tryd.f121) an_showArgs (by kernel_rfl) (by kernel_rfl) (fun (a0_l,a1_objs) KK h=>Eq.mp (walk_showArgs a0_l a1_objs KK) (law_showArgs a0_l a1_objs KK h))
def C_showEnd:CKt:=pureT0 [(.st .Term)] [.bo] (fun x=>Lt.showEnd x)
def an_showEnd:An:=.s .l (.s (.s .l (.b (.lp ⟨[1,8,9],[.loc 1],[],[.sl 10 (.i .i64)]⟩ (.s .l (.s (.c .l .l) (.s (.b (.s .l (.s .l (.c (.s .l .l) .l)))) .l)))))) (.s .l (.s .l (.s (.s .l (.b (.s .l (.c (.j ⟨[],[],[],[.sl 2 .bo]⟩ .l .l) (.s .l (.c (.j ⟨[],[],[],[.sl 2 .bo]⟩ .l .l) (.s .l (.c (.j ⟨[],[],[],[.sl 2 .bo]⟩ .l .l) (.s .l (.c (.s .l .l) .l)))))))))) (.s .l .l)))))
abbrev t_showEnd:CTt:=[(35,C_Name),(121,C_showArgs)]
theorem walk_showEnd (a0_t:Lt.Term) (KK:Bool->Prop):F_showEnd a0_t KK=bodyT ⟨Tryd.prog,eU,t_showEnd,[],noP⟩ Tryd.f86 an_showEnd [(.st .Term)] [.bo] a0_t KK:=by kernel_rfl
theorem c_showEnd:Cont Tryd.prog 86 C_showEnd:=k0 ⟨Tryd.prog,eU,t_showEnd,[],noP⟩ (En.okc c_Name (En.okc c_showArgs En.ok0)) mixed (fn:=Tryd.f86) an_showEnd (by kernel_rfl) (by kernel_rfl) (fun a0_t KK h=>Eq.mp (walk_showEnd a0_t KK) (law_showEnd a0_t KK h))
def C_phi:CKt:=pureT0 [(.st .Phi)] [.bo] (fun x=>Lt.phi x)
def an_phi:An:=.s .l (.s (.j ⟨[1],[.loc 1],[],[.sl 20 .bo]⟩ .l (.c (.s .l .l) .l)) (.s (.s .l (.b (.lp ⟨[22,23],[],[],[.sl 24 (.i .i64)]⟩ (.s .l (.s (.c .l .l) (.s (.b (.s .l (.j ⟨[22,23,24],[],[],[.sl 38 .bo]⟩ .l (.c (.s .l .l) .l)))) .l)))))) (.s .l .l)))
abbrev t_phi:CTt:=[(35,C_Name),(121,C_showArgs)]
theorem walk_phi (a0_x:Lt.Phi) (KK:Bool->Prop):F_phi a0_x KK=bodyT ⟨Tryd.prog,eU,t_phi,[],noP⟩ Tryd.f87 an_phi [(.st .Phi)] [.bo] a0_x KK:=by kernel_rfl
theorem c_phi:Cont Tryd.prog 87 C_phi:=k0 ⟨Tryd.prog,eU,t_phi,[],noP⟩ (En.okc c_Name (En.okc c_showArgs En.ok0)) mixed (fn:=Tryd.f87) an_phi (by kernel_rfl) (by kernel_rfl) (fun a0_x KK h=>Eq.mp (walk_phi a0_x KK) (law_phi a0_x KK h))
def C_nth:CKt:=pureT0 [.s,(.i .i64)] [.s] (fun x=>Lt.nth x.1 x.2)
def an_nth:An:=.s .l (.s .l (.s (.s .l (.b (.lp ⟨[0],[],[],[.sl 1 (.i .i64),.sl 5 (.i .i64),.sl 6 (.i .i64)]⟩ (.s (.s .l (.c .l .l)) (.j ⟨[0,6],[],[],[.sl 1 (.i .i64),.sl 5 (.i .i64)]⟩ (.b (.s (.s .l (.c .l .l)) (.s (.s .l (.s .l (.c (.s .l .l) .l))) .l))) .l))))) (.s .l .l)))
theorem walk_nth (a0_list:List UInt8) (a1_n:Int) (KK:(List UInt8)->Prop):F_nth a0_list a1_n KK=bodyT ⟨Tryd.prog,eU,[],[],noP⟩ Tryd.f37 an_nth [.s,(.i .i64)] [.s] (a0_list,a1_n) KK:=by kernel_rfl
theorem c_nth:Cont Tryd.prog 37 C_nth:=k0 ⟨Tryd.prog,eU,[],[],noP⟩ En.ok0 mixed (fn:=Tryd.f37) an_nth (by kernel_rfl) (by kernel_rfl) (fun (a0_list,a1_n) KK h=>Eq.mp (walk_nth a0_list a1_n KK) (law_nth a0_list a1_n KK h))
def C_Of:CKt:=pureT0 [(.i .i64)] [(.st .Form),.bo] (fun x=>Lt.Of x)
def an_Of:An:=.s .l (.s (.b (.j ⟨[0,2],[.loc 2],[],[.sl 4 .bo]⟩ .l (.c (.s .l .l) (.j ⟨[0,2],[.loc 2],[],[.sl 14 .bo]⟩ .l (.c (.s .l .l) .l))))) (.s (.s .l (.b (.s .l (.c (.s .l .l) (.s .l (.c (.s .l .l) (.s .l (.c (.s .l .l) (.s .l (.c (.s .l .l) (.s .l (.c (.s .l .l) (.s .l (.c (.s .l .l) (.s .l (.c (.s .l .l) (.s .l (.c (.s .l .l) (.s .l (.c (.s .l .l) (.s .l (.c (.s .l .l) .l)))))))))))))))))))))) (.s .l .l)))
abbrev t_Of:CTt:=[(37,C_nth)]
theorem walk_Of (a0_op:Int) (KK:(Lt.Form×Bool)->Prop):F_Of a0_op KK=bodyT ⟨Tryd.prog,eU,t_Of,[],noP⟩ Tryd.f13 an_Of [(.i .i64)] [(.st .Form),.bo] a0_op KK:=by kernel_rfl
theorem c_Of:Cont Tryd.prog 13 C_Of:=k0 ⟨Tryd.prog,eU,t_Of,[],noP⟩ (En.okc c_nth En.ok0) mixed (fn:=Tryd.f13) an_Of (by kernel_rfl) (by kernel_rfl) (fun a0_op KK h=>Eq.mp (walk_Of a0_op KK) (law_Of a0_op KK h))
def C_frame:CKt:=pureT0 [(.st .Frame)] [.bo] (fun x=>Lt.frame x)
def an_frame:An:=.s .l (.s (.j ⟨[1],[.loc 1],[],[.sl 30 .bo]⟩ .l (.c (.s .l .l) .l)) (.s (.s .l (.b (.lp ⟨[32,33],[],[],[.sl 34 (.i .i64)]⟩ (.s .l (.s (.c .l .l) (.s (.b (.s .l (.j ⟨[32,33,34],[],[],[.sl 48 .bo]⟩ .l (.c (.s .l .l) .l)))) .l)))))) (.s .l .l)))
abbrev t_frame:CTt:=[(35,C_Name),(121,C_showArgs)]
theorem walk_frame (a0_f:Lt.Frame) (KK:Bool->Prop):F_frame a0_f KK=bodyT ⟨Tryd.prog,eU,t_frame,[],noP⟩ Tryd.f122 an_frame [(.st .Frame)] [.bo] a0_f KK:=by kernel_rfl
theorem c_frame:Cont Tryd.prog 122 C_frame:=k0 ⟨Tryd.prog,eU,t_frame,[],noP⟩ (En.okc c_Name (En.okc c_showArgs En.ok0)) mixed (fn:=Tryd.f122) an_frame (by kernel_rfl) (by kernel_rfl) (fun a0_f KK h=>Eq.mp (walk_frame a0_f KK) (law_frame a0_f KK h))
def C_instr:CKt:=pureT0 [(.st .Instr)] [.bo] (fun x=>Lt.instr x)
def an_instr:An:=.s .l (.s .l (.s (.j ⟨[1,3],[.loc 1,.loc 3],[],[.sl 52 .bo]⟩ .l (.c (.s .l .l) .l)) (.s (.j ⟨[1],[.loc 1],[],[.sl 84 .bo]⟩ .l (.c (.s .l .l) .l)) (.s (.j ⟨[1],[.loc 1],[],[.sl 92 .bo]⟩ .l (.c (.s .l .l) .l)) (.s (.s .l (.b (.lp ⟨[1,104,105],[.loc 1],[],[.sl 106 (.i .i64)]⟩ (.s .l (.s (.c .l .l) (.s (.b (.s .l (.s .l (.c (.s .l .l) .l)))) .l)))))) (.s (.s .l (.b (.lp ⟨[115,116],[],[],[.sl 117 (.i .i64)]⟩ (.s .l (.s (.c .l .l) (.s (.b (.s .l (.j ⟨[115,116,117],[],[],[.sl 136 .bo]⟩ .l (.c (.s .l .l) .l)))) .l)))))) (.s .l .l)))))))
abbrev t_instr:CTt:=[(13,C_Of),(35,C_Name),(121,C_showArgs),(122,C_frame)]
theorem walk_instr (a0_i:Lt.Instr) (KK:Bool->Prop):F_instr a0_i KK=bodyT ⟨Tryd.prog,eU,t_instr,[],noP⟩ Tryd.f88 an_instr [(.st .Instr)] [.bo] a0_i KK:=by kernel_rfl
theorem c_instr:Cont Tryd.prog 88 C_instr:=k0 ⟨Tryd.prog,eU,t_instr,[],noP⟩ (En.okc c_Of (En.okc c_Name (En.okc c_showArgs (En.okc c_frame En.ok0)))) mixed (fn:=Tryd.f88) an_instr (by kernel_rfl) (by kernel_rfl) (fun a0_i KK h=>Eq.mp (walk_instr a0_i KK) (law_instr a0_i KK h))
def C_block:CKt:=pureT0 [(.st .Block)] [.bo] (fun x=>Lt.block x)
def an_block:An:=.s .l (.s (.j ⟨[1],[.loc 1],[],[.sl 16 .bo]⟩ .l (.c (.s .l .l) .l)) (.s (.s .l (.b (.lp ⟨[1,18,19],[.loc 1],[],[.sl 20 (.i .i64)]⟩ (.s .l (.s (.c .l .l) (.s (.b (.s .l (.s .l (.c (.s .l .l) .l)))) .l)))))) (.s (.s .l (.b (.lp ⟨[29,30],[],[],[.sl 31 (.i .i64)]⟩ (.s .l (.s (.c .l .l) (.s (.b (.s .l (.s .l (.c (.s .l .l) .l)))) .l)))))) (.s .l .l))))
abbrev t_block:CTt:=[(35,C_Name),(86,C_showEnd),(87,C_phi),(88,C_instr)]
theorem walk_block (a0_b:Lt.Block) (KK:Bool->Prop):F_block a0_b KK=bodyT ⟨Tryd.prog,eU,t_block,[],noP⟩ Tryd.f65 an_block [(.st .Block)] [.bo] a0_b KK:=by kernel_rfl
theorem c_block:Cont Tryd.prog 65 C_block:=k0 ⟨Tryd.prog,eU,t_block,[],noP⟩ (En.okc c_Name (En.okc c_showEnd (En.okc c_phi (En.okc c_instr En.ok0)))) mixed (fn:=Tryd.f65) an_block (by kernel_rfl) (by kernel_rfl) (fun a0_b KK h=>Eq.mp (walk_block a0_b KK) (law_block a0_b KK h))
def C_showFunction:CKt:=pureT0 [(.st .Func)] [.bo] (fun x=>Lt.showFunction x)
def an_showFunction:An:=.s .l (.s (.j ⟨[1],[.loc 1],[],[.sl 39 .bo]⟩ .l (.c (.s .l .l) .l)) (.s .l (.s (.s .l (.b (.lp ⟨[41,42],[],[],[.sl 3 (.i .i64),.sl 43 (.i .i64)]⟩ (.s .l (.s (.c .l .l) (.s (.b (.s .l (.s (.j ⟨[3,5,41,42,43],[.loc 5],[],[.sl 56 .bo]⟩ .l (.c (.s .l .l) .l)) (.s .l (.j ⟨[3,41,42,43],[],[],[.sl 72 .bo]⟩ .l (.c (.s .l .l) .l)))))) .l)))))) (.s .l .l))))
abbrev t_showFunction:CTt:=[(34,C_typed),(35,C_Name),(61,C_kind),(65,C_block)]
theorem walk_showFunction (a0_f:Lt.Func) (KK:Bool->Prop):F_showFunction a0_f KK=bodyT ⟨Tryd.prog,eU,t_showFunction,[],noP⟩ Tryd.f36 an_showFunction [(.st .Func)] [.bo] a0_f KK:=by kernel_rfl
theorem c_showFunction:Cont Tryd.prog 36 C_showFunction:=k0 ⟨Tryd.prog,eU,t_showFunction,[],noP⟩ (En.okc c_typed (En.okc c_Name (En.okc c_kind (En.okc c_block En.ok0)))) mixed (fn:=Tryd.f36) an_showFunction (by kernel_rfl) (by kernel_rfl) (fun a0_f KK h=>Eq.mp (walk_showFunction a0_f KK) (law_showFunction a0_f KK h))
def C_showRight:CKt:=pureT0 [(.st .Program)] [.bo] (fun x=>Lt.showRight x)
def an_showRight:An:=.s .l (.s (.j ⟨[1],[.loc 1],[],[.sl 30 .bo]⟩ .l (.c (.s .l .l) .l)) (.s (.s .l (.b (.lp ⟨[1,32,33],[.loc 1],[],[.sl 34 (.i .i64)]⟩ (.s .l (.s (.c .l .l) (.s (.b (.s .l (.j ⟨[1,32,33,34],[.loc 1],[],[.sl 47 .bo]⟩ .l (.c (.s .l .l) .l)))) .l)))))) (.s (.s .l (.b (.lp ⟨[1,50,51],[.loc 1],[],[.sl 52 (.i .i64)]⟩ (.s .l (.s (.c .l .l) (.s (.b (.s .l (.j ⟨[1,50,51,52],[.loc 1],[],[.sl 69 .bo]⟩ .l (.c (.s .l .l) .l)))) .l)))))) (.s (.s .l (.b (.lp ⟨[72,73],[],[],[.sl 74 (.i .i64)]⟩ (.s .l (.s (.c .l .l) (.s (.b (.s .l (.s .l (.c (.s .l .l) .l)))) .l)))))) (.s .l .l)))))
abbrev t_showRight:CTt:=[(34,C_typed),(35,C_Name),(36,C_showFunction)]
theorem walk_showRight (a0_p:Lt.Program) (KK:Bool->Prop):F_showRight a0_p KK=bodyT ⟨Tryd.prog,eU,t_showRight,[],noP⟩ Tryd.f12 an_showRight [(.st .Program)] [.bo] a0_p KK:=by kernel_rfl
theorem c_showRight:Cont Tryd.prog 12 C_showRight:=k0 ⟨Tryd.prog,eU,t_showRight,[],noP⟩ (En.okc c_typed (En.okc c_Name (En.okc c_showFunction En.ok0))) mixed (fn:=Tryd.f12) an_showRight (by kernel_rfl) (by kernel_rfl) (fun a0_p KK h=>Eq.mp (walk_showRight a0_p KK) (law_showRight a0_p KK h))
def C_sheetLine:CKt:=ptrT [.ow [.fr,.fr]] (.st .Sheet) [(.sl .s)] [] (fun x y=>Lt.preLine x y) (fun x y=>Lt.sheetLine x y)
def an_sheetLine:An:=.l
theorem walk_sheetLine (a0_s:Lt.Sheet) (a1_words:List (List UInt8)) (KK:((Unit)×Lt.Sheet)->Prop):F_sheetLine a0_s a1_words KK=bodyPT ⟨Tryd.prog,eU,[],[],noP⟩ Tryd.f28 an_sheetLine [.ow [.fr,.fr]] (.st .Sheet) [(.sl .s)] [] a0_s a1_words KK:=by kernel_rfl
theorem c_sheetLine:Cont Tryd.prog 28 C_sheetLine:=k2 ⟨Tryd.prog,eU,[],[],noP⟩ En.ok0 mixed (fn:=Tryd.f28) an_sheetLine (by kernel_rfl) (by kernel_rfl) (fun a0_s a1_words hp KK h=>Eq.mp (walk_sheetLine a0_s a1_words KK) (law_sheetLine a0_s a1_words hp KK h))
def C_sheetVars:CKt:=ptrT [.ow [.fr,.fr]] (.st .Sheet) [.s,(.sl (.st .Var))] [] (fun x y=>Lt.preVars x y.1 y.2) (fun x y=>Lt.sheetVars x y.1 y.2)
def an_sheetVars:An:=.s .l (.b (.lp ⟨[0,1,8,9],[],[],[.sl 10 (.i .i64),.rt (.out 0) [.ow [.fr,.fr]] (.st .Sheet)]⟩ (.s .l (.s (.c .l .l) (.s (.b (.s .l .l)) .l)))))
abbrev t_sheetVars:CTt:=[(28,C_sheetLine)]
theorem walk_sheetVars (a0_s:Lt.Sheet) (a1_first:List UInt8) (a2_l:List Lt.Var) (KK:((Unit)×Lt.Sheet)->Prop):F_sheetVars a0_s a1_first a2_l KK=bodyPT ⟨Tryd.prog,eU,t_sheetVars,[],noP⟩ Tryd.f29 an_sheetVars [.ow [.fr,.fr]] (.st .Sheet) [.s,(.sl (.st .Var))] [] a0_s (a1_first,a2_l) KK:=by kernel_rfl
theorem c_sheetVars:Cont Tryd.prog 29 C_sheetVars:=k2 ⟨Tryd.prog,eU,t_sheetVars,[],noP⟩ (En.okc c_sheetLine En.ok0) mixed (fn:=Tryd.f29) an_sheetVars (by kernel_rfl) (by kernel_rfl) (fun a0_s (a1_first,a2_l) hp KK h=>Eq.mp (walk_sheetVars a0_s a1_first a2_l KK) (law_sheetVars a0_s a1_first a2_l hp KK h))
def C_number:CKt:=pureT [(.i .i64)] [.s] (fun x=>Lt.preNum x) (fun x=>Lt.number x)
def an_number:An:=.s .l (.s .l .l)
abbrev t_number:CTt:=[(50,C_numPut)]
theorem walk_number (a0_n:Int) (KK:(List UInt8)->Prop):F_number a0_n KK=bodyT ⟨Tryd.prog,eU,t_number,[],noP⟩ Tryd.f30 an_number [(.i .i64)] [.s] a0_n KK:=by kernel_rfl
theorem c_number:Cont Tryd.prog 30 C_number:=k1 ⟨Tryd.prog,eU,t_number,[],noP⟩ (En.okc c_numPut En.ok0) mixed (fn:=Tryd.f30) an_number (by kernel_rfl) (by kernel_rfl) (fun a0_n hp KK h=>Eq.mp (walk_number a0_n KK) (law_number a0_n hp KK h))
def C_floPut:CKt:=pureT0 [(.i .i64)] [.s] (fun x=>Lt.floPut x)
def an_floPut:An:=.s .l (.s .l (.s .l (.s (.s .l (.b (.lp ⟨[3],[],[],[.ow 4 [.fr] .b8,.sl 5 (.i .i64)]⟩ (.s (.s .l (.c .l .l)) (.s (.b .l) .l))))) (.s .l .l))))
abbrev t_floPut:CTt:=[(114,C_Plain)]
theorem walk_floPut (a0_n:Int) (KK:(List UInt8)->Prop):F_floPut a0_n KK=bodyT ⟨Tryd.prog,eU,t_floPut,[],noP⟩ Tryd.f78 an_floPut [(.i .i64)] [.s] a0_n KK:=by kernel_rfl
theorem c_floPut:Cont Tryd.prog 78 C_floPut:=k0 ⟨Tryd.prog,eU,t_floPut,[],noP⟩ (En.okc c_Plain En.ok0) mixed (fn:=Tryd.f78) an_floPut (by kernel_rfl) (by kernel_rfl) (fun a0_n KK h=>Eq.mp (walk_floPut a0_n KK) (law_floPut a0_n KK h))
def C_wordPut:CKt:=pureT [(.st .Arg)] [.s] (fun x=>Lt.prePut x) (fun x=>Lt.wordPut x)
def an_wordPut:An:=.s .l (.s (.s .l (.c (.s .l .l) .l)) (.s (.s .l (.b (.s .l (.c (.s .l .l) (.s .l (.c (.s .l .l) (.s .l (.c (.s .l .l) (.s .l (.c (.s .l .l) .l)))))))))) (.s .l .l)))
abbrev t_wordPut:CTt:=[(50,C_numPut),(77,C_wordRight),(78,C_floPut)]
theorem walk_wordPut (a0_a:Lt.Arg) (KK:(List UInt8)->Prop):F_wordPut a0_a KK=bodyT ⟨Tryd.prog,eU,t_wordPut,[],noP⟩ Tryd.f51 an_wordPut [(.st .Arg)] [.s] a0_a KK:=by kernel_rfl
theorem c_wordPut:Cont Tryd.prog 51 C_wordPut:=k1 ⟨Tryd.prog,eU,t_wordPut,[],noP⟩ (En.okc c_numPut (En.okc c_wordRight (En.okc c_floPut En.ok0))) mixed (fn:=Tryd.f51) an_wordPut (by kernel_rfl) (by kernel_rfl) (fun a0_a hp KK h=>Eq.mp (walk_wordPut a0_a KK) (law_wordPut a0_a hp KK h))
def C_puts:CKt:=pureT [(.sl (.st .Arg))] [(.sl .s)] (fun x=>Lt.prePuts x) (fun x=>Lt.puts x)
def an_puts:An:=.s .l (.s .l (.s (.s .l (.b (.lp ⟨[6,7],[],[],[.ow 3 [.fr] .s,.sl 8 (.i .i64)]⟩ (.s .l (.s (.c .l .l) (.s (.b (.s .l .l)) .l)))))) (.s .l .l)))
abbrev t_puts:CTt:=[(51,C_wordPut)]
theorem walk_puts (a0_l:List Lt.Arg) (KK:(List (List UInt8))->Prop):F_puts a0_l KK=bodyT ⟨Tryd.prog,eU,t_puts,[],noP⟩ Tryd.f79 an_puts [(.sl (.st .Arg))] [(.sl .s)] a0_l KK:=by kernel_rfl
theorem c_puts:Cont Tryd.prog 79 C_puts:=k1 ⟨Tryd.prog,eU,t_puts,[],noP⟩ (En.okc c_wordPut En.ok0) mixed (fn:=Tryd.f79) an_puts (by kernel_rfl) (by kernel_rfl) (fun a0_l hp KK h=>Eq.mp (walk_puts a0_l KK) (law_puts a0_l hp KK h))
def C_sheetCode:CKt:=ptrT [.ow [.fr,.fr]] (.st .Sheet) [(.st .Instr)] [] (fun x y=>Lt.preCode x y) (fun x y=>Lt.sheetCode x y)
def an_sheetCode:An:=.s .l (.s .l (.s .l (.j ⟨[0,3,4],[.loc 3,.loc 4,.out 0],[],[.ow 6 [.fr] .s]⟩ (.s .l (.c .l .l)) (.s .l (.s .l (.j ⟨[0,3],[.loc 3,.out 0],[],[.ow 6 [.fr] .s,.sl 7 (.sl .s)]⟩ (.b (.j ⟨[0,3,4,6,7],[.gh 32,.loc 3,.loc 4,.out 0],[],[.sl 36 .bo]⟩ .l (.c (.s .l .l) (.s .l (.c .l .l))))) (.s .l (.s (.s .l (.b (.lp ⟨[0,3,69,70],[.loc 3],[],[.sl 71 (.i .i64),.rt (.out 0) [.ow [.fr,.fr]] (.st .Sheet)]⟩ (.s .l (.s (.c .l .l) (.s (.b (.s .l (.j ⟨[0,3,9,69,70,71],[.loc 3,.loc 9,.out 0],[],[.ow 10 [.fr] .s]⟩ .l (.s (.s .l (.b (.lp ⟨[0,3,69,70,71,84,85],[.loc 3,.out 0],[],[.ow 10 [.fr] .s,.sl 86 (.i .i64)]⟩ (.s .l (.s (.c .l .l) (.j ⟨[0,3,69,70,71,84,85,86],[.loc 3,.out 0],[],[.ow 10 [.fr] .s]⟩ (.b (.s .l .l)) .l)))))) .l)))) .l)))))) (.s .l (.b (.lp ⟨[0,104,105],[],[],[.sl 106 (.i .i64),.rt (.out 0) [.ow [.fr,.fr]] (.st .Sheet)]⟩ (.s .l (.s (.c .l .l) (.j ⟨[0,104,105,106],[],[],[.rt (.out 0) [.ow [.fr,.fr]] (.st .Sheet)]⟩ (.b (.s .l .l)) .l))))))))))))))
abbrev t_sheetCode:CTt:=[(13,C_Of),(28,C_sheetLine),(30,C_number),(51,C_wordPut),(79,C_puts)]
theorem walk_sheetCode (a0_s:Lt.Sheet) (a1_i:Lt.Instr) (KK:((Unit)×Lt.Sheet)->Prop):F_sheetCode a0_s a1_i KK=bodyPT ⟨Tryd.prog,eU,t_sheetCode,[],noP⟩ Tryd.f52 an_sheetCode [.ow [.fr,.fr]] (.st .Sheet) [(.st .Instr)] [] a0_s a1_i KK:=by kernel_rfl
theorem c_sheetCode:Cont Tryd.prog 52 C_sheetCode:=k2 ⟨Tryd.prog,eU,t_sheetCode,[],noP⟩ (En.okc c_Of (En.okc c_sheetLine (En.okc c_number (En.okc c_wordPut (En.okc c_puts En.ok0))))) mixed (fn:=Tryd.f52) an_sheetCode (by kernel_rfl) (by kernel_rfl) (fun a0_s a1_i hp KK h=>Eq.mp (walk_sheetCode a0_s a1_i KK) (law_sheetCode a0_s a1_i hp KK h))
def C_sheetEnd:CKt:=ptrT [.ow [.fr,.fr]] (.st .Sheet) [(.st .Term)] [] (fun x y=>Lt.preEnd x y) (fun x y=>Lt.sheetEnd x y)
def an_sheetEnd:An:=.s .l (.s .l (.b (.s .l (.c .l (.s .l (.c .l (.s .l (.c .l .l))))))))
abbrev t_sheetEnd:CTt:=[(28,C_sheetLine),(50,C_numPut),(51,C_wordPut)]
theorem walk_sheetEnd (a0_s:Lt.Sheet) (a1_t:Lt.Term) (KK:((Unit)×Lt.Sheet)->Prop):F_sheetEnd a0_s a1_t KK=bodyPT ⟨Tryd.prog,eU,t_sheetEnd,[],noP⟩ Tryd.f53 an_sheetEnd [.ow [.fr,.fr]] (.st .Sheet) [(.st .Term)] [] a0_s a1_t KK:=by kernel_rfl
theorem c_sheetEnd:Cont Tryd.prog 53 C_sheetEnd:=k2 ⟨Tryd.prog,eU,t_sheetEnd,[],noP⟩ (En.okc c_sheetLine (En.okc c_numPut (En.okc c_wordPut En.ok0))) mixed (fn:=Tryd.f53) an_sheetEnd (by kernel_rfl) (by kernel_rfl) (fun a0_s a1_t hp KK h=>Eq.mp (walk_sheetEnd a0_s a1_t KK) (law_sheetEnd a0_s a1_t hp KK h))
def C_sheetFunction:CKt:=ptrT [.ow [.fr,.fr]] (.st .Sheet) [(.st .Func)] [] (fun x y=>Lt.preFunction x y) (fun x y=>Lt.sheetFunction x y)
def an_sheetFunction:An:=.s .l (.s .l (.s .l (.s .l (.s .l (.b (.lp ⟨[0,29,30],[],[],[.sl 31 (.i .i64),.rt (.out 0) [.ow [.fr,.fr]] (.st .Sheet)]⟩ (.s .l (.s (.c .l .l) (.s (.b (.s .l (.s .l (.s (.s .l (.b (.lp ⟨[0,5,29,30,31,41,42],[.loc 5],[],[.sl 43 (.i .i64),.rt (.out 0) [.ow [.fr,.fr]] (.st .Sheet)]⟩ (.s .l (.s (.c .l .l) (.s (.b (.s .l (.s .l (.s (.s .l (.b (.lp ⟨[0,5,29,30,31,41,42,43,51,52],[.loc 5,.out 0],[],[.ow 8 [.fr] .s,.sl 53 (.i .i64)]⟩ (.s .l (.s (.c .l .l) (.j ⟨[0,5,29,30,31,41,42,43,51,52,53],[.loc 5,.out 0],[],[.ow 8 [.fr] .s]⟩ (.b (.s .l .l)) .l)))))) .l)))) .l)))))) (.s (.s .l (.b (.lp ⟨[0,5,29,30,31,71,72],[.loc 5],[],[.sl 73 (.i .i64),.rt (.out 0) [.ow [.fr,.fr]] (.st .Sheet)]⟩ (.s .l (.s (.c .l .l) (.s (.b (.s .l .l)) .l)))))) .l))))) .l)))))))))
abbrev t_sheetFunction:CTt:=[(28,C_sheetLine),(29,C_sheetVars),(51,C_wordPut),(52,C_sheetCode),(53,C_sheetEnd)]
theorem walk_sheetFunction (a0_s:Lt.Sheet) (a1_f:Lt.Func) (KK:((Unit)×Lt.Sheet)->Prop):F_sheetFunction a0_s a1_f KK=bodyPT ⟨Tryd.prog,eU,t_sheetFunction,[],noP⟩ Tryd.f31 an_sheetFunction [.ow [.fr,.fr]] (.st .Sheet) [(.st .Func)] [] a0_s a1_f KK:=by kernel_rfl
theorem c_sheetFunction:Cont Tryd.prog 31 C_sheetFunction:=k2 ⟨Tryd.prog,eU,t_sheetFunction,[],noP⟩ (En.okc c_sheetLine (En.okc c_sheetVars (En.okc c_wordPut (En.okc c_sheetCode (En.okc c_sheetEnd En.ok0))))) mixed (fn:=Tryd.f31) an_sheetFunction (by kernel_rfl) (by kernel_rfl) (fun a0_s a1_f hp KK h=>Eq.mp (walk_sheetFunction a0_s a1_f KK) (law_sheetFunction a0_s a1_f hp KK h))
def C_showText:CKt:=pureT [(.st .Program)] [.s,(.i .i64)] (fun x=>Lt.preText x) (fun x=>Lt.showText x)
def an_showText:An:=.s .l (.s (.s .l (.c (.s .l .l) .l)) (.s .l (.j ⟨[1,4],[.loc 1],[],[.rt (.loc 16) [.ow [.fr,.fr]] (.st .Sheet)]⟩ (.s .l (.c .l .l)) (.s (.s .l (.b (.lp ⟨[1,4,23,24],[.loc 1],[],[.sl 25 (.i .i64),.rt (.loc 16) [.ow [.fr,.fr]] (.st .Sheet)]⟩ (.s .l (.s (.c .l .l) (.s (.b (.s .l (.s .l .l))) .l)))))) (.s .l (.s (.s .l (.b (.lp ⟨[1,4,44,45],[.loc 1],[],[.sl 46 (.i .i64),.rt (.loc 16) [.ow [.fr,.fr]] (.st .Sheet)]⟩ (.s .l (.s (.c .l .l) (.j ⟨[1,4,44,45,46],[.loc 1],[],[.rt (.loc 16) [.ow [.fr,.fr]] (.st .Sheet)]⟩ (.b (.s .l .l)) .l)))))) (.s (.s .l (.b (.lp ⟨[4,60,61],[],[],[.sl 62 (.i .i64),.rt (.loc 16) [.ow [.fr,.fr]] (.st .Sheet)]⟩ (.s .l (.s (.c .l .l) (.s (.b (.s .l .l)) .l)))))) (.s .l (.s (.s .l (.c (.s .l .l) .l)) (.s .l .l))))))))))
abbrev t_showText:CTt:=[(12,C_showRight),(24,C_Join),(28,C_sheetLine),(29,C_sheetVars),(30,C_number),(31,C_sheetFunction)]
theorem walk_showText (a0_p:Lt.Program) (KK:(List UInt8×Int)->Prop):F_showText a0_p KK=bodyT ⟨Tryd.prog,eU,t_showText,[],noP⟩ Tryd.f10 an_showText [(.st .Program)] [.s,(.i .i64)] a0_p KK:=by kernel_rfl
theorem c_showText:Cont Tryd.prog 10 C_showText:=k1 ⟨Tryd.prog,eU,t_showText,[],noP⟩ (En.okc c_showRight (En.okc c_Join (En.okc c_sheetLine (En.okc c_sheetVars (En.okc c_number (En.okc c_sheetFunction En.ok0)))))) mixed (fn:=Tryd.f10) an_showText (by kernel_rfl) (by kernel_rfl) (fun a0_p hp KK h=>Eq.mp (walk_showText a0_p KK) (law_showText a0_p hp KK h))
def C_example6:CKt:=pureT0 [(.st .Term)] [(.st .Program)] (fun x=>Lt.example6 x)
def an_example6:An:=.s .l (.s .l .l)
theorem walk_example6 (a0_end:Lt.Term) (KK:Lt.Program->Prop):F_example6 a0_end KK=bodyT ⟨Tryd.prog,eU,[],[],noP⟩ Tryd.f25 an_example6 [(.st .Term)] [(.st .Program)] a0_end KK:=by kernel_rfl
theorem c_example6:Cont Tryd.prog 25 C_example6:=k0 ⟨Tryd.prog,eU,[],[],noP⟩ En.ok0 mixed (fn:=Tryd.f25) an_example6 (by kernel_rfl) (by kernel_rfl) (fun a0_end KK h=>Eq.mp (walk_example6 a0_end KK) (law_example6 a0_end KK h))
def C_awake:CKt:=pureT0 [] [.bo] (fun x=>Lt.awake )
def an_awake:An:=.s .l (.s .l (.s .l (.j ⟨[],[],[],[.sl 0 .bo]⟩ .l .l)))
abbrev t_awake:CTt:=[(10,C_showText),(25,C_example6)]
theorem walk_awake (KK:Bool->Prop):F_awake KK=bodyT ⟨Tryd.prog,eU,t_awake,[],noP⟩ Tryd.f8 an_awake [] [.bo] () KK:=by kernel_rfl
theorem c_awake:Cont Tryd.prog 8 C_awake:=k0 ⟨Tryd.prog,eU,t_awake,[],noP⟩ (En.okc c_showText (En.okc c_example6 En.ok0)) mixed (fn:=Tryd.f8) an_awake (by kernel_rfl) (by kernel_rfl) (fun _ KK h=>Eq.mp (walk_awake KK) (law_awake KK h))
def C_countVars:CKt:=pureT0 [(.sl (.st .Var)),(.i .i64)] [(.i .i64)] (fun x=>Lt.countVars x.1 x.2)
def an_countVars:An:=.s .l (.s (.s .l (.c (.s .l .l) .l)) (.s .l (.s (.s .l (.b (.lp ⟨[0,1],[],[],[.sl 5 (.i .i64),.sl 6 (.i .i64)]⟩ (.s (.j ⟨[0,1,5,6],[],[],[.sl 23 .bo]⟩ .l (.c .l .l)) (.j ⟨[0,1,6],[],[],[.sl 5 (.i .i64)]⟩ (.b (.s .l (.s .l (.c .l .l)))) .l))))) (.s .l .l))))
theorem walk_countVars (a0_l:List Lt.Var) (a1_most:Int) (KK:Int->Prop):F_countVars a0_l a1_most KK=bodyT ⟨Tryd.prog,eU,[],[],noP⟩ Tryd.f26 an_countVars [(.sl (.st .Var)),(.i .i64)] [(.i .i64)] (a0_l,a1_most) KK:=by kernel_rfl
theorem c_countVars:Cont Tryd.prog 26 C_countVars:=k0 ⟨Tryd.prog,eU,[],[],noP⟩ En.ok0 mixed (fn:=Tryd.f26) an_countVars (by kernel_rfl) (by kernel_rfl) (fun (a0_l,a1_most) KK h=>Eq.mp (walk_countVars a0_l a1_most KK) (law_countVars a0_l a1_most KK h))
def C_countArgs:CKt:=pureT0 [(.sl (.st .Arg)),(.i .i64)] [(.i .i64)] (fun x=>Lt.countArgs x.1 x.2)
def an_countArgs:An:=.s .l (.s (.s .l (.c (.s .l .l) .l)) (.s .l (.s (.s .l (.b (.lp ⟨[0,1],[],[],[.sl 5 (.i .i64),.sl 6 (.i .i64)]⟩ (.s (.j ⟨[0,1,5,6],[],[],[.sl 23 .bo]⟩ .l (.c .l .l)) (.s (.b .l) .l))))) (.s .l .l))))
theorem walk_countArgs (a0_l:List Lt.Arg) (a1_most:Int) (KK:Int->Prop):F_countArgs a0_l a1_most KK=bodyT ⟨Tryd.prog,eU,[],[],noP⟩ Tryd.f113 an_countArgs [(.sl (.st .Arg)),(.i .i64)] [(.i .i64)] (a0_l,a1_most) KK:=by kernel_rfl
theorem c_countArgs:Cont Tryd.prog 113 C_countArgs:=k0 ⟨Tryd.prog,eU,[],[],noP⟩ En.ok0 mixed (fn:=Tryd.f113) an_countArgs (by kernel_rfl) (by kernel_rfl) (fun (a0_l,a1_most) KK h=>Eq.mp (walk_countArgs a0_l a1_most KK) (law_countArgs a0_l a1_most KK h))
def C_countInstr:CKt:=pureT [(.st .Instr),(.i .i64)] [(.i .i64)] (fun x=>Lt.preCI x.1 x.2) (fun x=>Lt.countInstr x.1 x.2)
def an_countInstr:An:=.s .l (.s (.j ⟨[1,2],[.loc 2],[],[.sl 20 .bo]⟩ .l (.c (.s .l .l) .l)) (.s .l (.j ⟨[1,2],[.loc 2],[],[.sl 5 (.i .i64)]⟩ (.s .l (.c .l .l)) (.j ⟨[1,2],[.loc 2],[],[.sl 5 (.i .i64)]⟩ (.s .l (.c .l .l)) (.s (.s .l (.b (.lp ⟨[1,2],[.loc 2],[],[.sl 5 (.i .i64),.sl 6 (.i .i64)]⟩ (.s (.j ⟨[1,2,5,6],[.loc 2],[],[.sl 61 .bo]⟩ .l (.c .l .l)) (.s (.b (.s .l (.j ⟨[1,2,6],[.loc 2],[],[.sl 5 (.i .i64)]⟩ (.s .l (.c .l .l)) (.s .l (.b (.lp ⟨[1,2,6],[.loc 2],[],[.sl 5 (.i .i64),.sl 7 (.i .i64)]⟩ (.s (.j ⟨[1,2,5,6,7],[.loc 2],[],[.sl 98 .bo]⟩ .l (.c .l .l)) (.j ⟨[1,2,6,7],[.loc 2],[],[.sl 5 (.i .i64)]⟩ (.b (.s .l (.s .l (.c .l .l)))) .l)))))))) .l))))) (.s (.s .l (.b (.lp ⟨[1,2],[.loc 2],[],[.sl 5 (.i .i64),.sl 8 (.i .i64)]⟩ (.s (.j ⟨[1,2,5,8],[.loc 2],[],[.sl 141 .bo]⟩ .l (.c .l .l)) (.j ⟨[1,2,8],[.loc 2],[],[.sl 5 (.i .i64)]⟩ (.b (.s .l (.s .l (.c .l .l)))) .l))))) (.s .l .l)))))))
abbrev t_countInstr:CTt:=[(113,C_countArgs)]
theorem walk_countInstr (a0_x:Lt.Instr) (a1_most:Int) (KK:Int->Prop):F_countInstr a0_x a1_most KK=bodyT ⟨Tryd.prog,eU,t_countInstr,[],noP⟩ Tryd.f75 an_countInstr [(.st .Instr),(.i .i64)] [(.i .i64)] (a0_x,a1_most) KK:=by kernel_rfl
theorem c_countInstr:Cont Tryd.prog 75 C_countInstr:=k1 ⟨Tryd.prog,eU,t_countInstr,[],noP⟩ (En.okc c_countArgs En.ok0) mixed (fn:=Tryd.f75) an_countInstr (by kernel_rfl) (by kernel_rfl) (fun (a0_x,a1_most) hp KK h=>Eq.mp (walk_countInstr a0_x a1_most KK) (law_countInstr a0_x a1_most hp KK h))
def C_countBlock:CKt:=pureT [(.st .Block),(.i .i64)] [(.i .i64)] (fun x=>Lt.preCB x.1 x.2) (fun x=>Lt.countBlock x.1 x.2)
def an_countBlock:An:=.s .l (.s (.j ⟨[1,2],[.loc 2],[],[.sl 29 .bo]⟩ .l (.c (.s .l .l) .l)) (.s .l (.j ⟨[1,2],[.loc 2],[],[.sl 5 (.i .i64)]⟩ (.s .l (.c .l .l)) (.s (.s .l (.b (.lp ⟨[1,2],[.loc 2],[],[.sl 5 (.i .i64),.sl 6 (.i .i64)]⟩ (.s (.j ⟨[1,2,5,6],[.loc 2],[],[.sl 56 .bo]⟩ .l (.c .l .l)) (.s (.b .l) .l))))) (.s (.s .l (.b (.lp ⟨[1,2],[.loc 2],[],[.sl 5 (.i .i64),.sl 7 (.i .i64)]⟩ (.s (.j ⟨[1,2,5,7],[.loc 2],[],[.sl 78 .bo]⟩ .l (.c .l .l)) (.s (.b (.s .l (.s .l (.b (.lp ⟨[1,2,7],[.loc 2],[],[.sl 5 (.i .i64),.sl 8 (.i .i64)]⟩ (.s (.j ⟨[1,2,5,7,8],[.loc 2],[],[.sl 104 .bo]⟩ .l (.c .l .l)) (.j ⟨[1,2,7,8],[.loc 2],[],[.sl 5 (.i .i64)]⟩ (.b (.s .l (.s .l (.c .l .l)))) .l))))))) .l))))) (.s (.s .l (.b (.lp ⟨[1,2],[.loc 2],[],[.sl 5 (.i .i64),.sl 9 (.i .i64)]⟩ (.s (.j ⟨[1,2,5,9],[.loc 2],[],[.sl 147 .bo]⟩ .l (.c .l .l)) (.s (.b .l) .l))))) (.s .l .l)))))))
abbrev t_countBlock:CTt:=[(75,C_countInstr)]
theorem walk_countBlock (a0_b:Lt.Block) (a1_most:Int) (KK:Int->Prop):F_countBlock a0_b a1_most KK=bodyT ⟨Tryd.prog,eU,t_countBlock,[],noP⟩ Tryd.f49 an_countBlock [(.st .Block),(.i .i64)] [(.i .i64)] (a0_b,a1_most) KK:=by kernel_rfl
theorem c_countBlock:Cont Tryd.prog 49 C_countBlock:=k1 ⟨Tryd.prog,eU,t_countBlock,[],noP⟩ (En.okc c_countInstr En.ok0) mixed (fn:=Tryd.f49) an_countBlock (by kernel_rfl) (by kernel_rfl) (fun (a0_b,a1_most) hp KK h=>Eq.mp (walk_countBlock a0_b a1_most KK) (law_countBlock a0_b a1_most hp KK h))
def C_FewFunc:CKt:=pureT [(.st .Func),(.i .i64)] [(.i .i64)] (fun x=>Lt.preFF x.1 x.2) (fun x=>Lt.FewFunc x.1 x.2)
def an_FewFunc:An:=.s .l (.s (.s .l (.c (.s .l .l) .l)) (.s .l (.j ⟨[1,2],[.loc 2],[],[.sl 5 (.i .i64)]⟩ (.s .l (.c .l .l)) (.j ⟨[1,2],[.loc 2],[],[.sl 5 (.i .i64)]⟩ (.s .l (.c .l .l)) (.j ⟨[1,2],[.loc 2],[],[.sl 5 (.i .i64)]⟩ (.s .l (.c .l .l)) (.s (.s .l (.b (.lp ⟨[1,2],[.loc 2],[],[.sl 5 (.i .i64),.sl 6 (.i .i64)]⟩ (.s (.j ⟨[1,2,5,6],[.loc 2],[],[.sl 53 .bo]⟩ .l (.c .l .l)) (.s (.b .l) .l))))) (.s .l .l)))))))
abbrev t_FewFunc:CTt:=[(26,C_countVars),(49,C_countBlock)]
theorem walk_FewFunc (a0_f:Lt.Func) (a1_most:Int) (KK:Int->Prop):F_FewFunc a0_f a1_most KK=bodyT ⟨Tryd.prog,eU,t_FewFunc,[],noP⟩ Tryd.f27 an_FewFunc [(.st .Func),(.i .i64)] [(.i .i64)] (a0_f,a1_most) KK:=by kernel_rfl
theorem c_FewFunc:Cont Tryd.prog 27 C_FewFunc:=k1 ⟨Tryd.prog,eU,t_FewFunc,[],noP⟩ (En.okc c_countVars (En.okc c_countBlock En.ok0)) mixed (fn:=Tryd.f27) an_FewFunc (by kernel_rfl) (by kernel_rfl) (fun (a0_f,a1_most) hp KK h=>Eq.mp (walk_FewFunc a0_f a1_most KK) (law_FewFunc a0_f a1_most hp KK h))
def C_Few:CKt:=pureT [(.st .Program),(.i .i64)] [.bo] (fun x=>Lt.preFew x.1 x.2) (fun x=>Lt.Few x.1 x.2)
def an_Few:An:=.s .l (.s (.j ⟨[1,2],[.loc 2],[],[.sl 24 .bo]⟩ .l (.c (.s .l .l) .l)) (.s .l (.s (.s .l (.b (.lp ⟨[1,2],[.loc 2],[],[.sl 5 (.i .i64),.sl 6 (.i .i64)]⟩ (.s (.j ⟨[1,2,5,6],[.loc 2],[],[.sl 38 .bo]⟩ .l (.c .l .l)) (.j ⟨[1,2,6],[.loc 2],[],[.sl 5 (.i .i64)]⟩ (.b (.s .l (.s .l (.c .l .l)))) .l))))) (.s (.s .l (.b (.lp ⟨[1,2],[.loc 2],[],[.sl 5 (.i .i64),.sl 7 (.i .i64)]⟩ (.s (.j ⟨[1,2,5,7],[.loc 2],[],[.sl 72 .bo]⟩ .l (.c .l .l)) (.s (.b .l) .l))))) (.s (.s .l (.b (.lp ⟨[1,2],[.loc 2],[],[.sl 5 (.i .i64),.sl 8 (.i .i64)]⟩ (.s (.j ⟨[1,2,5,8],[.loc 2],[],[.sl 94 .bo]⟩ .l (.c .l .l)) (.s (.b .l) .l))))) (.s .l .l))))))
abbrev t_Few:CTt:=[(26,C_countVars),(27,C_FewFunc)]
theorem walk_Few (a0_p:Lt.Program) (a1_most:Int) (KK:Bool->Prop):F_Few a0_p a1_most KK=bodyT ⟨Tryd.prog,eU,t_Few,[],noP⟩ Tryd.f9 an_Few [(.st .Program),(.i .i64)] [.bo] (a0_p,a1_most) KK:=by kernel_rfl
theorem c_Few:Cont Tryd.prog 9 C_Few:=k1 ⟨Tryd.prog,eU,t_Few,[],noP⟩ (En.okc c_countVars (En.okc c_FewFunc En.ok0)) mixed (fn:=Tryd.f9) an_Few (by kernel_rfl) (by kernel_rfl) (fun (a0_p,a1_most) hp KK h=>Eq.mp (walk_Few a0_p a1_most KK) (law_Few a0_p a1_most hp KK h))
def C_sameVars:CKt:=pureT0 [(.sl (.st .Var)),(.sl (.st .Var))] [.bo] (fun x=>Lt.sameVars x.1 x.2)
def an_sameVars:An:=.s .l (.s (.s .l (.c (.s .l .l) .l)) (.s (.s .l (.b (.lp ⟨[0,1],[],[],[.sl 5 (.i .i64)]⟩ (.s (.s .l (.c .l .l)) (.s (.b (.s .l (.c (.s .l .l) .l))) .l))))) (.s .l .l)))
theorem walk_sameVars (a0_a:List Lt.Var) (a1_b:List Lt.Var) (KK:Bool->Prop):F_sameVars a0_a a1_b KK=bodyT ⟨Tryd.prog,eU,[],[],noP⟩ Tryd.f41 an_sameVars [(.sl (.st .Var)),(.sl (.st .Var))] [.bo] (a0_a,a1_b) KK:=by kernel_rfl
theorem c_sameVars:Cont Tryd.prog 41 C_sameVars:=k0 ⟨Tryd.prog,eU,[],[],noP⟩ En.ok0 mixed (fn:=Tryd.f41) an_sameVars (by kernel_rfl) (by kernel_rfl) (fun (a0_a,a1_b) KK h=>Eq.mp (walk_sameVars a0_a a1_b KK) (law_sameVars a0_a a1_b KK h))
def C_sameArgs:CKt:=pureT0 [(.sl (.st .Arg)),(.sl (.st .Arg))] [.bo] (fun x=>Lt.sameArgs x.1 x.2)
def an_sameArgs:An:=.s .l (.s (.s .l (.c (.s .l .l) .l)) (.s (.s .l (.b (.lp ⟨[0,1],[],[],[.sl 5 (.i .i64)]⟩ (.s (.s .l (.c .l .l)) (.s (.b (.s .l (.c (.s .l .l) .l))) .l))))) (.s .l .l)))
theorem walk_sameArgs (a0_a:List Lt.Arg) (a1_b:List Lt.Arg) (KK:Bool->Prop):F_sameArgs a0_a a1_b KK=bodyT ⟨Tryd.prog,eU,[],[],noP⟩ Tryd.f131 an_sameArgs [(.sl (.st .Arg)),(.sl (.st .Arg))] [.bo] (a0_a,a1_b) KK:=by kernel_rfl
theorem c_sameArgs:Cont Tryd.prog 131 C_sameArgs:=k0 ⟨Tryd.prog,eU,[],[],noP⟩ En.ok0 mixed (fn:=Tryd.f131) an_sameArgs (by kernel_rfl) (by kernel_rfl) (fun (a0_a,a1_b) KK h=>Eq.mp (walk_sameArgs a0_a a1_b KK) (law_sameArgs a0_a a1_b KK h))
def C_SameInstr:CKt:=pureT0 [(.st .Instr),(.st .Instr)] [.bo] (fun x=>Lt.SameInstr x.1 x.2)
def an_SameInstr:An:=.s .l (.s (.j ⟨[2,3],[.loc 2,.loc 3],[],[.sl 54 .bo]⟩ .l (.c (.s .l .l) .l)) (.s (.s .l (.b (.lp ⟨[2,3],[.loc 2,.loc 3],[],[.sl 5 (.i .i64)]⟩ (.s (.s .l (.c .l .l)) (.s (.b (.s .l (.s .l (.s (.j ⟨[2,3,5,6,7],[.loc 2,.loc 3,.loc 6,.loc 7],[],[.sl 99 .bo]⟩ .l (.c (.s .l .l) .l)) (.s .l (.b (.lp ⟨[2,3,5,6,7],[.loc 2,.loc 3,.loc 6,.loc 7],[],[.sl 8 (.i .i64)]⟩ (.s (.s .l (.c .l .l)) (.s (.b (.s .l (.c (.s .l .l) .l))) .l))))))))) .l))))) (.s (.s .l (.b (.lp ⟨[2,3],[.loc 2,.loc 3],[],[.sl 9 (.i .i64)]⟩ (.s (.s .l (.c .l .l)) (.s (.b (.j ⟨[2,3,9],[.loc 2,.loc 3],[],[.sl 153 .bo]⟩ .l (.c (.s .l .l) .l))) .l))))) (.s .l .l))))
abbrev t_SameInstr:CTt:=[(131,C_sameArgs)]
theorem walk_SameInstr (a0_a:Lt.Instr) (a1_b:Lt.Instr) (KK:Bool->Prop):F_SameInstr a0_a a1_b KK=bodyT ⟨Tryd.prog,eU,t_SameInstr,[],noP⟩ Tryd.f107 an_SameInstr [(.st .Instr),(.st .Instr)] [.bo] (a0_a,a1_b) KK:=by kernel_rfl
theorem c_SameInstr:Cont Tryd.prog 107 C_SameInstr:=k0 ⟨Tryd.prog,eU,t_SameInstr,[],noP⟩ (En.okc c_sameArgs En.ok0) mixed (fn:=Tryd.f107) an_SameInstr (by kernel_rfl) (by kernel_rfl) (fun (a0_a,a1_b) KK h=>Eq.mp (walk_SameInstr a0_a a1_b KK) (law_SameInstr a0_a a1_b KK h))
def C_sameBlock:CKt:=pureT0 [(.st .Block),(.st .Block)] [.bo] (fun x=>Lt.sameBlock x.1 x.2)
def an_sameBlock:An:=.s .l (.s (.j ⟨[2,3],[.loc 2,.loc 3],[],[.sl 69 .bo]⟩ .l (.c (.s .l .l) .l)) (.s (.s .l (.b (.lp ⟨[2,3],[.loc 2,.loc 3],[],[.sl 5 (.i .i64)]⟩ (.s (.s .l (.c .l .l)) (.s (.b (.s .l (.c (.s .l .l) .l))) .l))))) (.s (.s .l (.b (.lp ⟨[2,3],[.loc 2,.loc 3],[],[.sl 6 (.i .i64)]⟩ (.s (.s .l (.c .l .l)) (.s (.b (.s (.j ⟨[2,3,6],[.loc 2,.loc 3],[],[.sl 127 .bo]⟩ .l (.c (.s .l .l) .l)) (.s .l (.b (.lp ⟨[2,3,6],[.loc 2,.loc 3],[],[.sl 7 (.i .i64)]⟩ (.s (.s .l (.c .l .l)) (.s (.b (.s .l (.c (.s .l .l) .l))) .l))))))) .l))))) (.s (.s .l (.b (.lp ⟨[2,3],[.loc 2,.loc 3],[],[.sl 8 (.i .i64)]⟩ (.s (.s .l (.c .l .l)) (.s (.b (.s .l (.c (.s .l .l) .l))) .l))))) (.s .l .l)))))
abbrev t_sameBlock:CTt:=[(107,C_SameInstr)]
theorem walk_sameBlock (a0_a:Lt.Block) (a1_b:Lt.Block) (KK:Bool->Prop):F_sameBlock a0_a a1_b KK=bodyT ⟨Tryd.prog,eU,t_sameBlock,[],noP⟩ Tryd.f70 an_sameBlock [(.st .Block),(.st .Block)] [.bo] (a0_a,a1_b) KK:=by kernel_rfl
theorem c_sameBlock:Cont Tryd.prog 70 C_sameBlock:=k0 ⟨Tryd.prog,eU,t_sameBlock,[],noP⟩ (En.okc c_SameInstr En.ok0) mixed (fn:=Tryd.f70) an_sameBlock (by kernel_rfl) (by kernel_rfl) (fun (a0_a,a1_b) KK h=>Eq.mp (walk_sameBlock a0_a a1_b KK) (law_sameBlock a0_a a1_b KK h))
def C_SameFunc:CKt:=pureT0 [(.st .Func),(.st .Func)] [.bo] (fun x=>Lt.SameFunc x.1 x.2)
def an_SameFunc:An:=.s .l (.s (.j ⟨[2,3],[.loc 2,.loc 3],[],[.sl 42 .bo]⟩ .l (.c (.s .l .l) .l)) (.s (.s .l (.b (.lp ⟨[2,3],[.loc 2,.loc 3],[],[.sl 5 (.i .i64)]⟩ (.s (.s .l (.c .l .l)) (.s (.b (.s .l (.c (.s .l .l) .l))) .l))))) (.s .l .l)))
abbrev t_SameFunc:CTt:=[(41,C_sameVars),(70,C_sameBlock)]
theorem walk_SameFunc (a0_a:Lt.Func) (a1_b:Lt.Func) (KK:Bool->Prop):F_SameFunc a0_a a1_b KK=bodyT ⟨Tryd.prog,eU,t_SameFunc,[],noP⟩ Tryd.f42 an_SameFunc [(.st .Func),(.st .Func)] [.bo] (a0_a,a1_b) KK:=by kernel_rfl
theorem c_SameFunc:Cont Tryd.prog 42 C_SameFunc:=k0 ⟨Tryd.prog,eU,t_SameFunc,[],noP⟩ (En.okc c_sameVars (En.okc c_sameBlock En.ok0)) mixed (fn:=Tryd.f42) an_SameFunc (by kernel_rfl) (by kernel_rfl) (fun (a0_a,a1_b) KK h=>Eq.mp (walk_SameFunc a0_a a1_b KK) (law_SameFunc a0_a a1_b KK h))
def C_Same:CKt:=pureT0 [(.st .Program),(.st .Program)] [.bo] (fun x=>Lt.Same x.1 x.2)
def an_Same:An:=.s .l (.s (.j ⟨[2,3],[.loc 2,.loc 3],[],[.sl 47 .bo]⟩ .l (.c (.s .l .l) .l)) (.s (.s .l (.b (.lp ⟨[2,3],[.loc 2,.loc 3],[],[.sl 5 (.i .i64)]⟩ (.s (.s .l (.c .l .l)) (.s (.b (.j ⟨[2,3,5],[.loc 2,.loc 3],[],[.sl 83 .bo]⟩ .l (.c (.s .l .l) .l))) .l))))) (.s (.s .l (.b (.lp ⟨[2,3],[.loc 2,.loc 3],[],[.sl 6 (.i .i64)]⟩ (.s (.s .l (.c .l .l)) (.s (.b (.s .l (.c (.s .l .l) .l))) .l))))) (.s (.s .l (.b (.lp ⟨[2,3],[.loc 2,.loc 3],[],[.sl 7 (.i .i64)]⟩ (.s (.s .l (.c .l .l)) (.s (.b (.s .l (.c (.s .l .l) .l))) .l))))) (.s .l .l)))))
abbrev t_Same:CTt:=[(41,C_sameVars),(42,C_SameFunc)]
theorem walk_Same (a0_a:Lt.Program) (a1_b:Lt.Program) (KK:Bool->Prop):F_Same a0_a a1_b KK=bodyT ⟨Tryd.prog,eU,t_Same,[],noP⟩ Tryd.f19 an_Same [(.st .Program),(.st .Program)] [.bo] (a0_a,a1_b) KK:=by kernel_rfl
theorem c_Same:Cont Tryd.prog 19 C_Same:=k0 ⟨Tryd.prog,eU,t_Same,[],noP⟩ (En.okc c_sameVars (En.okc c_SameFunc En.ok0)) mixed (fn:=Tryd.f19) an_Same (by kernel_rfl) (by kernel_rfl) (fun (a0_a,a1_b) KK h=>Eq.mp (walk_Same a0_a a1_b KK) (law_Same a0_a a1_b KK h))
def C_rPut:CKt:=ownT .b8 [(.sl .s)] (fun x y=>Lt.preRPut x y) (fun x y=>Lt.rPut x y)
def an_rPut:An:=.s .l (.s (.s .l (.b (.lp ⟨[1],[],[],[.ow 0 [.fr] .b8,.sl 5 (.i .i64)]⟩ (.s (.s .l (.c .l .l)) (.s (.b (.j ⟨[1,5],[],[],[.ow 0 [.fr] .b8]⟩ (.s .l (.c .l .l)) .l)) .l))))) (.s .l .l))
theorem walk_rPut (a0_out:List UInt8) (a1_l:List (List UInt8)) (KK:(List UInt8)->Prop):F_rPut a0_out a1_l KK=bodyOT ⟨Tryd.prog,eU,[],[],noP⟩ Tryd.f55 an_rPut .b8 [(.sl .s)] a0_out a1_l KK:=by kernel_rfl
theorem c_rPut:Cont Tryd.prog 55 C_rPut:=k3 ⟨Tryd.prog,eU,[],[],noP⟩ En.ok0 mixed (fn:=Tryd.f55) an_rPut (by kernel_rfl) (by kernel_rfl) (fun a0_out a1_l hp KK h=>Eq.mp (walk_rPut a0_out a1_l KK) (law_rPut a0_out a1_l hp KK h))
def C_rVars:CKt:=ownT .b8 [.s,(.sl (.st .Var))] (fun x y=>Lt.preRVars x y.1 y.2) (fun x y=>Lt.rVars x y.1 y.2)
def an_rVars:An:=.s .l (.s (.s .l (.b (.lp ⟨[1,2],[],[],[.ow 0 [.fr] .b8,.sl 7 (.i .i64)]⟩ (.s (.s .l (.c .l .l)) (.s (.b .l) .l))))) (.s .l .l))
abbrev t_rVars:CTt:=[(55,C_rPut)]
theorem walk_rVars (a0_out:List UInt8) (a1_first:List UInt8) (a2_l:List Lt.Var) (KK:(List UInt8)->Prop):F_rVars a0_out a1_first a2_l KK=bodyOT ⟨Tryd.prog,eU,t_rVars,[],noP⟩ Tryd.f56 an_rVars .b8 [.s,(.sl (.st .Var))] a0_out (a1_first,a2_l) KK:=by kernel_rfl
theorem c_rVars:Cont Tryd.prog 56 C_rVars:=k3 ⟨Tryd.prog,eU,t_rVars,[],noP⟩ (En.okc c_rPut En.ok0) mixed (fn:=Tryd.f56) an_rVars (by kernel_rfl) (by kernel_rfl) (fun a0_out (a1_first,a2_l) hp KK h=>Eq.mp (walk_rVars a0_out a1_first a2_l KK) (law_rVars a0_out a1_first a2_l hp KK h))
def C_rSize:CKt:=pureT0 [(.i .i64)] [(.i .u64)] (fun x=>Lt.rSize x)
def an_rSize:An:=.s .l (.s (.s .l (.c (.s .l .l) .l)) (.s .l .l))
theorem walk_rSize (a0_n:Int) (KK:Int->Prop):F_rSize a0_n KK=bodyT ⟨Tryd.prog,eU,[],[],noP⟩ Tryd.f82 an_rSize [(.i .i64)] [(.i .u64)] a0_n KK:=by kernel_rfl
theorem c_rSize:Cont Tryd.prog 82 C_rSize:=k0 ⟨Tryd.prog,eU,[],[],noP⟩ En.ok0 mixed (fn:=Tryd.f82) an_rSize (by kernel_rfl) (by kernel_rfl) (fun a0_n KK h=>Eq.mp (walk_rSize a0_n KK) (law_rSize a0_n KK h))
def C_rNum:CKt:=pureT [(.i .i64)] [.s] (fun x=>Lt.preNum x) (fun x=>Lt.rNum x)
def an_rNum:An:=.s .l (.s .l (.s .l (.j ⟨[0],[],[],[.ow 3 [.fr] .b8]⟩ (.b (.lp ⟨[0],[],[],[.ow 3 [.fr] .b8,.sl 4 (.i .u64)]⟩ (.b (.s .l (.s .l (.s .l (.c .l .l))))))) (.s (.s .l (.c (.s .l .l) .l)) (.s .l .l)))))
abbrev t_rNum:CTt:=[(82,C_rSize)]
theorem walk_rNum (a0_n:Int) (KK:(List UInt8)->Prop):F_rNum a0_n KK=bodyT ⟨Tryd.prog,eU,t_rNum,[],noP⟩ Tryd.f57 an_rNum [(.i .i64)] [.s] a0_n KK:=by kernel_rfl
theorem c_rNum:Cont Tryd.prog 57 C_rNum:=k1 ⟨Tryd.prog,eU,t_rNum,[],noP⟩ (En.okc c_rSize En.ok0) mixed (fn:=Tryd.f57) an_rNum (by kernel_rfl) (by kernel_rfl) (fun a0_n hp KK h=>Eq.mp (walk_rNum a0_n KK) (law_rNum a0_n hp KK h))
def C_rName:CKt:=pureT0 [.s] [.bo] (fun x=>Lt.rName x)
def an_rName:An:=.s .l (.s (.s .l (.b (.lp ⟨[0],[],[],[.sl 3 (.i .i64)]⟩ (.s (.s .l (.c .l .l)) (.s (.b (.s .l (.j ⟨[0,3,4],[],[],[.sl 5 .bo]⟩ .l (.j ⟨[0,3],[],[],[.sl 46 .bo]⟩ .l (.c (.s .l .l) .l))))) .l))))) (.j ⟨[],[],[],[.sl 2 .bo]⟩ .l .l))
theorem walk_rName (a0_s:List UInt8) (KK:Bool->Prop):F_rName a0_s KK=bodyT ⟨Tryd.prog,eU,[],[],noP⟩ Tryd.f119 an_rName [.s] [.bo] a0_s KK:=by kernel_rfl
theorem c_rName:Cont Tryd.prog 119 C_rName:=k0 ⟨Tryd.prog,eU,[],[],noP⟩ En.ok0 mixed (fn:=Tryd.f119) an_rName (by kernel_rfl) (by kernel_rfl) (fun a0_s KK h=>Eq.mp (walk_rName a0_s KK) (law_rName a0_s KK h))
def C_rIsNan:CKt:=pureT0 [(.i .i64)] [.bo] (fun x=>Lt.rIsNan x)
def an_rIsNan:An:=.s .l (.s .l (.s .l .l))
theorem walk_rIsNan (a0_n:Int) (KK:Bool->Prop):F_rIsNan a0_n KK=bodyT ⟨Tryd.prog,eU,[],[],noP⟩ Tryd.f147 an_rIsNan [(.i .i64)] [.bo] a0_n KK:=by kernel_rfl
theorem c_rIsNan:Cont Tryd.prog 147 C_rIsNan:=k0 ⟨Tryd.prog,eU,[],[],noP⟩ En.ok0 mixed (fn:=Tryd.f147) an_rIsNan (by kernel_rfl) (by kernel_rfl) (fun a0_n KK h=>Eq.mp (walk_rIsNan a0_n KK) (law_rIsNan a0_n KK h))
def C_rPlain:CKt:=pureT0 [(.i .i64)] [(.i .i64)] (fun x=>Lt.rPlain x)
def an_rPlain:An:=.s .l (.s (.s .l (.c (.s .l .l) .l)) (.s .l .l))
abbrev t_rPlain:CTt:=[(147,C_rIsNan)]
theorem walk_rPlain (a0_n:Int) (KK:Int->Prop):F_rPlain a0_n KK=bodyT ⟨Tryd.prog,eU,t_rPlain,[],noP⟩ Tryd.f120 an_rPlain [(.i .i64)] [(.i .i64)] a0_n KK:=by kernel_rfl
theorem c_rPlain:Cont Tryd.prog 120 C_rPlain:=k0 ⟨Tryd.prog,eU,t_rPlain,[],noP⟩ (En.okc c_rIsNan En.ok0) mixed (fn:=Tryd.f120) an_rPlain (by kernel_rfl) (by kernel_rfl) (fun a0_n KK h=>Eq.mp (walk_rPlain a0_n KK) (law_rPlain a0_n KK h))
def C_rRight:CKt:=pureT0 [(.st .Arg)] [.bo] (fun x=>Lt.rRight x)
def an_rRight:An:=.s .l (.s (.s .l (.c (.s .l .l) .l)) (.s (.j ⟨[1],[.loc 1],[],[.sl 26 .bo]⟩ .l (.c (.s .l .l) .l)) (.j ⟨[],[],[],[.sl 2 .bo]⟩ .l .l)))
abbrev t_rRight:CTt:=[(119,C_rName),(120,C_rPlain)]
theorem walk_rRight (a0_a:Lt.Arg) (KK:Bool->Prop):F_rRight a0_a KK=bodyT ⟨Tryd.prog,eU,t_rRight,[],noP⟩ Tryd.f83 an_rRight [(.st .Arg)] [.bo] a0_a KK:=by kernel_rfl
theorem c_rRight:Cont Tryd.prog 83 C_rRight:=k0 ⟨Tryd.prog,eU,t_rRight,[],noP⟩ (En.okc c_rName (En.okc c_rPlain En.ok0)) mixed (fn:=Tryd.f83) an_rRight (by kernel_rfl) (by kernel_rfl) (fun a0_a KK h=>Eq.mp (walk_rRight a0_a KK) (law_rRight a0_a KK h))
def C_rFlo:CKt:=pureT0 [(.i .i64)] [.s] (fun x=>Lt.rFlo x)
def an_rFlo:An:=.s .l (.s .l (.s .l (.s (.s .l (.b (.lp ⟨[],[],[],[.sl 3 (.i .u64),.ow 4 [.fr] .b8,.sl 5 (.i .i64)]⟩ (.s (.s .l (.c .l .l)) (.s (.b (.s .l (.j ⟨[3,4,5],[.gh 900004],[],[.sl 6 .b8]⟩ (.s .l (.c .l .l)) (.s .l .l)))) .l))))) (.s .l .l))))
abbrev t_rFlo:CTt:=[(120,C_rPlain)]
theorem walk_rFlo (a0_n:Int) (KK:(List UInt8)->Prop):F_rFlo a0_n KK=bodyT ⟨Tryd.prog,eU,t_rFlo,[],noP⟩ Tryd.f84 an_rFlo [(.i .i64)] [.s] a0_n KK:=by kernel_rfl
theorem c_rFlo:Cont Tryd.prog 84 C_rFlo:=k0 ⟨Tryd.prog,eU,t_rFlo,[],noP⟩ (En.okc c_rPlain En.ok0) mixed (fn:=Tryd.f84) an_rFlo (by kernel_rfl) (by kernel_rfl) (fun a0_n KK h=>Eq.mp (walk_rFlo a0_n KK) (law_rFlo a0_n KK h))
def C_rWord:CKt:=pureT [(.st .Arg)] [.s] (fun x=>Lt.prePut x) (fun x=>Lt.rWord x)
def an_rWord:An:=.s .l (.s (.s .l (.c (.s .l .l) .l)) (.s (.s .l (.c (.s .l .l) .l)) (.s (.s .l (.c (.s .l .l) .l)) (.s (.s .l (.c (.s .l .l) .l)) (.s (.s .l (.c (.s .l .l) .l)) (.s .l .l))))))
abbrev t_rWord:CTt:=[(57,C_rNum),(83,C_rRight),(84,C_rFlo)]
theorem walk_rWord (a0_a:Lt.Arg) (KK:(List UInt8)->Prop):F_rWord a0_a KK=bodyT ⟨Tryd.prog,eU,t_rWord,[],noP⟩ Tryd.f58 an_rWord [(.st .Arg)] [.s] a0_a KK:=by kernel_rfl
theorem c_rWord:Cont Tryd.prog 58 C_rWord:=k1 ⟨Tryd.prog,eU,t_rWord,[],noP⟩ (En.okc c_rNum (En.okc c_rRight (En.okc c_rFlo En.ok0))) mixed (fn:=Tryd.f58) an_rWord (by kernel_rfl) (by kernel_rfl) (fun a0_a hp KK h=>Eq.mp (walk_rWord a0_a KK) (law_rWord a0_a hp KK h))
def C_rOf:CKt:=pureT0 [(.i .i64)] [(.st .RForm),.bo] (fun x=>Lt.rOf x)
def an_rOf:An:=.s .l (.s (.j ⟨[0,2],[.loc 2],[],[.sl 10 .bo]⟩ .l (.c (.s .l .l) .l)) (.j ⟨[0,2],[.loc 2],[(4,.loc 4,0)],[.rt (.loc 4) [.fr,.fr,.fr,.fr,.fr] (.st .RForm)]⟩ .l (.j ⟨[2,4],[.loc 2],[],[.rt (.loc 4) [.fr,.fr,.fr,.fr,.fr] (.st .RForm)]⟩ (.s .l (.b (.j ⟨[2,4,48],[.loc 2,.loc 4],[],[.sl 51 .bo]⟩ (.s .l (.c .l (.s .l (.c .l (.s .l (.c .l (.s .l (.c .l (.s .l (.c .l .l)))))))))) (.c (.s .l .l) (.j ⟨[2,4,48],[.loc 2,.loc 4],[],[.sl 60 .bo]⟩ (.s .l (.c .l (.s .l (.c .l .l)))) (.c .l (.j ⟨[2,4],[.loc 2,.loc 4],[],[.sl 65 .bo]⟩ (.s .l (.c .l .l)) (.c .l (.s .l .l))))))))) (.s .l .l))))
theorem walk_rOf (a0_op:Int) (KK:(Lt.RForm×Bool)->Prop):F_rOf a0_op KK=bodyT ⟨Tryd.prog,eU,[],[],noP⟩ Tryd.f14 an_rOf [(.i .i64)] [(.st .RForm),.bo] a0_op KK:=by kernel_rfl
theorem c_rOf:Cont Tryd.prog 14 C_rOf:=k0 ⟨Tryd.prog,eU,[],[],noP⟩ En.ok0 mixed (fn:=Tryd.f14) an_rOf (by kernel_rfl) (by kernel_rfl) (fun a0_op KK h=>Eq.mp (walk_rOf a0_op KK) (law_rOf a0_op KK h))
def C_rArgs:CKt:=ownT .s [(.sl (.st .Arg))] (fun x y=>Lt.preRArgs x y) (fun x y=>Lt.rArgs x y)
def an_rArgs:An:=.s .l (.s (.s .l (.b (.lp ⟨[1],[],[],[.ow 0 [.fr] .s,.sl 5 (.i .i64)]⟩ (.s (.s .l (.c .l .l)) (.s (.b .l) .l))))) (.s .l .l))
abbrev t_rArgs:CTt:=[(58,C_rWord)]
theorem walk_rArgs (a0_l:List (List UInt8)) (a1_a:List Lt.Arg) (KK:(List (List UInt8))->Prop):F_rArgs a0_l a1_a KK=bodyOT ⟨Tryd.prog,eU,t_rArgs,[],noP⟩ Tryd.f85 an_rArgs .s [(.sl (.st .Arg))] a0_l a1_a KK:=by kernel_rfl
theorem c_rArgs:Cont Tryd.prog 85 C_rArgs:=k3 ⟨Tryd.prog,eU,t_rArgs,[],noP⟩ (En.okc c_rWord En.ok0) mixed (fn:=Tryd.f85) an_rArgs (by kernel_rfl) (by kernel_rfl) (fun a0_l a1_a hp KK h=>Eq.mp (walk_rArgs a0_l a1_a KK) (law_rArgs a0_l a1_a hp KK h))
def C_rCode:CKt:=ownT .b8 [(.st .Instr)] (fun x y=>Lt.preRCode x y) (fun x y=>Lt.rCode x y)
def an_rCode:An:=.s .l (.s .l (.s .l (.j ⟨[0,3,5],[.loc 3,.loc 5,.out 0],[],[.ow 7 [.fr] .s]⟩ (.s .l (.c .l .l)) (.s .l (.j ⟨[0,3],[.loc 3,.out 0],[],[.ow 7 [.fr] .s]⟩ (.j ⟨[0,3,5,7],[.gh 29,.loc 3,.loc 5,.out 0],[],[.sl 43 .bo]⟩ .l (.c (.s .l (.s .l .l)) (.j ⟨[0,3],[.loc 3,.out 0],[],[.ow 7 [.fr] .s]⟩ (.s .l (.c .l .l)) .l))) (.s .l (.s (.s .l (.b (.lp ⟨[3],[.loc 3],[],[.ow 0 [.fr] .b8,.sl 8 (.i .i64)]⟩ (.s (.s .l (.c .l .l)) (.s (.b (.j ⟨[0,3,8],[.gh 900000,.loc 3],[],[.ow 9 [.fr] .s]⟩ .l (.s (.s .l (.b (.lp ⟨[0,3,8],[.gh 900000,.loc 3],[],[.ow 9 [.fr] .s,.sl 10 (.i .i64)]⟩ (.s (.s .l (.c .l .l)) (.j ⟨[0,3,8,10],[.gh 900000,.loc 3],[],[.ow 9 [.fr] .s]⟩ (.b .l) .l))))) .l))) .l))))) (.s (.s .l (.b (.lp ⟨[3],[.loc 3],[],[.ow 0 [.fr] .b8,.sl 11 (.i .i64)]⟩ (.s (.s .l (.c .l .l)) (.j ⟨[3,11],[.loc 3],[],[.ow 0 [.fr] .b8]⟩ (.b .l) .l))))) (.s .l .l)))))))))
abbrev t_rCode:CTt:=[(14,C_rOf),(55,C_rPut),(57,C_rNum),(58,C_rWord),(85,C_rArgs)]
theorem walk_rCode (a0_out:List UInt8) (a1_x:Lt.Instr) (KK:(List UInt8)->Prop):F_rCode a0_out a1_x KK=bodyOT ⟨Tryd.prog,eU,t_rCode,[],noP⟩ Tryd.f59 an_rCode .b8 [(.st .Instr)] a0_out a1_x KK:=by kernel_rfl
theorem c_rCode:Cont Tryd.prog 59 C_rCode:=k3 ⟨Tryd.prog,eU,t_rCode,[],noP⟩ (En.okc c_rOf (En.okc c_rPut (En.okc c_rNum (En.okc c_rWord (En.okc c_rArgs En.ok0))))) mixed (fn:=Tryd.f59) an_rCode (by kernel_rfl) (by kernel_rfl) (fun a0_out a1_x hp KK h=>Eq.mp (walk_rCode a0_out a1_x KK) (law_rCode a0_out a1_x hp KK h))
def C_rEnds:CKt:=ownT .b8 [(.st .Term)] (fun x y=>Lt.preREnds x y) (fun x y=>Lt.rEnds x y)
def an_rEnds:An:=.s .l (.s .l (.s (.j ⟨[0,3,5],[.gh 7,.loc 3,.out 0],[],[.sl 15 .bo]⟩ .l (.c (.s .l .l) .l)) (.s .l (.j ⟨[0,3],[.loc 3,.out 0],[],[.ow 6 [.fr] .s]⟩ (.j ⟨[0,3,6],[.gh 22,.loc 3,.out 0],[],[.sl 30 .bo]⟩ .l (.c .l .l)) (.s .l (.j ⟨[0],[.out 0],[],[.ow 6 [.fr] .s]⟩ (.s .l (.c .l .l)) (.s .l .l)))))))
abbrev t_rEnds:CTt:=[(55,C_rPut),(57,C_rNum),(58,C_rWord)]
theorem walk_rEnds (a0_out:List UInt8) (a1_t:Lt.Term) (KK:(List UInt8)->Prop):F_rEnds a0_out a1_t KK=bodyOT ⟨Tryd.prog,eU,t_rEnds,[],noP⟩ Tryd.f60 an_rEnds .b8 [(.st .Term)] a0_out a1_t KK:=by kernel_rfl
theorem c_rEnds:Cont Tryd.prog 60 C_rEnds:=k3 ⟨Tryd.prog,eU,t_rEnds,[],noP⟩ (En.okc c_rPut (En.okc c_rNum (En.okc c_rWord En.ok0))) mixed (fn:=Tryd.f60) an_rEnds (by kernel_rfl) (by kernel_rfl) (fun a0_out a1_t hp KK h=>Eq.mp (walk_rEnds a0_out a1_t KK) (law_rEnds a0_out a1_t hp KK h))
def C_rLines:CKt:=pureT [(.st .Program)] [.s] (fun x=>Lt.preRLines x) (fun x=>Lt.rLines x)
def an_rLines:An:=.s .l (.s .l (.j ⟨[1],[.loc 1],[],[.ow 3 [.fr] .b8]⟩ (.s .l (.c .l .l)) (.s (.s .l (.b (.lp ⟨[1],[.loc 1],[],[.ow 3 [.fr] .b8,.sl 4 (.i .i64)]⟩ (.s (.s .l (.c .l .l)) (.j ⟨[1,4],[.loc 1],[],[.ow 3 [.fr] .b8]⟩ (.b .l) .l))))) (.s .l (.s (.s .l (.b (.lp ⟨[1],[.loc 1],[],[.ow 3 [.fr] .b8,.sl 5 (.i .i64)]⟩ (.s (.s .l (.c .l .l)) (.j ⟨[1,5],[.loc 1],[],[.ow 3 [.fr] .b8]⟩ (.b .l) .l))))) (.s (.s .l (.b (.lp ⟨[1],[.loc 1],[],[.ow 3 [.fr] .b8,.sl 6 (.i .i64)]⟩ (.s (.s .l (.c .l .l)) (.s (.b (.s .l (.j ⟨[1,6,7],[.loc 1,.loc 7],[],[.ow 3 [.fr] .b8]⟩ .l (.s .l (.b (.lp ⟨[1,6,7],[.loc 1,.loc 7],[],[.ow 3 [.fr] .b8,.sl 8 (.i .i64)]⟩ (.s (.s .l (.c .l .l)) (.s (.b (.s .l (.s .l (.s (.s .l (.b (.lp ⟨[1,6,7,8,9],[.loc 1,.loc 7,.loc 9],[],[.ow 3 [.fr] .b8,.sl 10 (.i .i64)]⟩ (.s (.s .l (.c .l .l)) (.s (.b (.s .l (.s (.s .l (.b (.lp ⟨[1,3,6,7,8,9,10],[.gh 900003,.loc 1,.loc 7,.loc 9],[],[.ow 11 [.fr] .s,.sl 12 (.i .i64)]⟩ (.s (.s .l (.c .l .l)) (.j ⟨[1,3,6,7,8,9,10,12],[.gh 900003,.loc 1,.loc 7,.loc 9],[],[.ow 11 [.fr] .s]⟩ (.b .l) .l))))) .l))) .l))))) (.s (.s .l (.b (.lp ⟨[1,6,7,8,9],[.loc 1,.loc 7,.loc 9],[],[.ow 3 [.fr] .b8,.sl 13 (.i .i64)]⟩ (.s (.s .l (.c .l .l)) (.s (.b .l) .l))))) .l))))) .l)))))))) .l))))) (.s .l .l)))))))
abbrev t_rLines:CTt:=[(55,C_rPut),(56,C_rVars),(57,C_rNum),(58,C_rWord),(59,C_rCode),(60,C_rEnds)]
theorem walk_rLines (a0_p:Lt.Program) (KK:(List UInt8)->Prop):F_rLines a0_p KK=bodyT ⟨Tryd.prog,eU,t_rLines,[],noP⟩ Tryd.f33 an_rLines [(.st .Program)] [.s] a0_p KK:=by kernel_rfl
theorem c_rLines:Cont Tryd.prog 33 C_rLines:=k1 ⟨Tryd.prog,eU,t_rLines,[],noP⟩ (En.okc c_rPut (En.okc c_rVars (En.okc c_rNum (En.okc c_rWord (En.okc c_rCode (En.okc c_rEnds En.ok0)))))) mixed (fn:=Tryd.f33) an_rLines (by kernel_rfl) (by kernel_rfl) (fun a0_p hp KK h=>Eq.mp (walk_rLines a0_p KK) (law_rLines a0_p hp KK h))
def C_sSplit:CKt:=pureT0 [.s] [(.sl (.st .RLine)),(.i .i64),(.i .i64)] (fun x=>Lt.sSplit x)
def an_sSplit:An:=.s .l (.s (.s .l (.c (.s .l .l) .l)) (.s .l (.s .l (.s .l (.s .l (.s .l (.s .l (.s (.s .l (.b (.lp ⟨[0],[],[],[.ow 5 [.fr,.fr] (.st .RLine),.ow 6 [.fr] .s,.ow 7 [.fr] .b8,.sl 8 (.i .i64),.sl 9 .bo,.sl 10 .bo,.sl 11 (.i .i64)]⟩ (.s (.s .l (.c .l .l)) (.j ⟨[0,11],[],[],[.ow 5 [.fr,.fr] (.st .RLine),.ow 6 [.fr] .s,.ow 7 [.fr] .b8,.sl 8 (.i .i64),.sl 9 .bo,.sl 10 .bo]⟩ (.b (.j ⟨[0,5,6,7,8,9,10,11],[.gh 900005,.gh 900006,.gh 900007],[],[.sl 12 .bo]⟩ .l (.j ⟨[0,5,6,7,8,10,11,12],[.gh 900005,.gh 900006,.gh 900007],[],[.sl 9 .bo]⟩ (.j ⟨[0,5,6,7,8,9,10,11,12],[.gh 900005,.gh 900006,.gh 900007],[],[.sl 39 .bo]⟩ .l (.c .l .l)) (.j ⟨[0,5,8,9,11,12],[.gh 900005],[],[.ow 6 [.fr] .s,.ow 7 [.fr] .b8,.sl 10 .bo]⟩ (.j ⟨[0,5,6,7,8,9,10,11,12],[.gh 900005,.gh 900006,.gh 900007],[],[.sl 55 .bo]⟩ .l (.c (.j ⟨[0,5,8,9,10,11,12],[.gh 900005],[],[.ow 6 [.fr] .s]⟩ (.s .l (.c .l .l)) .l) (.j ⟨[0,5,6,7,8,9,11,12],[.gh 900005,.gh 900006,.gh 900007],[],[.sl 10 .bo]⟩ .l .l))) (.s .l (.c (.s (.s .l (.c (.s .l .l) .l)) (.j ⟨[0,7,8,10,11],[.gh 900007],[],[.ow 5 [.fr,.fr] (.st .RLine)]⟩ (.s .l (.c .l .l)) (.s .l (.s .l .l)))) .l)))))) .l))))) (.s .l .l)))))))))
theorem walk_sSplit (a0_s:List UInt8) (KK:(List Lt.RLine×Int×Int)->Prop):F_sSplit a0_s KK=bodyT ⟨Tryd.prog,eU,[],[],noP⟩ Tryd.f21 an_sSplit [.s] [(.sl (.st .RLine)),(.i .i64),(.i .i64)] a0_s KK:=by kernel_rfl
theorem c_sSplit:Cont Tryd.prog 21 C_sSplit:=k0 ⟨Tryd.prog,eU,[],[],noP⟩ En.ok0 mixed (fn:=Tryd.f21) an_sSplit (by kernel_rfl) (by kernel_rfl) (fun a0_s KK h=>Eq.mp (walk_sSplit a0_s KK) (law_sSplit a0_s KK h))
def C_sOp:CKt:=pureT0 [.s] [(.i .i64),.bo] (fun x=>Lt.sOp x)
def an_sOp:An:=.s .l (.s (.s .l (.b (.lp ⟨[0],[],[],[.sl 4 (.i .i64)]⟩ (.s (.s .l (.c .l .l)) (.s (.b (.s .l (.c (.s .l .l) .l))) .l))))) (.s .l .l))
theorem walk_sOp (a0_word:List UInt8) (KK:(Int×Bool)->Prop):F_sOp a0_word KK=bodyT ⟨Tryd.prog,eU,[],[],noP⟩ Tryd.f16 an_sOp [.s] [(.i .i64),.bo] a0_word KK:=by kernel_rfl
theorem c_sOp:Cont Tryd.prog 16 C_sOp:=k0 ⟨Tryd.prog,eU,[],[],noP⟩ En.ok0 mixed (fn:=Tryd.f16) an_sOp (by kernel_rfl) (by kernel_rfl) (fun a0_word KK h=>Eq.mp (walk_sOp a0_word KK) (law_sOp a0_word KK h))
def C_sNames:CKt:=pureT0 [(.sl .s)] [.bo] (fun x=>Lt.sNames x)
def an_sNames:An:=.s .l (.s (.s .l (.b (.lp ⟨[0],[],[],[.sl 3 (.i .i64)]⟩ (.s (.s .l (.c .l .l)) (.s (.b (.s .l (.c (.s .l .l) .l))) .l))))) (.s .l .l))
abbrev t_sNames:CTt:=[(119,C_rName)]
theorem walk_sNames (a0_l:List (List UInt8)) (KK:Bool->Prop):F_sNames a0_l KK=bodyT ⟨Tryd.prog,eU,t_sNames,[],noP⟩ Tryd.f139 an_sNames [(.sl .s)] [.bo] a0_l KK:=by kernel_rfl
theorem c_sNames:Cont Tryd.prog 139 C_sNames:=k0 ⟨Tryd.prog,eU,t_sNames,[],noP⟩ (En.okc c_rName En.ok0) mixed (fn:=Tryd.f139) an_sNames (by kernel_rfl) (by kernel_rfl) (fun a0_l KK h=>Eq.mp (walk_sNames a0_l KK) (law_sNames a0_l KK h))
def C_sHalf:CKt:=pureT0 [(.i .u64)] [(.i .i64)] (fun x=>Lt.sHalf x)
def an_sHalf:An:=.s .l (.s .l .l)
theorem walk_sHalf (a0_n:Int) (KK:Int->Prop):F_sHalf a0_n KK=bodyT ⟨Tryd.prog,eU,[],[],noP⟩ Tryd.f154 an_sHalf [(.i .u64)] [(.i .i64)] a0_n KK:=by kernel_rfl
theorem c_sHalf:Cont Tryd.prog 154 C_sHalf:=k0 ⟨Tryd.prog,eU,[],[],noP⟩ En.ok0 mixed (fn:=Tryd.f154) an_sHalf (by kernel_rfl) (by kernel_rfl) (fun a0_n KK h=>Eq.mp (walk_sHalf a0_n KK) (law_sHalf a0_n KK h))
def C_sNum:CKt:=pureT0 [.s] [(.i .i64),.bo] (fun x=>Lt.sNum x)
def an_sNum:An:=.s .l (.s .l (.s (.s .l (.b (.lp ⟨[0],[],[],[.sl 4 (.i .u64),.sl 5 (.i .i64)]⟩ (.s (.j ⟨[0,4,5],[],[],[.sl 13 .bo]⟩ .l (.c .l .l)) (.j ⟨[0,5],[],[],[.sl 4 (.i .u64)]⟩ (.b (.s (.j ⟨[0,4,5],[],[],[.sl 22 .bo]⟩ .l (.c .l .l)) .l)) .l))))) (.j ⟨[0],[],[],[.sl 4 (.i .u64)]⟩ (.j ⟨[0,4],[],[],[.sl 38 .bo]⟩ .l (.c .l .l)) (.s (.s .l (.c (.s .l .l) .l)) (.s .l .l)))))
abbrev t_sNum:CTt:=[(57,C_rNum),(154,C_sHalf)]
theorem walk_sNum (a0_s:List UInt8) (KK:(Int×Bool)->Prop):F_sNum a0_s KK=bodyT ⟨Tryd.prog,eU,t_sNum,[],noP⟩ Tryd.f144 an_sNum [.s] [(.i .i64),.bo] a0_s KK:=by kernel_rfl
theorem c_sNum:Cont Tryd.prog 144 C_sNum:=k0 ⟨Tryd.prog,eU,t_sNum,[],noP⟩ (En.okc c_rNum (En.okc c_sHalf En.ok0)) mixed (fn:=Tryd.f144) an_sNum (by kernel_rfl) (by kernel_rfl) (fun a0_s KK h=>Eq.mp (walk_sNum a0_s KK) (law_sNum a0_s KK h))
def C_sFlo:CKt:=pureT0 [.s] [(.i .i64),.bo] (fun x=>Lt.sFlo x)
def an_sFlo:An:=.s .l (.s (.s .l (.c (.s .l .l) .l)) (.s .l (.s (.s .l (.b (.lp ⟨[0],[],[],[.sl 4 (.i .u64),.sl 5 (.i .i64)]⟩ (.s (.s .l (.c .l .l)) (.s (.b (.s .l (.j ⟨[0,4,5],[],[],[.sl 6 (.i .u64)]⟩ (.s .l (.c .l .l)) .l))) .l))))) (.s (.s .l (.c (.s .l .l) .l)) (.s .l .l)))))
abbrev t_sFlo:CTt:=[(84,C_rFlo)]
theorem walk_sFlo (a0_s:List UInt8) (KK:(Int×Bool)->Prop):F_sFlo a0_s KK=bodyT ⟨Tryd.prog,eU,t_sFlo,[],noP⟩ Tryd.f156 an_sFlo [.s] [(.i .i64),.bo] a0_s KK:=by kernel_rfl
theorem c_sFlo:Cont Tryd.prog 156 C_sFlo:=k0 ⟨Tryd.prog,eU,t_sFlo,[],noP⟩ (En.okc c_rFlo En.ok0) mixed (fn:=Tryd.f156) an_sFlo (by kernel_rfl) (by kernel_rfl) (fun a0_s KK h=>Eq.mp (walk_sFlo a0_s KK) (law_sFlo a0_s KK h))
def C_sArg:CKt:=pureT0 [.s] [(.st .Arg),.bo] (fun x=>Lt.sArg x)
def an_sArg:An:=.s .l (.s .l (.j ⟨[0,2],[.loc 2],[],[.sl 4 .s]⟩ (.s .l (.c .l .l)) (.s .l (.s .l (.s .l (.s .l (.j ⟨[2],[.loc 2],[],[]⟩ (.s .l (.b (.un 6 (.s (.s .l (.c .l .l)) (.s (.b (.j ⟨[0,2,11,12],[.loc 11,.loc 2],[],[.sl 58 .bo]⟩ .l (.c (.s .l .l) .l))) .l))))) (.s .l .l))))))))
abbrev t_sArg:CTt:=[(58,C_rWord),(83,C_rRight),(144,C_sNum),(156,C_sFlo)]
theorem walk_sArg (a0_s:List UInt8) (KK:(Lt.Arg×Bool)->Prop):F_sArg a0_s KK=bodyT ⟨Tryd.prog,eU,t_sArg,[],noP⟩ Tryd.f152 an_sArg [.s] [(.st .Arg),.bo] a0_s KK:=by kernel_rfl
theorem c_sArg:Cont Tryd.prog 152 C_sArg:=k0 ⟨Tryd.prog,eU,t_sArg,[],noP⟩ (En.okc c_rWord (En.okc c_rRight (En.okc c_sNum (En.okc c_sFlo En.ok0)))) mixed (fn:=Tryd.f152) an_sArg (by kernel_rfl) (by kernel_rfl) (fun a0_s KK h=>Eq.mp (walk_sArg a0_s KK) (law_sArg a0_s KK h))
def C_sArgs:CKt:=pureT [(.sl .s),.bo] [(.sl (.st .Arg)),.bo] (fun x=>Lt.preWords x.1 x.2) (fun x=>Lt.sArgs x.1 x.2)
def an_sArgs:An:=.s .l (.s .l (.s (.s .l (.b (.lp ⟨[0,1],[],[],[.ow 6 [.fr,.fr,.fr] (.st .Arg),.sl 7 (.i .i64)]⟩ (.s (.s .l (.c .l .l)) (.s (.b (.s .l (.s (.j ⟨[0,1,6,7,8],[.gh 900006,.loc 8],[],[.sl 34 .bo]⟩ .l (.c (.s .l .l) .l)) .l))) .l))))) (.s .l .l)))
abbrev t_sArgs:CTt:=[(152,C_sArg)]
theorem walk_sArgs (a0_l:List (List UInt8)) (a1_objs:Bool) (KK:(List Lt.Arg×Bool)->Prop):F_sArgs a0_l a1_objs KK=bodyT ⟨Tryd.prog,eU,t_sArgs,[],noP⟩ Tryd.f141 an_sArgs [(.sl .s),.bo] [(.sl (.st .Arg)),.bo] (a0_l,a1_objs) KK:=by kernel_rfl
theorem c_sArgs:Cont Tryd.prog 141 C_sArgs:=k1 ⟨Tryd.prog,eU,t_sArgs,[],noP⟩ (En.okc c_sArg En.ok0) mixed (fn:=Tryd.f141) an_sArgs (by kernel_rfl) (by kernel_rfl) (fun (a0_l,a1_objs) hp KK h=>Eq.mp (walk_sArgs a0_l a1_objs KK) (law_sArgs a0_l a1_objs hp KK h))
def C_sCodeM:CKt:=ptrT sh0 (.st .Read) [(.sl .s)] [(.i .i64)] (fun x y=>Lt.preRead x y) (fun x y=>Lt.sCodeM x y)
def an_sInside_sCodeM:An:=.s .l (.s .l .l)
def C_sInside_sCodeM:CKt:=inlT ⟨Tryd.prog,eU,[],eS,noP⟩ Tryd.f140 an_sInside_sCodeM
def an_sCodeM:An:=.s .l (.s .l (.j ⟨[0,5],[.out 0],[],[.sl 1 (.sl .s),.rt (.loc 5) sh5 (.st .Instr)]⟩ (.j ⟨[0,1,5],[.loc 5,.out 0],[],[.sl 24 .bo]⟩ .l (.c (.s (.s .l (.c (.s .l .l) .l)) (.s .l .l)) .l)) (.s .l (.s .l (.s (.j ⟨[0,1,5,6,8],[.loc 5,.loc 8,.out 0],[],[.sl 63 .bo]⟩ .l (.c (.s .l .l) .l)) (.s .l (.s .l (.j ⟨[0,5,6,8],[.loc 8,.out 0],[],[.sl 10 (.sl .s),.rt (.loc 5) sh5 (.st .Instr)]⟩ (.j ⟨[0,1,5,6,8,10],[.loc 5,.loc 8,.out 0],[],[.sl 71 .bo]⟩ .l (.c (.s (.s .l (.c (.s .l .l) .l)) (.s .l (.s .l .l))) (.s .l (.c (.s (.s .l (.c (.s .l .l) .l)) (.s .l .l)) .l)))) (.s .l (.s (.j ⟨[0,5,6,11],[.loc 5,.out 0],[],[.sl 133 .bo]⟩ .l (.c (.s .l .l) .l)) (.s (.s .l (.c (.s .l .l) .l)) (.s .l (.s .l (.s .l (.s .l (.j ⟨[0,6],[],[],[.rt (.out 0) sh0 (.st .Read)]⟩ .l (.s .l (.j ⟨[],[],[],[.rt (.out 0) sh0 (.st .Read)]⟩ (.j ⟨[0],[.out 0],[],[.sl 193 .bo]⟩ .l (.c .l .l)) (.s .l .l)))))))))))))))))))
abbrev t_sCodeM:CTt:=[(14,C_rOf),(16,C_sOp),(139,C_sNames),(140,C_sInside_sCodeM),(141,C_sArgs)]
theorem walk_sCodeM (a0_r:Lt.Read) (a1_l:List (List UInt8)) (KK:((Int)×Lt.Read)->Prop):F_sCodeM a0_r a1_l KK=bodyPT ⟨Tryd.prog,eU,t_sCodeM,eS,noP⟩ Tryd.f115 an_sCodeM sh0 (.st .Read) [(.sl .s)] [(.i .i64)] a0_r a1_l KK:=by kernel_rfl
theorem c_sCodeM:Cont Tryd.prog 115 C_sCodeM:=k2 ⟨Tryd.prog,eU,t_sCodeM,eS,noP⟩ (En.okc c_rOf (En.okc c_sOp (En.okc c_sNames (En.okc (Cont_inl En.ok0 mixed (fn:=Tryd.f140) (by kernel_rfl) (by kernel_rfl) (by kernel_rfl) (by kernel_rfl) (by kernel_rfl)) (En.okc c_sArgs En.ok0))))) mixed (fn:=Tryd.f115) an_sCodeM (by kernel_rfl) (by kernel_rfl) (fun a0_r a1_l hp KK h=>Eq.mp (walk_sCodeM a0_r a1_l KK) (law_sCodeM a0_r a1_l hp KK h))
def C_sLimit:CKt:=pureT0 [(.i .i64),(.i .i64)] [(.i .i64)] (fun x=>Lt.sLimit x.1 x.2)
def an_sLimit:An:=.s .l (.s (.s .l (.c (.s .l .l) .l)) (.s .l .l))
theorem walk_sLimit (a0_n:Int) (a1_most:Int) (KK:Int->Prop):F_sLimit a0_n a1_most KK=bodyT ⟨Tryd.prog,eU,[],[],noP⟩ Tryd.f142 an_sLimit [(.i .i64),(.i .i64)] [(.i .i64)] (a0_n,a1_most) KK:=by kernel_rfl
theorem c_sLimit:Cont Tryd.prog 142 C_sLimit:=k0 ⟨Tryd.prog,eU,[],[],noP⟩ En.ok0 mixed (fn:=Tryd.f142) an_sLimit (by kernel_rfl) (by kernel_rfl) (fun (a0_n,a1_most) KK h=>Eq.mp (walk_sLimit a0_n a1_most KK) (law_sLimit a0_n a1_most KK h))
def C_sKind:CKt:=pureT0 [.s] [.bo] (fun x=>Lt.sKind x)
def an_sKind:An:=.s .l (.j ⟨[],[],[],[.sl 2 .bo]⟩ .l .l)
abbrev t_sKind:CTt:=[(119,C_rName)]
theorem walk_sKind (a0_w:List UInt8) (KK:Bool->Prop):F_sKind a0_w KK=bodyT ⟨Tryd.prog,eU,t_sKind,[],noP⟩ Tryd.f153 an_sKind [.s] [.bo] a0_w KK:=by kernel_rfl
theorem c_sKind:Cont Tryd.prog 153 C_sKind:=k0 ⟨Tryd.prog,eU,t_sKind,[],noP⟩ (En.okc c_rName En.ok0) mixed (fn:=Tryd.f153) an_sKind (by kernel_rfl) (by kernel_rfl) (fun a0_w KK h=>Eq.mp (walk_sKind a0_w KK) (law_sKind a0_w KK h))
def C_sTyped:CKt:=pureT0 [(.sl .s)] [.bo] (fun x=>Lt.sTyped x)
def an_sTyped:An:=.s .l (.j ⟨[],[],[],[.sl 2 .bo]⟩ .l .l)
abbrev t_sTyped:CTt:=[(139,C_sNames),(153,C_sKind)]
theorem walk_sTyped (a0_l:List (List UInt8)) (KK:Bool->Prop):F_sTyped a0_l KK=bodyT ⟨Tryd.prog,eU,t_sTyped,[],noP⟩ Tryd.f143 an_sTyped [(.sl .s)] [.bo] a0_l KK:=by kernel_rfl
theorem c_sTyped:Cont Tryd.prog 143 C_sTyped:=k0 ⟨Tryd.prog,eU,t_sTyped,[],noP⟩ (En.okc c_sNames (En.okc c_sKind En.ok0)) mixed (fn:=Tryd.f143) an_sTyped (by kernel_rfl) (by kernel_rfl) (fun a0_l KK h=>Eq.mp (walk_sTyped a0_l KK) (law_sTyped a0_l KK h))
def C_sHeadM:CKt:=ptrT sh0 (.st .Read) [(.sl .s)] [.bo,(.i .i64)] (fun x y=>Lt.preRead x y) (fun x y=>Lt.sHeadM x y)
def an_sOutside_sHeadM:An:=.s .l (.s .l .l)
def C_sOutside_sHeadM:CKt:=inlT ⟨Tryd.prog,eU,[],eS,noP⟩ Tryd.f81 an_sOutside_sHeadM
def an_sHeadM:An:=.s .l (.s (.s .l (.b (.s .l (.c (.s (.j ⟨[0,1],[.out 0],[],[.sl 34 .bo]⟩ .l (.c (.s .l .l) .l)) (.s .l (.j ⟨[6],[],[],[.rt (.out 0) sh0 (.st .Read)]⟩ (.s .l (.c (.j ⟨[0,6],[],[],[.rt (.out 0) sh0 (.st .Read)]⟩ .l .l) .l)) (.s .l .l)))) (.s .l (.c (.s (.j ⟨[0,1],[.out 0],[],[.sl 74 .bo]⟩ .l (.c (.s .l .l) .l)) (.s .l (.s .l (.j ⟨[8],[],[],[.rt (.out 0) sh0 (.st .Read)]⟩ (.s .l (.c .l .l)) (.s .l .l))))) (.s .l (.c (.s (.j ⟨[0,1],[.out 0],[],[.sl 131 .bo]⟩ .l (.c (.s .l .l) .l)) (.s .l (.j ⟨[0,9],[],[],[.rt (.out 0) sh0 (.st .Read)]⟩ .l (.s .l (.s .l .l))))) (.s .l (.c (.s (.j ⟨[0,1],[.out 0],[],[.sl 178 .bo]⟩ .l (.c (.s .l .l) .l)) (.s .l (.s (.j ⟨[0,1,10],[.out 0],[],[.sl 195 .bo]⟩ .l (.c (.s .l .l) .l)) (.s .l (.j ⟨[0,12],[],[],[.rt (.out 0) sh0 (.st .Read)]⟩ .l (.s .l (.s .l .l))))))) (.s .l (.c (.s (.j ⟨[0,1],[.out 0],[],[.sl 232 .bo]⟩ .l (.c (.s .l .l) .l)) (.s .l (.j ⟨[0,13],[],[],[.rt (.out 0) sh0 (.st .Read)]⟩ .l (.s .l (.s .l (.s .l .l)))))) .l)))))))))))) (.s .l .l))
abbrev t_sHeadM:CTt:=[(81,C_sOutside_sHeadM),(139,C_sNames),(142,C_sLimit),(143,C_sTyped),(144,C_sNum)]
theorem walk_sHeadM (a0_r:Lt.Read) (a1_l:List (List UInt8)) (KK:((Bool×Int)×Lt.Read)->Prop):F_sHeadM a0_r a1_l KK=bodyPT ⟨Tryd.prog,eU,t_sHeadM,eS,noP⟩ Tryd.f116 an_sHeadM sh0 (.st .Read) [(.sl .s)] [.bo,(.i .i64)] a0_r a1_l KK:=by kernel_rfl
theorem c_sHeadM:Cont Tryd.prog 116 C_sHeadM:=k2 ⟨Tryd.prog,eU,t_sHeadM,eS,noP⟩ (En.okc (Cont_inl En.ok0 mixed (fn:=Tryd.f81) (by kernel_rfl) (by kernel_rfl) (by kernel_rfl) (by kernel_rfl) (by kernel_rfl)) (En.okc c_sNames (En.okc c_sLimit (En.okc c_sTyped (En.okc c_sNum En.ok0))))) mixed (fn:=Tryd.f116) an_sHeadM (by kernel_rfl) (by kernel_rfl) (fun a0_r a1_l hp KK h=>Eq.mp (walk_sHeadM a0_r a1_l KK) (law_sHeadM a0_r a1_l hp KK h))
def C_sPairs:CKt:=pureT [(.sl .s),(.i .i64),.bo] [(.sl (.st .Bind)),.bo] (fun x=>Lt.prePairs x.1 x.2.1 x.2.2) (fun x=>Lt.sPairs x.1 x.2.1 x.2.2)
def an_sPairs:An:=.s .l (.s .l (.s (.j ⟨[0,1,2,8],[],[],[.sl 23 .bo]⟩ .l (.c (.s .l .l) .l)) (.s (.s .l (.b (.lp ⟨[0,2],[],[],[.ow 8 [.fr,.fr,.fr,.fr] (.st .Bind),.sl 9 (.i .i64)]⟩ (.s (.s .l (.c .l .l)) (.s (.b (.s .l (.s (.j ⟨[0,2,8,9,10],[.gh 900008],[],[.sl 52 .bo]⟩ .l (.c (.s .l .l) .l)) .l))) .l))))) (.s .l .l))))
abbrev t_sPairs:CTt:=[(139,C_sNames),(141,C_sArgs)]
theorem walk_sPairs (a0_l:List (List UInt8)) (a1_from:Int) (a2_objs:Bool) (KK:(List Lt.Bind×Bool)->Prop):F_sPairs a0_l a1_from a2_objs KK=bodyT ⟨Tryd.prog,eU,t_sPairs,[],noP⟩ Tryd.f145 an_sPairs [(.sl .s),(.i .i64),.bo] [(.sl (.st .Bind)),.bo] (a0_l,a1_from,a2_objs) KK:=by kernel_rfl
theorem c_sPairs:Cont Tryd.prog 145 C_sPairs:=k1 ⟨Tryd.prog,eU,t_sPairs,[],noP⟩ (En.okc c_sNames (En.okc c_sArgs En.ok0)) mixed (fn:=Tryd.f145) an_sPairs (by kernel_rfl) (by kernel_rfl) (fun (a0_l,a1_from,a2_objs) hp KK h=>Eq.mp (walk_sPairs a0_l a1_from a2_objs KK) (law_sPairs a0_l a1_from a2_objs hp KK h))
def C_sPartM:CKt:=ptrT sh0 (.st .Read) [(.sl .s)] [.bo,(.i .i64)] (fun x y=>Lt.preRead x y) (fun x y=>Lt.sPartM x y)
def an_sPartM:An:=.s .l (.s .l (.s (.s .l (.c .l .l)) (.a 6 (.out 0) (.s (.s .l (.b (.s .l (.c (.s (.j ⟨[1,6],[.out 0],[],[.sl 51 .bo]⟩ .l (.c (.s .l .l) .l)) (.s .l (.j ⟨[7],[],[],[.rt (.out 0) sh0 (.st .Read)]⟩ .l (.s .l .l)))) (.s .l (.c (.s (.j ⟨[0,1,6],[.out 0],[],[.sl 93 .bo]⟩ .l (.c (.s .l .l) .l)) (.s .l (.j ⟨[0,8],[],[],[.rt (.out 0) sh0 (.st .Read)]⟩ .l (.s .l (.s .l .l))))) (.s .l (.c (.s (.j ⟨[0,1,6],[.out 0],[],[.sl 153 .bo]⟩ .l (.c (.s .l .l) .l)) (.s .l (.j ⟨[0,9],[],[],[.rt (.out 0) sh0 (.st .Read)]⟩ .l (.s .l (.s .l .l))))) (.s .l (.c (.s .l (.s (.j ⟨[0,1,6,10],[.out 0],[],[.sl 205 .bo]⟩ .l (.c (.s .l .l) .l)) (.s (.j ⟨[0,1,6,10],[.out 0],[],[.sl 215 .bo]⟩ .l (.c (.s .l .l) .l)) (.s .l (.s (.s .l (.b (.lp ⟨[0,6,10,12],[.out 0],[],[.sl 13 (.i .i64),.rt (.loc 12) sh4 (.st .Phi)]⟩ (.s (.s .l (.c .l .l)) (.j ⟨[0,6,10,12,13],[.out 0],[],[.rt (.loc 12) sh4 (.st .Phi)]⟩ (.b .l) .l))))) (.s .l (.j ⟨[0],[],[],[.rt (.out 0) sh0 (.st .Read)]⟩ .l (.s .l (.s .l .l))))))))) .l)))))))))) (.s .l .l)) (.s (.s .l (.b (.s .l (.c (.s (.j ⟨[1,6],[.loc 16,.out 0],[],[.sl 51 .bo]⟩ .l (.c (.s .l .l) .l)) (.s .l (.j ⟨[7],[.out 0],[],[]⟩ .l (.s .l .l)))) (.s .l (.c (.s (.j ⟨[0,1,6],[.loc 16,.out 0],[],[.sl 93 .bo]⟩ .l (.c (.s .l .l) .l)) (.s .l (.j ⟨[0,8],[.out 0],[],[]⟩ .l (.s .l (.s .l .l))))) (.s .l (.c (.s (.j ⟨[0,1,6],[.loc 16,.out 0],[],[.sl 153 .bo]⟩ .l (.c (.s .l .l) .l)) (.s .l (.j ⟨[0,9],[.out 0],[],[]⟩ .l (.s .l (.s .l .l))))) (.s .l (.c (.s .l (.s (.j ⟨[0,1,6,10],[.loc 16,.out 0],[],[.sl 205 .bo]⟩ .l (.c (.s .l .l) .l)) (.s (.j ⟨[0,1,6,10],[.loc 16,.out 0],[],[.sl 215 .bo]⟩ .l (.c (.s .l .l) .l)) (.s .l (.s (.s .l (.b (.lp ⟨[0,6,10,12],[.loc 16,.out 0],[],[.sl 13 (.i .i64),.rt (.loc 12) sh4 (.st .Phi)]⟩ (.s (.s .l (.c .l .l)) (.j ⟨[0,6,10,12,13],[.loc 16,.out 0],[],[.rt (.loc 12) sh4 (.st .Phi)]⟩ (.b .l) .l))))) (.s .l (.s .l .l))))))) .l)))))))))) (.s .l .l)))))
abbrev t_sPartM:CTt:=[(139,C_sNames),(142,C_sLimit),(143,C_sTyped),(145,C_sPairs)]
theorem walk_sPartM (a0_r:Lt.Read) (a1_l:List (List UInt8)) (KK:((Bool×Int)×Lt.Read)->Prop):F_sPartM a0_r a1_l KK=bodyPT ⟨Tryd.prog,eU,t_sPartM,eS,noP⟩ Tryd.f117 an_sPartM sh0 (.st .Read) [(.sl .s)] [.bo,(.i .i64)] a0_r a1_l KK:=by kernel_rfl
theorem c_sPartM:Cont Tryd.prog 117 C_sPartM:=k2 ⟨Tryd.prog,eU,t_sPartM,eS,noP⟩ (En.okc c_sNames (En.okc c_sLimit (En.okc c_sTyped (En.okc c_sPairs En.ok0)))) mixed (fn:=Tryd.f117) an_sPartM (by kernel_rfl) (by kernel_rfl) (fun a0_r a1_l hp KK h=>Eq.mp (walk_sPartM a0_r a1_l KK) (law_sPartM a0_r a1_l hp KK h))
def C_sStateM:CKt:=ptrT sh0 (.st .Read) [(.sl .s)] [.bo,(.i .i64)] (fun x y=>Lt.preRead x y) (fun x y=>Lt.sStateM x y)
def an_sInside_sStateM:An:=.s .l (.s .l .l)
def C_sInside_sStateM:CKt:=inlT ⟨Tryd.prog,eU,[],eS,noP⟩ Tryd.f140 an_sInside_sStateM
def an_sEndsM_sStateM:An:=.s .l (.s .l (.s (.j ⟨[1,2,100000,100001,100006,100007,100029,100030,100031,100032,100033,100034,100035,100036,100037,100038,100039,100040,100041,100042,100043,100044,100045,100046,100047,100048,100049,100050,100051,100052,100053,100054,100055,100056,100057,100058,100141,100142,100209,100210,100211],[.out 0],[],[.sl 31 .bo]⟩ .l (.c (.s .l (.s .l .l)) .l)) (.j ⟨[1,2,100000,100001,100006,100007,100029,100030,100031,100032,100033,100034,100035,100036,100037,100038,100039,100040,100041,100042,100043,100044,100045,100046,100047,100048,100049,100050,100051,100052,100053,100054,100055,100056,100057,100058,100141,100142,100209,100210,100211],[.out 0],[],[]⟩ (.j ⟨[1,2,100000,100001,100006,100007,100029,100030,100031,100032,100033,100034,100035,100036,100037,100038,100039,100040,100041,100042,100043,100044,100045,100046,100047,100048,100049,100050,100051,100052,100053,100054,100055,100056,100057,100058,100141,100142,100209,100210,100211],[.out 0],[],[.sl 58 .bo]⟩ .l (.c (.s .l (.s .l (.c (.s .l (.s .l .l)) .l))) .l)) (.j ⟨[1,2,100000,100001,100006,100007,100029,100030,100031,100032,100033,100034,100035,100036,100037,100038,100039,100040,100041,100042,100043,100044,100045,100046,100047,100048,100049,100050,100051,100052,100053,100054,100055,100056,100057,100058,100141,100142,100209,100210,100211],[.out 0],[],[]⟩ (.j ⟨[1,2,100000,100001,100006,100007,100029,100030,100031,100032,100033,100034,100035,100036,100037,100038,100039,100040,100041,100042,100043,100044,100045,100046,100047,100048,100049,100050,100051,100052,100053,100054,100055,100056,100057,100058,100141,100142,100209,100210,100211],[.out 0],[],[.sl 88 .bo]⟩ .l (.c (.s .l (.s .l (.c (.s .l (.s .l .l)) .l))) .l)) (.j ⟨[100000,100001,100006,100007,100029,100030,100031,100032,100033,100034,100035,100036,100037,100038,100039,100040,100041,100042,100043,100044,100045,100046,100047,100048,100049,100050,100051,100052,100053,100054,100055,100056,100057,100058,100141,100142,100209,100210,100211],[.out 0],[],[]⟩ (.j ⟨[1,2,100000,100001,100006,100007,100029,100030,100031,100032,100033,100034,100035,100036,100037,100038,100039,100040,100041,100042,100043,100044,100045,100046,100047,100048,100049,100050,100051,100052,100053,100054,100055,100056,100057,100058,100141,100142,100209,100210,100211],[.out 0],[],[.sl 111 .bo]⟩ .l (.c (.s .l (.s .l (.c (.s .l (.s .l .l)) .l))) .l)) (.s .l .l))))))
def C_sEndsM_sStateM:CKt:=inlT ⟨Tryd.prog,eU,[(139,C_sNames),(141,C_sArgs),(144,C_sNum)],eS,noP⟩ Tryd.f146 an_sEndsM_sStateM
def an_sStateM:An:=.s .l (.s (.s .l (.b (.j ⟨[0,1],[.out 0],[],[.sl 20 .bo]⟩ (.s .l (.c .l (.s .l (.c .l (.s .l (.c .l (.s .l (.c .l (.s .l (.c .l .l)))))))))) (.c .l (.s .l .l))))) (.s (.j ⟨[0,1],[.out 0],[],[.sl 29 .bo]⟩ .l (.c (.s .l .l) .l)) (.s .l (.s .l (.s (.s .l (.b (.s .l (.c (.s .l (.s (.j ⟨[1,7,8],[.out 0],[],[.sl 83 .bo]⟩ .l (.c (.s .l .l) .l)) (.s .l (.s (.j ⟨[1,7,8,10],[.out 0],[],[.sl 100 .bo]⟩ .l (.c (.s .l .l) .l)) (.s .l (.s (.j ⟨[1,8,10,12],[.out 0],[],[.sl 122 .bo]⟩ .l (.c (.s .l .l) .l)) (.j ⟨[],[],[],[.rt (.out 0) sh0 (.st .Read)]⟩ .l (.s .l .l)))))))) (.s .l (.c (.s (.j ⟨[0,1,7],[.out 0],[],[.sl 165 .bo]⟩ .l (.c (.s .l .l) .l)) (.s .l (.s (.s .l (.c (.s .l .l) .l)) (.s .l (.s .l (.j ⟨[0,16],[],[],[.rt (.out 0) sh0 (.st .Read)]⟩ .l (.s .l (.s .l .l)))))))) .l)))))) (.j ⟨[],[],[],[.sl 4 .bo,.sl 5 (.i .i64),.rt (.out 0) sh0 (.st .Read)]⟩ .l .l))))))
abbrev t_sStateM:CTt:=[(139,C_sNames),(140,C_sInside_sStateM),(141,C_sArgs),(142,C_sLimit),(144,C_sNum),(145,C_sPairs),(146,C_sEndsM_sStateM)]
theorem walk_sStateM (a0_r:Lt.Read) (a1_l:List (List UInt8)) (KK:((Bool×Int)×Lt.Read)->Prop):F_sStateM a0_r a1_l KK=bodyPT ⟨Tryd.prog,eU,t_sStateM,eS,noP⟩ Tryd.f118 an_sStateM sh0 (.st .Read) [(.sl .s)] [.bo,(.i .i64)] a0_r a1_l KK:=by kernel_rfl
theorem c_sStateM:Cont Tryd.prog 118 C_sStateM:=k2 ⟨Tryd.prog,eU,t_sStateM,eS,noP⟩ (En.okc c_sNames (En.okc (Cont_inl En.ok0 mixed (fn:=Tryd.f140) (by kernel_rfl) (by kernel_rfl) (by kernel_rfl) (by kernel_rfl) (by kernel_rfl)) (En.okc c_sArgs (En.okc c_sLimit (En.okc c_sNum (En.okc c_sPairs (En.okc (Cont_inl (En.okc c_sNames (En.okc c_sArgs (En.okc c_sNum En.ok0))) mixed (fn:=Tryd.f146) (by kernel_rfl) (by kernel_rfl) (by kernel_rfl) (by kernel_rfl) (by kernel_rfl)) En.ok0))))))) mixed (fn:=Tryd.f118) an_sStateM (by kernel_rfl) (by kernel_rfl) (fun a0_r a1_l hp KK h=>Eq.mp (walk_sStateM a0_r a1_l KK) (law_sStateM a0_r a1_l hp KK h))
def C_sLineM:CKt:=ptrT sh0 (.st .Read) [(.sl .s),.bo] [(.i .i64)] (fun x y=>Lt.preLineM x y.1 y.2) (fun x y=>Lt.sLineM x y.1 y.2)
def an_sLineM:An:=.s .l (.s (.j ⟨[0,1,2],[.out 0],[],[.sl 17 .bo]⟩ .l (.c (.s .l .l) .l)) (.s (.s .l (.c (.s (.j ⟨[0],[.out 0],[],[.sl 31 .bo]⟩ .l (.c (.s .l .l) .l)) (.s .l (.s .l .l))) .l)) (.s .l (.j ⟨[0,1],[],[],[.sl 7 .bo,.sl 8 (.i .i64),.rt (.out 0) sh0 (.st .Read)]⟩ (.s .l (.c .l .l)) (.j ⟨[0,1],[],[],[.sl 7 .bo,.sl 8 (.i .i64),.rt (.out 0) sh0 (.st .Read)]⟩ (.s .l (.c .l .l)) (.j ⟨[],[],[],[.sl 8 (.i .i64),.rt (.out 0) sh0 (.st .Read)]⟩ (.s .l (.c .l .l)) (.s .l .l)))))))
abbrev t_sLineM:CTt:=[(115,C_sCodeM),(116,C_sHeadM),(117,C_sPartM),(118,C_sStateM)]
theorem walk_sLineM (a0_r:Lt.Read) (a1_l:List (List UInt8)) (a2_first:Bool) (KK:((Int)×Lt.Read)->Prop):F_sLineM a0_r a1_l a2_first KK=bodyPT ⟨Tryd.prog,eU,t_sLineM,eS,noP⟩ Tryd.f80 an_sLineM sh0 (.st .Read) [(.sl .s),.bo] [(.i .i64)] a0_r (a1_l,a2_first) KK:=by kernel_rfl
theorem c_sLineM:Cont Tryd.prog 80 C_sLineM:=k2 ⟨Tryd.prog,eU,t_sLineM,eS,noP⟩ (En.okc c_sCodeM (En.okc c_sHeadM (En.okc c_sPartM (En.okc c_sStateM En.ok0)))) mixed (fn:=Tryd.f80) an_sLineM (by kernel_rfl) (by kernel_rfl) (fun a0_r (a1_l,a2_first) hp KK h=>Eq.mp (walk_sLineM a0_r a1_l a2_first KK) (law_sLineM a0_r a1_l a2_first hp KK h))
def C_sParse:CKt:=pureT0 [.s] [(.st .Program),(.i .i64),(.i .i64)] (fun x=>Lt.sParse x)
def an_sOutside_sParse:An:=.s .l (.s .l .l)
def C_sOutside_sParse:CKt:=inlT ⟨Tryd.prog,eU,[],eS,noP⟩ Tryd.f81 an_sOutside_sParse
def an_sParse:An:=.s .l (.s .l (.s (.s .l (.c (.s .l .l) .l)) (.s .l (.s (.s .l (.b (.lp ⟨[2,5,8],[.loc 2],[],[.sl 9 (.i .i64),.rt (.loc 22) sh0 (.st .Read)]⟩ (.s (.s .l (.c .l .l)) (.s (.b (.s .l (.s .l (.c (.s .l .l) .l)))) .l))))) (.s (.j ⟨[2,8],[.loc 2,.loc 22],[],[.sl 49 .bo]⟩ .l (.c (.s .l .l) .l)) (.s .l .l))))))
abbrev t_sParse:CTt:=[(21,C_sSplit),(80,C_sLineM),(81,C_sOutside_sParse)]
theorem walk_sParse (a0_s:List UInt8) (KK:(Lt.Program×Int×Int)->Prop):F_sParse a0_s KK=bodyT ⟨Tryd.prog,eU,t_sParse,eS,noP⟩ Tryd.f54 an_sParse [.s] [(.st .Program),(.i .i64),(.i .i64)] a0_s KK:=by kernel_rfl
theorem c_sParse:Cont Tryd.prog 54 C_sParse:=k0 ⟨Tryd.prog,eU,t_sParse,eS,noP⟩ (En.okc c_sSplit (En.okc c_sLineM (En.okc (Cont_inl En.ok0 mixed (fn:=Tryd.f81) (by kernel_rfl) (by kernel_rfl) (by kernel_rfl) (by kernel_rfl) (by kernel_rfl)) En.ok0))) mixed (fn:=Tryd.f54) an_sParse (by kernel_rfl) (by kernel_rfl) (fun a0_s KK h=>Eq.mp (walk_sParse a0_s KK) (law_sParse a0_s KK h))
def C_rProg:CKt:=pureT [(.st .Program)] [.bo] (fun x=>Lt.preRLines x) (fun x=>Lt.rProg x)
def an_rProg:An:=.s .l (.s .l (.s .l .l))
abbrev t_rProg:CTt:=[(19,C_Same),(33,C_rLines),(54,C_sParse)]
theorem walk_rProg (a0_p:Lt.Program) (KK:Bool->Prop):F_rProg a0_p KK=bodyT ⟨Tryd.prog,eU,t_rProg,[],noP⟩ Tryd.f32 an_rProg [(.st .Program)] [.bo] a0_p KK:=by kernel_rfl
theorem c_rProg:Cont Tryd.prog 32 C_rProg:=k1 ⟨Tryd.prog,eU,t_rProg,[],noP⟩ (En.okc c_Same (En.okc c_rLines (En.okc c_sParse En.ok0))) mixed (fn:=Tryd.f32) an_rProg (by kernel_rfl) (by kernel_rfl) (fun a0_p hp KK h=>Eq.mp (walk_rProg a0_p KK) (law_rProg a0_p hp KK h))
def C_rText:CKt:=pureT [(.st .Program)] [.s,(.i .i64)] (fun x=>Lt.preRLines x) (fun x=>Lt.rText x)
def an_rText:An:=.s .l (.s (.s .l (.c (.s .l .l) .l)) (.s .l .l))
abbrev t_rText:CTt:=[(32,C_rProg),(33,C_rLines)]
theorem walk_rText (a0_p:Lt.Program) (KK:(List UInt8×Int)->Prop):F_rText a0_p KK=bodyT ⟨Tryd.prog,eU,t_rText,[],noP⟩ Tryd.f11 an_rText [(.st .Program)] [.s,(.i .i64)] a0_p KK:=by kernel_rfl
theorem c_rText:Cont Tryd.prog 11 C_rText:=k1 ⟨Tryd.prog,eU,t_rText,[],noP⟩ (En.okc c_rProg (En.okc c_rLines En.ok0)) mixed (fn:=Tryd.f11) an_rText (by kernel_rfl) (by kernel_rfl) (fun a0_p hp KK h=>Eq.mp (walk_rText a0_p KK) (law_rText a0_p hp KK h))
def an_ShowTexts:An:=.s .l (.s (.j ⟨[1],[.loc 1],[],[.sl 13 .bo]⟩ .l (.c (.s .l .l) .l)) (.s .l (.s .l (.j ⟨[],[],[],[.sl 2 .bo]⟩ .l .l))))
abbrev t_ShowTexts:CTt:=[(8,C_awake),(9,C_Few),(10,C_showText),(11,C_rText),(12,C_showRight)]
theorem walk_ShowTexts (a0_p:Lt.Program) (KK:Bool->Prop):F_ShowTexts a0_p KK=bodyT ⟨Tryd.prog,eU,t_ShowTexts,[],noP⟩ Tryd.f3 an_ShowTexts [(.st .Program)] [.bo] a0_p KK:=by kernel_rfl
theorem en_ShowTexts:En.ok ⟨Tryd.prog,eU,t_ShowTexts,[],noP⟩:=(En.okc c_awake (En.okc c_Few (En.okc c_showText (En.okc c_rText (En.okc c_showRight En.ok0)))))
end Go.Am
end

section
namespace Go.Am
theorem AW_bodyT {e:En} (he:e.ok) (hm:e.P.follows .mixedOrders=true) {fn:Func} {an:An} {ps rs:List U} {g:G} (hg:g.nt=fn.ntmps) (hc:chkC fn.ntmps (fn.body.getD .skip)=true) {x:Fl ps} {KK:Fl rs->Prop} {K:AV->Prop}
  (hK:∀ r,KK r->K (resA rs r).toV) (h:bodyT e fn an ps rs x KK):AW e.P g (fn.body.getD .skip) (retQ e.P fn.results.toList K) ⟨entryT 0 (avs0 ps x),[]⟩:=by
 have h1:=AW_wpT (e:=⟨e.P,e.E,e.cs,e.sh,fun _ _=>False⟩) he hm (g:=g) _ an (entS ps x) _ (by rw [hg]; exact hc) h
 have e0:(entS ps x).toS=⟨entryT 0 (avs0 ps x),[]⟩:=drop_toS.S_ext (entT_toS 0 ps x) rfl
 rw [e0] at h1
 refine AW_postR h1 (fun ex s' a w h' hR=>?_)
 cases ex with
 | normal=>
  obtain ⟨t,rfl,ht⟩:=h'
  exact retT_ok hK ht hR
 | ret=>
  obtain ⟨t,rfl,ht⟩:=h'
  exact retT_ok hK ht hR
 | exit i=>exact h'.elim (fun t ht=>ht.2.elim)
 | panic c=>obtain ⟨_,_,_,_,_,hf⟩:=h'; exact hf.elim
 | _=>exact h'.elim
end Go.Am
end
