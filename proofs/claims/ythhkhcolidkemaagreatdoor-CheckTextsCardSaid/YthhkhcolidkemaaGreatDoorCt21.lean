/-
  Part 21: AmPutG · AmKDt · AmG42 · AmL45 · AmNice46 · AmG46 · AmZt · AmL46s · AmL46 · AmKT.
-/
import Derived.Test.YthhkhcolidkemaaGreatDoorCt20
import Derived.Laws.BytesString
import Derived.Laws.IdiomStrings
set_option linter.unusedSimpArgs false
set_option linter.unusedVariables false
set_option linter.unusedSectionVars false
set_option linter.unnecessarySimpa false
open Lt
open Go.Proofs.Tryz
open Go.IntKind (i64)
section
namespace Go.Proofs
open Go.RowKit Go
theorem S6(n:Int)(h:n.natAbs < 10)(w:World):Calls prog 246 #[.int .i64 n] w λe w'=>e=.returned (.int .u8 (48+n.natAbs:Nat))/\w'=w:=by
 go_enter func246,Tryz.ntmps246
 go_wp2<;>go_ret<;>refine⟨?_,rfl⟩<;>(show Ending.returned (Value.int .u8 _)=_;congr 2;omega)
theorem UQ{j r:Nat}(hj:j < 20)(w:World):(Instr.sliceAt 288 (.pointer (some ⟨r,0,none⟩)) (some (.int .i64 j)) none none).run prog w=.ok (.slice (some ⟨r,j,none⟩) (20-j) (20-j)) w:=by
 unfold Instr.sliceAt;rw[Sem.run_bind,run_underlying underlying288,Result.andThen_ok];have h:=run_sliceBound (P:=prog) w .i64 j 20 .sliceB kQ1 kQ1
 simp[Instr.sliceBounds,Instr.sureAddr,h,Result.andThen,sizeOf5,Am.eF,show ¬ 20=j by omega]
def vb(b:UInt8):Value:=.int .u8 b.toNat
theorem XH{l:List UInt8}{j k:Nat}(h:l.length=j+k)(w:World):(convert 82 9 (.slice (some ⟨w.heap.size,j,none⟩) k k)).run prog (w.alloc (.cells (l.map vb).toArray 288))=.ok (.string ⟨(l.drop j).toArray⟩) (w.alloc (.cells (l.map vb).toArray 288)):=by
 rw[run_convert_bytes_string _ 82 9 5 _ _ _ underlying82 underlying5 underlying9,run_bytesToString _ _ _ _ ((l.drop j).map λb=>(b.toNat:Int)) (by rw[show k=((l.drop j).map λb=>Value.int .u8 b.toNat).length by simp[h]];rw[alW];refine run_loadCells_list _ _ _ (λi v hk=>?_);rw[Am.eF,World.cell?_alloc_new];simpa[vb]using hk)]
 rw[foldl_push_byteCells];simp
def pm(a:Act)(_:World):Nat:=match a.tmps.getD 4 undef with
 |.int _ z=>z.toNat
 |_=>0
theorem wx{α:Type}{l:List α}{i:Nat}{c:α}(h:i<l.length):(l.set i c).drop i=c::l.drop (i+1):=by rw[akX (by simpa using h),List.getElem_set_self,List.drop_set];simp
set_option maxRecDepth 100000 in
set_option maxHeartbeats 4000000 in
theorem adY(n:Int)(hn:n.natAbs < 10 ^ 19)(w:World):Calls prog 233 #[.int .i64 n] w λe w'=>e=.returned (.string ⟨(aQ n).toArray⟩)/\Below w.heap.size w w':=by
 go_enter func233,Tryz.ntmps233
 go_wp2
 rename_i K L;refine wp_loop (λa w'=>∃(i:Nat)(r:Int)(l:List UInt8)(B G I J E D q b o p m x t u h y g j s d v z f:Value),(a=⟨#[.int .i64 n,B,G,.pointer (some ⟨w.heap.size,0,none⟩),.int .i64 (i+2:Nat),.int .i64 r,I,J,E,D,q,b,o,p,m,x,t,u,h,y,g,j,s,d,v,z,f],[]⟩/\w'=w.alloc (.cells (l.map vb).toArray 288))/\l.length=20/\i<=18/\r.natAbs < 10 ^ (i+1)/\Lt.digs n.natAbs=Lt.digs r.natAbs++l.drop (i+2)) pm ?_ ?_
 .exact⟨18,n,List.replicate 20 0,_,_,_,_,_,_,_,_,_,_,_,_,_,_,_,_,_,_,_,_,_,_,_,⟨rfl,rfl⟩,by simp,by omega,hn,by simp⟩
 rintro a w' ⟨i,r,l,B,G,I,J,E,D,q,b,o,p,m,x,t,u,h,y,g,j,s,d,v,z,f,⟨rfl,rfl⟩,h1,h2,h3,h4⟩
 have hd:(r.tmod 10).natAbs < 10:=by rw[Int.natAbs_tmod];exact amU _ (by decide)
 go_wp2_with (go_at_call 246;refine(S6 _ hd _).mono ?_;rintro e w' ⟨rfl,rfl⟩)
 any_goals (exfalso;rename Option.map _ _=none=>hz;simp at hz;omega)
 all_goals
  have hq:(r.tdiv 10).natAbs=r.natAbs / 10:=by rw[Int.natAbs_tdiv];rfl
  have hb:r.natAbs < 10 ^ 19:=Nat.lt_of_lt_of_le h3 (Nat.pow_le_pow_right (by decide) kQ1)
  have hw:wrap64 (r.tdiv 10)=r.tdiv 10:=by unfold wrap64;omega
  generalize hc:UInt8.ofNat (48+r.natAbs % 10)=c;have A:Value.int .u8 (48+(r.natAbs:Int) % 10)=vb c:=by subst hc;simp[vb];omega
  have H:((i:Int)+2 - 1)=((i+1:Nat):Int):=by omega
  have C:(((i+1:Nat):Int) - 1)=(i:Int):=by omega
  have F:Value.int .u8 45=vb 45:=rfl
 rotate_left 2
 .rename (_==(0:Int))=false=>hz
  rw[hw]at hz|-;simp only[beq_eq_false_iff_ne]at hz;obtain⟨k,rfl⟩:∃k,i=k+1:=by
   cases i with
   |zero=>omega
   |succ k=>exact⟨k,rfl⟩
  simp only[H,C,A,F,<- alB];refine⟨⟨k,_,_,_,_,_,_,_,_,_,_,_,_,_,_,_,_,_,_,_,_,_,_,_,_,_,⟨rfl,rfl⟩,by simpa using h1,by omega,?_,?_⟩,?_⟩
  .rw[hq];rw[Nat.pow_succ]at h3;omega
  .rw[h4,wx kQ1,hq,Lt.digs,if_neg kQ1,hc];simp
  simp[pm];omega
 all_goals
  rename (_==(0:Int))=true=>hz
  rw[hw,beq_iff_eq]at hz;rw[hz]at hq;simp only[H,C,A,F,<- alB];rw[UQ kQ1];simp only[Result.andThen];rw[Oper.upon_value]
  go_wp2
  simp only[<- alB];rw[XH (by simp;omega)];simp only[Result.andThen];rw[Oper.upon_value]
  go_wp2
  go_ret
  refine⟨?_,(Below.refl _ w).alloc (akK _) _⟩;show Ending.returned (Value.string _)=_
  have h5:Lt.digs n.natAbs=(l.set (i+1) c).drop (i+1):=by rw[h4,wx kQ1,Lt.digs,if_pos kQ1,<- hc,Nat.mod_eq_of_lt kQ1];rfl
  congr 3
  rw[aQ,h5]
 .rw[if_pos ‹_›,wx (by simp;omega)];rfl
 rw[if_neg kQ1];rfl
end Go.Proofs
namespace Go.Am
open Go Go.RowKit Go.Proofs
theorem SC:Cont prog 233 (Bc [.i .i64] [.s] (λx=>gA x) (λx=>aQ x)):=lb (iU (fn:=f233) kQ0 kQ0 kQ0) (λn args w H γ hp hl f g d=>by
 obtain⟨u,rfl⟩:∃u,args=[u]:=List.length_eq_one_iff.1 hl
 obtain⟨u',h0,h1⟩:=f 0 _ rfl;obtain rfl:u=u':=by simpa using h0
 obtain rfl:=Vh h1;have hp:Lt.inR n:=hp
 have hb:n.natAbs < 10 ^ 19:=by unfold Lt.inR at hp;omega
 refine(adY n hb w).mono ?_;rintro e w' ⟨rfl,a⟩
 refine⟨_,H,rfl,a,λ_ _ _ h=>h,λb o h1 h2=>absurd h2 h1,λb o x l c h1 h2=>by(rw[h2]at h1;cases h1),λb o y h=>(d b o y h).frame (a.block b (d b o y h).lt),?_⟩;exact(Vi (l:=aQ n) (by have:=o7 hp;unfold BIG;omega):AR w' H γ [] _ _))
end Go.Am
end

section
namespace Go.Am
open Go Go.Proofs
set_option maxRecDepth 100000
def eU:Ut:=[(58,(.st .Class)),(95,(.st .Var)),(60,(.st .Extern)),(36,(.st .Func)),(49,(.st .Block)),(88,(.st .Phi)),(54,(.st .Instr)),(9,.s),(44,(.st .Arg)),(147,(.st .Frame)),(151,(.st .Virt)),(64,(.st .Asked)),(79,(.st .Line)),(5,.b8),(90,(.st .In)),(4,.bo),(118,(.mp .s .bo)),(3,(.i .i64)),(149,(.st .Bind)),(134,(.sl (.i .i64))),(182,(.st .RLine)),(255,(.st .step))]
def eS:List (TypeId×List Sh):=[(27,[.fr,.ow [.fr,.ow [.fr,.fr]],.ow [.fr,.fr],.ow [.fr,.fr],.ow [.fr,.fr,.ow [.fr,.fr],.ow [.fr,.fr],.ow [.fr,.ow [.fr,.fr],.ow [.fr,.fr,.fr,.fr,.ow [.fr,.fr,.fr,.fr],.ow [.fr,.fr]],.fr,.fr,.fr,.fr,.fr,.fr]]]),(36,[.fr,.fr,.ow [.fr,.fr],.ow [.fr,.fr],.ow [.fr,.ow [.fr,.fr],.ow [.fr,.fr,.fr,.fr,.ow [.fr,.fr,.fr,.fr],.ow [.fr,.fr]],.fr,.fr,.fr,.fr,.fr,.fr]]),(49,[.fr,.ow [.fr,.fr],.ow [.fr,.fr,.fr,.fr,.ow [.fr,.fr,.fr,.fr],.ow [.fr,.fr]],.fr,.fr,.fr,.fr,.fr,.fr]),(54,[.fr,.fr,.fr,.fr,.ow [.fr,.fr,.fr,.fr],.ow [.fr,.fr]]),(58,[.fr,.ow [.fr,.fr]]),(73,[.fr,.ow [.fr,.ow [.fr,.fr]],.ow [.fr,.fr],.ow [.fr,.fr],.ow [.fr,.fr,.ow [.fr,.fr],.ow [.fr,.fr],.ow [.fr,.ow [.fr,.fr],.ow [.fr,.fr,.fr,.fr,.ow [.fr,.fr,.fr,.fr],.ow [.fr,.fr]],.fr,.fr,.fr,.fr,.fr,.fr]],.fr,.fr,.fr,.fr]),(74,[.fr,.ow [.fr,.ow [.fr,.fr]],.ow [.fr,.fr],.ow [.fr,.fr],.ow [.fr,.fr,.ow [.fr,.fr],.ow [.fr,.fr],.ow [.fr,.ow [.fr,.fr],.ow [.fr,.fr,.fr,.fr,.ow [.fr,.fr,.fr,.fr],.ow [.fr,.fr]],.fr,.fr,.fr,.fr,.fr,.fr]],.fr,.fr,.fr,.fr]),(157,[.fr,.ow [.fr,.ow [.fr,.fr]],.ow [.fr,.fr],.ow [.fr,.fr],.ow [.fr,.fr,.ow [.fr,.fr],.ow [.fr,.fr],.ow [.fr,.ow [.fr,.fr],.ow [.fr,.fr,.fr,.fr,.ow [.fr,.fr,.fr,.fr],.ow [.fr,.fr]],.fr,.fr,.fr,.fr,.fr,.fr]],.fr,.fr,.fr,.fr,.ow [.fr,.fr,.fr,.fr],.ow [.fr,.fr],.fr,.fr]),(158,[.fr,.ow [.fr,.ow [.fr,.fr]],.ow [.fr,.fr],.ow [.fr,.fr],.ow [.fr,.fr,.ow [.fr,.fr],.ow [.fr,.fr],.ow [.fr,.ow [.fr,.fr],.ow [.fr,.fr,.fr,.fr,.ow [.fr,.fr,.fr,.fr],.ow [.fr,.fr]],.fr,.fr,.fr,.fr,.fr,.fr]],.fr,.fr,.fr,.fr,.ow [.fr,.fr,.fr,.fr],.ow [.fr,.fr],.fr,.fr]),(179,[.fr,.ow [.fr,.ow [.fr,.fr]],.ow [.fr,.fr],.ow [.fr,.fr],.ow [.fr,.fr,.ow [.fr,.fr],.ow [.fr,.fr],.ow [.fr,.ow [.fr,.fr],.ow [.fr,.fr,.fr,.fr,.ow [.fr,.fr,.fr,.fr],.ow [.fr,.fr]],.fr,.fr,.fr,.fr,.fr,.fr]],.fr,.fr]),(180,[.fr,.ow [.fr,.ow [.fr,.fr]],.ow [.fr,.fr],.ow [.fr,.fr],.ow [.fr,.fr,.ow [.fr,.fr],.ow [.fr,.fr],.ow [.fr,.ow [.fr,.fr],.ow [.fr,.fr,.fr,.fr,.ow [.fr,.fr,.fr,.fr],.ow [.fr,.fr]],.fr,.fr,.fr,.fr,.fr,.fr]],.fr,.fr])]
variable{P:Program}{f:Nat}{u:Ut}{α:Type}
section
structure Ev (sh:List (TypeId×List Sh)) where
 cs:CTt
 ok:En.ok ⟨prog,eU,cs,sh,noP⟩
structure Cb (f:Nat) where
 C:CKt
 ok:Cont prog f C
structure Kb (f:Nat) where
 C:CKt
 ok:ContC prog f C
noncomputable abbrev Ev.en{sh:List (TypeId×List Sh)}(E:Ev sh):En:=⟨prog,eU,E.cs,sh,noP⟩
theorem En.ok0{sh:List (TypeId×List Sh)}{pk:PKt}:En.ok ⟨P,u,[],sh,pk⟩:=λ_ h=>by cases h
theorem En.okc{sh:List (TypeId×List Sh)}{pk:PKt}{C:CKt}{cs:CTt}(h:Cont P f C)(hs:En.ok ⟨P,u,cs,sh,pk⟩)(hf:Nat.blt f 1000000=true):En.ok ⟨P,u,(f,C)::cs,sh,pk⟩:=by
 intro x hx;rcases akU.1 hx with rfl|hx
 .exact⟨λ_=>h,λhb=>absurd hb (Nat.not_le.2 (akR hf))⟩
 exact hs x hx
theorem En.okk{sh:List (TypeId×List Sh)}{pk:PKt}{C:CKt}{cs:CTt}(h:ContC P f C)(hs:En.ok ⟨P,u,cs,sh,pk⟩):En.ok ⟨P,u,(f,C)::cs,sh,pk⟩:=by
 intro x hx;rcases akU.1 hx with rfl|hx
 .exact⟨λhb=>absurd h.big (Nat.not_le.2 (akR hb)),λ_=>h⟩
 exact hs x hx
theorem mixed:prog.follows .mixedOrders=true:=kQ0
def okF(n:Nat)(fn:Func):Bool:=fn.name != "runtime.NumGoroutine" && (fn.body.isSome&&(Nat.ble n fn.ntmps&&jZ fn.ntmps (fn.body.getD .skip)))
theorem dj{n:Nat}{fn:Func}(h:okF n fn=true):(fn.name == "runtime.NumGoroutine")=false/\fn.body.isSome=true/\Nat.ble n fn.ntmps=true/\jZ fn.ntmps (fn.body.getD .skip)=true:=by
 unfold okF at h;simp only[akI,bne,alC]at h;exact h
def aE:Nat->Nat->List Sg->(An->Nat->List Sg->An)->An
 |0,n,l,κ=>κ .l n l
 |k+1,n,l,κ=>match n % 8 with
  |0=>κ .l (n / 8) l
  |1=>aE k (n / 8) l λa n l=>aE k n l λb n l=>κ (.s a b) n l
  |2=>aE k (n / 8) l λa n l=>aE k n l λb n l=>κ (.c a b) n l
  |3=>aE k (n / 8) l λa n l=>κ (.b a) n l
  |4=>match l with
   |g::l=>aE k (n / 8) l λa n l=>aE k n l λb n l=>κ (.j g a b) n l
   |[]=>.l
  |5=>match l with
   |g::l=>aE k (n / 8) l λa n l=>κ (.lp g a) n l
   |[]=>.l
  |7=>match l with
   |g::l=>aE k (n / 8) l λa n l=>aE k n l λb n l=>κ (.a (g.ks.headD 0) (g.kr.headD (.loc 0)) a b) n l
   |[]=>.l
  |_=>aE k (n / 64) l λa m l=>κ (.un (n / 8 % 8) a) m l
def aD(n:Nat)(l:List Sg):An:=aE 200 n l λa _ _=>a
def dg:Nat->Nat->List Nat
 |0,_=>[]
 |k+1,n=>n % 64::dg k (n / 64)
def pk:List Nat->Nat->(Nat->α)->(Nat->α)->α
 |[],n,_,d=>d n
 |x::_,0,κ,_=>κ x
 |_::l,n+1,κ,d=>pk l n κ d
def d64:List Nat:=[0,1,2,3,4,5,6,7,8,9,10,11,12,13,14,15,16,17,18,19,20,21,22,23,24,25,26,27,28,29,30,31,32,33,34,35,36,37,38,39,40,41,42,43,44,45,46,47,48,49,50,51,52,53,54,55,56,57,58,59,60,61,62,63]
def d55:List Nat:=d64.take 55
def tN(l:List Nat)(κ:Nat->List Nat->α):α:=match l with
 |a::r=>pk d55 a (λa=>κ a r) λa=>match r with
  |b::r=>match a,r with
   |1,c::r=>κ (b+64*c) r
   |_,r=>pk [900000,0,100064,1000,2000,100000,100128,100192,800000] a (λe=>pk d64 b (λb=>κ (e+b) r) λ_=>κ 0 r) λ_=>κ 0 r
  |_=>κ 0 []
 |_=>κ 0 []
def tL:Nat->List Nat->(List Nat->List Nat->α)->α
 |0,l,κ=>κ [] l
 |k+1,l,κ=>tN l λa r=>tL k r λx r=>κ (a::x) r
def tC(l:List Nat)(κ:List Nat->List Nat->α):α:=tN l λk r=>tL k r κ
def g3:List Nat->List (Nat×Nm×Nat)
 |a::b::c::r=>(a,.loc b,c)::g3 r
 |_=>[]
def g2(t:List (Nat->Sp)):List Nat->List Sp
 |a::b::r=>t.getD a (λk=>.sl k .bo) b::g2 t r
 |_=>[]
def aN(t:List (Nat->Sp))(n:Nat)(l:List Nat):An:=aD n (l.map λn=>tC (dg 400 n) λks r=>tC r λg r=>tC r λl r=>tC r λo r=>tC r λp r=>tC r λq _=>⟨ks,g.map .gh++(l.map .loc++o.map .out),g3 p,g2 t q⟩)
abbrev uI:U:=.i .i64
variable {sh:List (TypeId×List Sh)}
noncomputable def eZ:Ev sh:=⟨[],En.ok0⟩
noncomputable def ad(c:Cb f)(E:Ev sh)(hf:Nat.blt f 1000000=true:=by rfl):Ev sh:=⟨(f,c.C)::E.cs,En.okc c.ok E.ok hf⟩
noncomputable def ak(c:Kb f)(E:Ev sh):Ev sh:=⟨(f,c.C)::E.cs,En.okk c.ok E.ok⟩
noncomputable def bA(c:Cb f):Cb f:=⟨apT c.C,aaF c.ok⟩
noncomputable def bS(t:Nat)(c d:Cb f):Cb f:=⟨aeC t c.C d.C,Vv c.ok d.ok⟩
noncomputable def bI(E:Ev sh)(f:Nat)(fn:Func)(an:An)(hf:prog.funcs[f]? = some fn:=by kernel_rfl)(hb:(okF 0 fn&&Nat.ble fn.ntmps 100000)=true:=by kernel_rfl):Cb f:=
 have h:=dj ((akI _ _).mp hb).1
 ⟨acT E.en fn an,Vq E.ok mixed hf h.1 h.2.1 h.2.2.2 ((akI _ _).mp hb).2⟩
noncomputable def bK(E:Ev sh)(f:Nat)(fn:Func)(an:An)(hf:prog.funcs[f]? = some fn:=by kernel_rfl)(hb:(okF 0 fn&&Nat.ble fn.ntmps 100000)=true:=by kernel_rfl):Kb (f+1000000):=
 have h:=dj ((akI _ _).mp hb).1
 ⟨acS E.en fn an,Vp E.ok mixed hf h.1 h.2.1 h.2.2.2 ((akI _ _).mp hb).2⟩
noncomputable def b0(E:Ev sh)(fn:Func)(an:An)(ps rs:List U){F:Fl ps->Fl rs}{G:Fl ps->(Fl rs->Prop)->Prop}(a:∀x,∀KK:Fl rs->Prop,KK (F x)->G x KK)(hw:∀x KK KP,G x KK=wj E.en fn an ps rs x KK KP:=by intros;kernel_rfl)(hf:prog.funcs[f]? = some fn:=by kernel_rfl)(hb:okF ps.length fn=true:=by kernel_rfl):Cb f:=⟨Bd ps rs F,ue E.ok mixed hf (dj hb).1 (dj hb).2.1 (λ_ _ _ _ h h'=>h _ h') (dj hb).2.2.1 (dj hb).2.2.2 λx KK KP h=>hw x KK KP ▸ a x KK h⟩
noncomputable def b8(E:Ev sh)(fn:Func)(an:An)(ps rs:List U){pre:Fl ps->Prop}{post:Fl ps->Fl rs->Prop}{G:Fl ps->(Fl rs->Prop)->Prop}(a:∀x,pre x->∀KK:Fl rs->Prop,(∀y,post x y->KK y)->G x KK)(hw:∀x KK KP,G x KK=wj E.en fn an ps rs x KK KP:=by intros;kernel_rfl)(hf:prog.funcs[f]? = some fn:=by kernel_rfl)(hb:okF ps.length fn=true:=by kernel_rfl):Cb f:=⟨afL ps rs pre post,ue E.ok mixed hf (dj hb).1 (dj hb).2.1 (λ_ _ _ _ h h'=>⟨h'.1,λy hy=>h y (h'.2 y hy)⟩) (dj hb).2.2.1 (dj hb).2.2.2 λx KK KP h=>hw x KK KP ▸ a x h.1 KK h.2⟩
noncomputable def b1(E:Ev sh)(fn:Func)(an:An)(ps rs:List U){pre:Fl ps->Prop}{F:Fl ps->Fl rs}{G:Fl ps->(Fl rs->Prop)->Prop}(a:∀x,pre x->∀KK:Fl rs->Prop,KK (F x)->G x KK)(hw:∀x KK KP,G x KK=wj E.en fn an ps rs x KK KP:=by intros;kernel_rfl)(hf:prog.funcs[f]? = some fn:=by kernel_rfl)(hb:okF ps.length fn=true:=by kernel_rfl):Cb f:=⟨Bc ps rs pre F,ue E.ok mixed hf (dj hb).1 (dj hb).2.1 (λ_ _ _ _ h h'=>⟨h'.1,h _ h'.2⟩) (dj hb).2.2.1 (dj hb).2.2.2 λx KK KP h=>hw x KK KP ▸ a x h.1 KK h.2⟩
theorem XN{r:Except Value α}{K K':α->Prop}{KP:Value->Prop}(h:∀y,K y->K' y)(hq:exQ r K KP):exQ r K' KP:=by
 cases r with
 |ok a=>exact h _ hq
 |error v=>exact hq
noncomputable def b4(E:Ev sh)(fn:Func)(an:An)(ps rs:List U){pre:Fl ps->Prop}{F:Fl ps->Except Value (Fl rs)}{G:Fl ps->(Fl rs->Prop)->(Value->Prop)->Prop}(a:∀x,pre x->∀(KK:Fl rs->Prop) (KP:Value->Prop),exQ (F x) KK KP->G x KK KP)(hw:∀x KK KP,G x KK KP=wj E.en fn an ps rs x KK KP:=by intros;kernel_rfl)(hf:prog.funcs[f]? = some fn:=by kernel_rfl)(hb:okF ps.length fn=true:=by kernel_rfl):Cb f:=⟨ahZ ps rs pre F,ue E.ok mixed hf (dj hb).1 (dj hb).2.1 (λ_ _ _ _ h h'=>⟨h'.1,XN h h'.2⟩) (dj hb).2.2.1 (dj hb).2.2.2 λx KK KP h=>hw x KK KP ▸ a x h.1 KK KP h.2⟩
noncomputable def b5(E:Ev sh)(fn:Func)(an:An)(a:List Sh)(u:U)(ps rs:List U){pre:El u->Fl ps->Prop}{F:El u->Fl ps->Except Value (Fl rs)×El u}{G:El u->Fl ps->(Fl rs×El u->Prop)->(Value->El u->Prop)->Prop}(b:∀x y,pre x y->∀(KK:Fl rs×El u->Prop) (KP:Value->El u->Prop),exP (F x y) (λz x'=>KK (z,x')) KP->G x y KK KP)(hw:∀x y KK KP,G x y KK KP=yr E.en fn an a u ps rs x y KK KP:=by intros;kernel_rfl)(hf:prog.funcs[f]? = some fn:=by kernel_rfl)(hb:okF (ps.length+1) fn=true:=by kernel_rfl):Cb f:=⟨KZ a u ps rs pre F,Ct E.ok mixed hf (dj hb).1 (dj hb).2.1 (dj hb).2.2.1 (dj hb).2.2.2 λx y hp KK KP h=>hw x y KK KP ▸ b x y hp KK KP h⟩
def rgI:Code->Nat
 |.region id _ _=>id
 |_=>0
def rgO(c:Code)(i:Nat):Oper:=match c with
 |.region _ l _=>l.getD i default
 |_=>default
noncomputable def b6(E:Ev sh)(fn:Func)(an:An)(ps rs:List U){pre:Fl ps->Prop}{F:Fl ps->Fl rs}{G:Fl ps->(Fl rs->Prop)->Prop}(a:∀x,pre x->∀KK:Fl rs->Prop,KK (F x)->G x KK)(hw:∀x KK,G x KK=Iz E.en fn an ps rs x KK:=by intros;kernel_rfl)(hf:prog.funcs[f]? = some fn:=by kernel_rfl)(hb:okF ps.length fn=true:=by kernel_rfl):Cb f:=⟨YL ps rs pre F,Rp E.ok mixed hf (dj hb).1 (dj hb).2.1 (dj hb).2.2.1 (dj hb).2.2.2 λx hp KK h=>hw x KK ▸ a x hp KK h⟩
def tA:List (Nat->Sp):=[(.sl · .bo),(.sl · uI),λk=>.mp (.gh k) .s .bo,(.ow · [.fr,.fr] (.st .Var)),(.ow · [.fr] .bo),(.ow · [.fr] uI),λk=>.rt (.loc k) [.fr,.fr,.fr,.fr,.fr,.fr,.fr,.fr,.fr] (.st .Block),λk=>.mp (.gh k) .s uI,λk=>.rt (.loc k) [.fr,.fr] (.st .Var),λk=>.rt (.loc k) [.fr,.fr,.fr,.fr,.fr,.fr,.fr,.fr,.fr,.fr,.fr,.fr,.ow []] (.st .asked),λk=>.rt (.loc k) [.fr,.fr,.fr,.fr,.fr,.fr,.fr,.fr,.fr,.fr,.fr,.fr,.ow [.fr]] (.st .asked),(.ow · [.ow [.fr]] (.sl uI)),λk=>.gw (.gh k) [.fr] uI,(.ow · [.fr,.fr] (.st .step)),λk=>.it (.gh k) .s .bo,(.ow · [.fr] (.mp .s .bo)),(.sl · (.mp .s .bo)),λk=>.mp (.gh k) .s (.mp .s .bo),(.ow · [.fr] .s),(.ow · [.fr,.fr] (.st .Line)),(.sl · (.i .u64)),(.ow · [.fr,.fr,.fr] (.st .Arg)),(.sl · (.sl .s)),λk=>.rt (.loc k) [.fr,.fr,.fr,.ow [],.ow [],.ow []] (.st .Instr),λk=>.rt (.loc k) [.fr,.fr,.fr,.fr,.ow [],.ow []] (.st .Instr),λk=>.rt (.out k) [.fr,.ow [.fr,.ow [.fr,.fr]],.ow [.fr,.fr],.ow [.fr,.fr],.ow [.fr,.fr,.ow [.fr,.fr],.ow [.fr,.fr],.ow [.fr,.ow [.fr,.fr],.ow [.fr,.fr,.fr,.fr,.ow [.fr,.fr,.fr,.fr],.ow [.fr,.fr]],.fr,.fr,.fr,.fr,.fr,.fr]],.fr,.fr,.fr,.fr] (.st .Reader),λk=>.rt (.loc k) [.fr,.fr] (.st .Extern),λk=>.rt (.loc k) [.fr,.fr,.ow [],.ow [],.ow []] (.st .Func),λk=>.rt (.loc k) [.fr,.ow [.fr,.fr,.fr,.fr]] (.st .Phi),λk=>.rt (.loc k) [.fr,.fr,.fr,.ow []] (.st .Frame),λk=>.rt (.loc k) [.fr,.fr,.fr,.ow [.fr,.fr,.fr,.fr]] (.st .Frame),λk=>.rt (.loc k) [.fr,.fr] (.st .Virt),λk=>.rt (.loc k) [.fr,.fr,.fr,.fr,.ow [.fr],.fr] (.st .Term),λk=>.rt (.loc k) [.fr,.ow [],.ow [],.ow [],.ow []] (.st .Program),λk=>.rt (.loc k) [.fr] uI]
abbrev eO:List (TypeId×List Sh):=[(7000000,[])]
abbrev eP:List (TypeId×List Sh):=[(134,[.ow [.fr]])]
abbrev eR:List (TypeId×List Sh):=[(3000035,[])]
abbrev eV:List (TypeId×List Sh):=[(8000033,[])]
abbrev eW:List (TypeId×List Sh):=[(3000053,[])]
noncomputable def SB:Cb 175:=⟨_,Mz⟩
noncomputable def Mx:Cb 75:=⟨_,WX⟩
noncomputable def WT:Cb 76:=⟨_,agK⟩
noncomputable def Sw:Cb 264:=⟨_,abJ⟩
noncomputable def Mw:Cb 265:=⟨_,WW⟩
noncomputable def EK:Cb 78:=⟨_,MK⟩
noncomputable def af:Cb 151:=⟨_,Xh⟩
noncomputable def W5:Cb 233:=⟨_,SC⟩
noncomputable def W3:Cb 89:=b0 (eZ:Ev []) f89 (aN tA 0x101 [0x80080000000]) [.b8] [.bo] Nk
noncomputable def agL:Cb 90:=b0 (eZ:Ev []) f90 (aN tA 0x101 [0x80080000000]) [.s] [.bo] Yr
noncomputable def IM:Cb 91:=b0 (eZ:Ev []) f91 (aN tA 0x41 []) [.b8] [.bo] Cc
noncomputable def jj:Cb 47:=b0 ((ad W3 (ad agL (ad IM eZ))):Ev []) f47 (aN tA 0x80014202c8088358240050841 [0x14002000000001,0x5c1080000016002,0x250020000005d6003]) [.s] [.bo] Yo
noncomputable def W0:Cb 88:=b0 ((ad jj eZ):Ev []) f88 (aN tA 0x101 [0x80080000000]) [.s] [.bo] Ys
noncomputable def Qk:Cb 46:=b0 ((ad jj (ad W0 eZ)):Ev []) f46 (aN tA 0x80014202c8088358240050241 [0x34108000000c2c2,0x1a00200000034c2c3]) [.sl (.st .Var),uI] [.bo] (λx=>T7 x.1 x.2)
noncomputable def Qi:Cb 247:=b0 (eZ:Ev []) f247 (aN tA 0x40050841 [0xa002000000001]) [uI] [uI] TE
noncomputable def IN:Cb 234:=b0 ((ad jj (ad Qi eZ)):Ev []) f234 (aN tA 0x802204028102204028100a058241 [0x80080000000,0x80080000000]) [.st .Arg] [.bo] Ce
noncomputable def oD:Cb 200:=b0 ((ad IN eZ):Ev []) f200 (aN tA 0x80014202c8088358241 [0x9042000000207043,0x600080000009207044]) [.sl (.st .Arg),.bo] [.bo] (λx=>Fo x.1 x.2)
noncomputable def SO:Cb 155:=b0 ((ad jj (ad oD eZ)):Ev []) f155 (aN tA 0x4005020440811020440b0482080014082c8088358241 [0x281080001040248043,0x80080000000,0x80080000000,0x80080000000]) [.st .Term] [.bo] Ka
noncomputable def ai3:Cb 156:=b0 ((ad jj (ad oD eZ)):Ev []) f156 (aN tA 0x80014202c8088358240050841 [0x500080001040041,0x601080000017582,0x26002000000617583]) [.st .Phi] [.bo] ac3
noncomputable def ai2:Cb 198:=b0 (eZ:Ev []) f198 (aN tA 0x20000a04120204b80204d609041 [0x6045041046000000001,0x141041100000006002]) [.s,uI] [.s] (λx=>ac2 x.1 x.2)
noncomputable def abD:Cb 147:=b0 ((ad ai2 eZ):Ev []) f147 (aN tA 0x4005020140805020140805020140805020140805020140b04800a100284641 [0x4002000081002002,0xe002000081002002]) [uI] [.st .Form,.bo] ahN
noncomputable def abI:Cb 201:=b0 ((ad jj (ad oD eZ)):Ev []) f201 (aN tA 0x80014202c8088358240050841 [0x780080001040041,0x881080000021802,0x300020000008a1803]) [.st .Frame] [.bo] TJ
noncomputable def abK:Cb 157:=b0 ((ad jj (ad abD (ad oD (ad abI eZ)))):Ev []) f157 (aN tA 0x4000a101640441ac120005020b20220d609001421001421001421041 [0xd00080003042003042,0x54e00080001040041,0x5ce00080001040041,0x6ae01080001040069e01a38043,0x75e01080000001d38073e02,0x2238002000000075e01d38073e03]) [.st .Instr] [.bo] TL
noncomputable def abG:Cb 92:=b0 ((ad jj (ad SO (ad ai3 (ad abK eZ)))):Ev []) f92 (aN tA 0x100028105901106b0480014082c8088358240050841 [0x400080001040041,0x5010800010404d2043,0x7c108000001e742]) [.st .Block] [.bo] TH
noncomputable def zP:Cb 48:=b0 ((ad Qk (ad jj (ad W0 (ad abG eZ)))):Ev []) f48 (aN tA 0x800142020028420b20220d609040050841 [0x9c0080001040041,0xac10c110000002aa42,0x38e00080005040aeaa450c5,0x48e0008000002baa90c4]) [.st .Func] [.bo] wI
noncomputable def IJ:Cb 19:=b0 ((ad Qk (ad jj (ad zP eZ))):Ev []) f19 (aN tA 0x20005020b20220d60900028405901106b0480014202c8088358240050841 [0x780080001040041,0x881080001040860043,0x2f002000041022860044,0xd01080001040cf2043,0x1178002000041034cf2044,0x4ae01080000001278048e02]) [.st .Program] [.bo] B8
noncomputable def Sx:Cb 20:=b0 (eZ:Ev []) f20 (aN tA 0x2000014202c808835820028120b20220d6082c8088358241 [0x3010800010402ca043,0x1304200004101244c2ca046,0x78108000104075c4d244c2ca049,0x2b00200004101e75c4d244c2ca04a]) [.st .Program] [.bo] JL
noncomputable def WU:Cb 11:=b1 (eZ:Ev []) f11 (aN tA 0x800b20220d609041 [0x2410c11000000081c2]) [.st .Func] [uI] Nb
noncomputable def My:Cb 22:=b1 ((ad WU eZ):Ev []) f22 (aN tA 0x80014202c8088358241 [0x201080000007182,0x1e002000000207183]) [.st .Program] [.bo] E9
noncomputable def zQ:Cb 95:=b0 ((ad (bA (bI ((ad (bA (bI (eZ:Ev []) 50 f50 (aN tA 0x41 []))) eZ):Ev []) 158 f158 (aN tA 0x2080014082c8088358241 [0x34108000613a0ba0c023c1fc1bc17c13c0bc07c03c30b18204d]))) eZ):Ev []) f95 (aN tA 0x41 []) [.st .Program,.s] [.st .Class,.bo] (λx=>NM x.1 x.2)
noncomputable def IL:Cb 56:=b0 ((ad zQ eZ):Ev []) f56 (aN tA 0x4041 [0x100080000000]) [.st .Program,.s] [.bo] (λx=>NQ x.1 x.2)
noncomputable def IK:Cb 55:=b0 ((ad IL (ad (bA (bI ((ad (bS 17 (bA (bI (eZ:Ev []) 94 f94 (aN tA 0x41 []))) (bA (bI (eZ:Ev []) 94 f94 (aN tA 0x41 [])))) eZ):Ev []) 93 f93 (aN tA 0x800028120b20220d609041 [0x2022c1100002e81013f0af09f08f07f02f01f0a24504b]))) eZ)):Ev []) f55 (aN tA 0x80014082c8088358241 [0x90420000810081c2044]) [.st .Program,.sl (.st .Var)] [.bo] (λx=>B9 x.1 x.2)
noncomputable def Xr:Cb 24:=b1 ((ad (bA (bI ((ad (bS 17 (bA (bI (eZ:Ev []) 50 f50 (aN tA 0x41 []))) (bA (bI (eZ:Ev []) 50 f50 (aN tA 0x41 [])))) eZ):Ev []) 49 f49 (aN tA 0x800028120b20220d609041 [0x2022c1100001e81009f08f02f01f00f0a245049]))) (ad (bA (bI ((ad (bS 17 (bA (bI (eZ:Ev []) 52 f52 (aN tA 0x41 []))) (bA (bI (eZ:Ev []) 52 f52 (aN tA 0x41 [])))) eZ):Ev []) 51 f51 (aN tA 0x800028120b20220d609041 [0x2022c1100001ec100ef0df0cf0bf0af09f08f02f01f00f0a24504e]))) (ad (bA (bI ((ad (bS 17 (bA (bI (eZ:Ev []) 54 f54 (aN tA 0x41 []))) (bA (bI (eZ:Ev []) 54 f54 (aN tA 0x41 [])))) eZ):Ev []) 53 f53 (aN tA 0x800028120b20220d609041 [0x2022c1100001e81014f13f12f11f10f0ff0ef0df0cf0bf0af09f08f02f01f00f0a245054]))) (ad IK (ad IL eZ))))):Ev []) f24 (aN tA 0x4000a10405901106b0480014082c8088358240050841 [0x780080001040041,0x881080001040860043,0xbc1080001040bad043,0x70c2000181080beeb46045,0x113800200004102fbad044]) [.st .Program] [.bo] NO
noncomputable def SN:Cb 26:=b1 ((ad (bA (bI (eZ:Ev []) 57 f57 (aN tA 0x20000a04120b20220d609041 [0xc1d004400007a04033c2bc27c23c1fc0bc07c03c3ce10b]))) (ad (bA (bI (eZ:Ev []) 58 f58 (aN tA 0x400002840482c80883582082c8088358241 [0xf04200007b04ce8153c4fc4bc47c43c3fc3bc37c33c2fc2bc27c23c1fc13c0fc0bc07c03c38d056,0x1309804400007b04ce8153c4fc4bc47c43c3fc3bc37c33c2fc2bc27c23c1fc13c0fc0bc07c03c5d63ce34705a,0xb00080001ec14cce8253c4fc4bc47c43c3fc3bc37c33c2fc2bc27c23c1fc13c0fc0bc07c03c61758f38d24705c]))) (ad (bA (bI (eZ:Ev eR) 59 f59 (aN tA 0x4000a04105c01106b041118081359041041 [0x614510400007b08233a059f18f17f16f15f14f13f12f11f10f0ff0ef0df0cf0bf0af09f08f07f04f03f02f01f00f0205a,0x1c60801c70c007b0821b717733a0d9f18f17f16f15f14f13f12f11f10f0ff0ef0df0cf0bf0af09f08f07f04f03f02f01f00f0614205c,0x2804614510600007b08233a059f18f17f16f15f14f13f12f11f10f0ff0ef0df0cf0bf0af09f08f07f04f03f02f01f00f2798205c,0x185144100001ec208ce8167c63c5fc5bc57c53c4fc4bc47c43c3fc3bc37c33c2fc2bc27c23c1fc13c0fc0bc07c03ca2798205d]))) eZ))):Ev []) f26 (aN tA 0x20005020b20220d609001409040050241 [0x70108000017705b682]) [.st .Func] [.bo] J0
noncomputable def xz:Cb 159:=b0 ((ad (bS 10 (bA (bI ((ad (bA (bI (eZ:Ev []) 94 f94 (aN tA 0x41 []))) eZ):Ev []) 202 f202 (aN tA 0x2080014082c8088358241 [0x34108000613a0ba0c02fc2bc27c17c13c0bc07c03c30b18204d]))) (bA (bI ((ad (bA (bI (eZ:Ev []) 94 f94 (aN tA 0x41 []))) eZ):Ev []) 202 f202 (aN tA 0x2080014082c8088358241 [0x3410800061ba13a0ba1004fc4bc47c3fc1fc1bc13c0bc07c30b18204e])))) eZ):Ev []) f159 (aN tA 0x1001408841 [0x1881c01001860c0102080102043]) [.st .Func,.s] [.st .Var,.bo] (λx=>Ca x.1 x.2)
noncomputable def ae5:Cb 98:=b0 ((ad xz eZ):Ev []) f98 (aN tA 0x800a04028100a04020a058241 []) [.st .Func,.st .Arg] [.s,.bo] (λx=>ac6 x.1 x.2)
noncomputable def agO:Cb 96:=b1 ((ad ae5 (ad abD (ad xz eZ))):Ev eO) f96 (aN tA 0x80002812082c8088358240001409050301001421041 [0xa000800081851031402061440c5,0xa24200018510300a185104,0xa280ff804400018408003ee00f78286105]) [.st .Program,.st .Func,.st .Instr] [.st .asked,.bo] (λx=>YB x.1 x.2.1 x.2.2)
noncomputable def MI:Cb 168:=b0 (eZ:Ev []) f168 (aN tA 0x41 []) [.s] [.bo] YE
noncomputable def yv:Cb 99:=b0 ((ad MI eZ):Ev []) f99 (aN tA 0x101 [0x100080000000]) [.s,.s] [.bo] (λx=>T3 x.1 x.2)
noncomputable def abY:Cb 160:=b0 (eZ:Ev []) f160 (aN tA 0x80014082c8088358241 [0x3010800030402ca0c2045]) [.st .asked,.s,.s] [.bo] (λx=>T6 x.1 x.2.1 x.2.2)
noncomputable def Xq:Cb 166:=b0 ((ad yv eZ):Ev []) f166 (aN tA 0x80014082c8088358240050241 [0xe04200000034c043]) [.sl .s,.sl (.st .Var)] [.bo] (λx=>YD x.1 x.2)
noncomputable def Xt:Cb 161:=b0 ((ad zQ (ad Xq eZ)):Ev []) f161 (aN tA 0x4041 [0x80080000000]) [.st .asked] [.bo] NR
noncomputable def Xp:Cb 203:=b0 ((ad zQ (ad (bA (bI ((ad (bA (bI (eZ:Ev []) 94 f94 (aN tA 0x41 []))) eZ):Ev []) 202 f202 (aN tA 0x2080014082c8088358241 [0x34108000623a1ba0fa10057c53c4fc47c43c3fc3bc37c33c2fc2bc27c23c1fc1bc0fc0bc07c03c30b182058]))) eZ)):Ev []) f203 (aN tA 0x1001409041 []) [.st .Program,.s,.s] [.st .Var,.bo] (λx=>NN x.1 x.2.1 x.2.2)
noncomputable def SS:Cb 162:=b1 ((ad Xp eZ):Ev []) f162 (aN tA 0x40050241 []) [.st .asked] [.st .Var,.bo] Kf
noncomputable def abX:Cb 163:=b0 ((ad MI eZ):Ev []) f163 (aN tA 0x101 [0x100080000000]) [.s,.s] [.bo] (λx=>T5 x.1 x.2)
noncomputable def SR:Cb 204:=b0 ((ad (bA (bI ((ad (bA (bI (eZ:Ev []) 94 f94 (aN tA 0x41 []))) eZ):Ev []) 202 f202 (aN tA 0x2080014082c8088358241 [0x34108000613a0ba0c023c1fc1bc17c13c0bc07c03c30b18204d]))) eZ):Ev []) f204 (aN tA 0x41 []) [.st .Program,.s] [.st .Var,.bo] (λx=>Ke x.1 x.2)
noncomputable def MJ:Cb 164:=b1 ((ad yv (ad SR eZ)):Ev []) f164 (aN tA 0x1001409041 []) [.st .asked] [.bo] Fq
noncomputable def abW:Cb 165:=b0 ((ad (bA (bI ((ad (bA (bI (eZ:Ev []) 54 f54 (aN tA 0x41 []))) eZ):Ev []) 205 f205 (aN tA 0x2080014082c8088358241 [0x34108000613a0ba0c023c1fc1bc17c13c0bc07c03c30b18204d]))) eZ):Ev []) f165 (aN tA 0x41 []) [.st .Program,.s] [.st .Func,.bo] (λx=>T4 x.1 x.2)
noncomputable def SQ:Cb 167:=b0 ((ad (bA (bI ((ad (bA (bI (eZ:Ev []) 52 f52 (aN tA 0x41 []))) eZ):Ev []) 206 f206 (aN tA 0x2080014082c8088358241 [0x34108000613a0ba0c023c1fc1bc17c13c0bc07c03c30b18204d]))) eZ):Ev []) f167 (aN tA 0x41 []) [.st .Program,.s] [.st .Extern,.bo] (λx=>Kd x.1 x.2)
noncomputable def SU:Cb 97:=b1 ((ad yv (ad abY (ad Xt (ad SS (ad abX (ad MJ (ad abW (ad Xq (ad SQ (ad MI eZ)))))))))):Ev []) f97 (aN tA 0x100140810140810140805008180140804140804140805020140805020140b04800a04028100a058241 [0x19b8002000041020042,0x80080000000,0x80080000000]) [.st .asked] [.bo] Kg
noncomputable def Xs:Cb 60:=b1 ((ad agO (ad SU eZ)):Ev []) f60 (aN tA 0x1041 []) [.st .Program,.st .Func,.st .Instr] [.bo] (λx=>NP x.1 x.2.1 x.2.2)
noncomputable def agP:Cb 61:=b0 ((ad ae5 (ad yv eZ)):Ev []) f61 (aN tA 0x800a04028100a040281609041 []) [.st .Func,.st .Term] [.bo] (λx=>YC x.1 x.2)
noncomputable def Sy:Cb 28:=b1 ((ad Xs (ad agP eZ)):Ev []) f28 (aN tA 0x100028100028105901106b0482c8088358241 [0x30108000308200b283084,0x1304200018308301244c2ca183088]) [.st .Program,.st .Func] [.bo] (λx=>JM x.1 x.2)
noncomputable def IC:Cb 64:=b1 ((ad ⟨_,zJ⟩ eZ):Ev []) f64 (aN tA 0x801020b80220d609041 [0x3f08d04400000030b143,0xfc208000000d30b144]) [.mp .s .bo,.st .Block] [.mp .s .bo] (λx=>M7 x.1 x.2)
noncomputable def SP:Cb 169:=b0 (eZ:Ev []) f169 (aN tA 0x80014082c8088358241 [0xb042000000289043]) [.st .Func,.s] [uI,.bo] (λx=>Kc x.1 x.2)
noncomputable def agJ:Cb 100:=b1 ((ad SP eZ):Ev eP) f100 (aN tA 0x400102082e008835820b20220d609041 [0x4410cb10000104040f043,0x6810cb1000010406584503c4047,0x32c200004101a6584503c4048]) [.st .Func] [.sl (.sl uI)] Yq
noncomputable def abL:Cb 207:=b0 (eZ:Ev []) f207 (aN tA 0x80014082c8088358241 [0x80420000001c1003]) [.sl uI,uI] [uI] (λx=>TM x.1 x.2)
noncomputable def WY:Cb 170:=b6 ((ad abL eZ):Ev []) f170 (aN tA 0x41 []) [.sl uI,uI] [.bo] (λx(_:True)=>Nf x.1 x.2)
noncomputable def SA:Cb 101:=b1 ((ad WY eZ):Ev eP) f101 (aN tA 0x10004202e008835820b20220d609041 [0xd0432c400000030b003,0x140432c40000004d234c2c4007,0xcb0800000144d234c2c4008,0xa000800000f70544d234c2c710300a]) [.sl (.sl uI)] [.sl (.sl uI)] JO
noncomputable def Sz:Cb 102:=b8 ((ad (bA (bI (eZ:Ev eW) 171 f171 (aN tA 0x20028404100105024160204d641040050241041 [0x63451441060000001bc0bc03c004,0x1638002000006dc5dc4dc31bc0bc03c206144008]))) (ad (bA (bI (eZ:Ev eO) 172 f172 (aN tA 0x640409ac1 [0x1373030420460000002bc13c003]))) eZ)):Ev eO) f102 (aN tA 0x41101 [0x105080000000]) [.sl (.sl uI)] [.sl uI] JN
noncomputable def Mv:Cb 103:=b0 (eZ:Ev []) f103 (aN tA 0x800b20220d609041 [0x608a0440000002480c3]) [.st .Func] [.mp .s .bo] E7
noncomputable def WR:Cb 104:=b8 (eZ:Ev []) f104 (aN tA 0x20204160220d609040050241 [0xc38a084000000305043]) [.mp .s .bo,.mp .s .bo] [.mp .s .bo] (λx=>M9 x.1 x.2)
noncomputable def WQ:Cb 105:=b1 ((ad ⟨_,zJ⟩ eZ):Ev []) f105 (aN tA 0x800b20220d609041 [0x3f08d04400000030b143]) [.mp .s .bo,.st .Block] [.mp .s .bo] (λx=>M8 x.1 x.2)
noncomputable def abE:Cb 62:=b8 ((ad IC (ad agJ (ad SA (ad Sz (ad Mv (ad WR (ad WQ eZ))))))):Ev []) f62 (aN tA 0x800212020206001020b80220d60901030105901106b04160204d609041041041 [0x2001cf18f180001040144043,0x7c12001cf18f20000104079d144045,0xb4020000411f71b709f79d2881c614404a,0x2c04b4040000411f71b70aba9f79d2881c614404c,0x2d0080001047dc6dc2b2ba9f79d2881c614404d,0xb4020000411f71b709f79d2881c614404a,0x80020000411f71b709f79d2ca1c614404a,0x54e00080001047dc6dc27de74b2881c614404b]) [.st .Func] [.sl (.mp .s .bo)] TF
noncomputable def W4:Cb 108:=b8 ((ad (bA (bI ((ad (bS 21 (bA (bI (eZ:Ev []) 208 f208 (aN tA 0x2041 []))) (bS 39 (bA (bI (eZ:Ev []) 208 f208 (aN tA 0x2041 []))) (bA (bI (eZ:Ev []) 208 f208 (aN tA 0x2041 []))))) eZ):Ev []) 174 f174 (aN tA 0xb80220d6082c808835820005c01106b041640441ac12002e0088358241 [0x13a0910440000c1e82006f05f04f03f02f01f00f103c300b,0x4e8208000307a0801bc17c13c0fc0bc07c03c4503c300c,0x13a09c0440000c1e82006f05f04f03f02f01f00f1b68300b,0x4e828c110000307a0801bc17c13c0fc0bc07c03c8a171b68300e,0x13a0820000c1e82006f05f04f03f02f01f00f238a171b68300f,0x13a0b004400007a0401bc17c13c0fc0bc07c03cbee00a,0x4e82037e01100001e81006f05f04f03f02f01f00f36d70bee00d,0x13a08200007a0401bc17c13c0fc0bc07c03c037e36d70bee00e]))) (ad SB eZ)):Ev []) f108 (aN tA 0x41041 []) [.st .Instr] [.sl .s] Nl
noncomputable def Sr:Cb 63:=b1 ((ad ⟨_,zJ⟩ (ad (bA (bI (eZ:Ev []) 107 f107 (aN tA 0x80014082c8088358241 [0x90420001fa0fa080fc14fc4bc47c43c3fc3bc37c33c2fc1fc17c0fc20700f]))) (ad W4 (ad (bA (bI (eZ:Ev []) 109 f109 (aN tA 0x41 []))) eZ)))):Ev []) f63 (aN tA 0x2001020028420b80220d609041 [0x3f08d0440000c100c2c50c4,0xfc208000304034c2c50c5,0x5400800070c203f04d30b1c50c6,0x100080000000]) [.mp .s .bo,.st .Block] [.bo] (λx=>JH x.1 x.2)
noncomputable def abM:Cb 211:=b0 (eZ:Ev []) f211 (aN tA 0x80014082c8088358241 [0x80420000001c1003]) [.sl .s,.s] [uI] (λx=>TN x.1 x.2)
noncomputable def WZ:Cb 176:=b0 ((ad abM eZ):Ev []) f176 (aN tA 0x41 []) [.sl .s,.s] [.bo] (λx=>Ng x.1 x.2)
noncomputable def Ss:Cb 110:=b0 ((ad WZ eZ):Ev []) f110 (aN tA 0x80014082c8088358241 [0x30108000000b282044]) [.st .Func,.s,.s] [.bo] (λx=>JI x.1 x.2.1 x.2.2)
noncomputable def WS:Cb 65:=b0 ((ad (bA (bI (eZ:Ev []) 109 f109 (aN tA 0x41 []))) (ad Ss eZ)):Ev []) f65 (aN tA 0x80000508082c808835820b20220d6082c8088358241 [0x1004200008100f382044,0x5c10800060820165503ce182048,0x1e04200018208075c5d65503ce18204b,0x38e0008000608201e75c5d65503ce18204c]) [.st .Func,.mp .s (.mp .s .bo)] [.bo] (λx=>Na x.1 x.2)
noncomputable def Su:Cb 30:=b1 ((ad abE (ad Sr (ad IC (ad WS eZ)))):Ev []) f30 (aN tA 0x800028120b80220d609041 [0x644a044000041009203044,0x191080001040289203045]) [.st .Func] [.bo] JJ
noncomputable def zH:Cb 9:=b1 ((ad (bS 13 (bA (bI ((ak (bK ((ad IJ (ad Sx eZ)):Ev []) 18 f18 (aN tA 0x41 [])) (ak (bK ((ad My eZ):Ev []) 21 f21 (aN tA 0x41 [])) (ak (bK ((ad Xr eZ):Ev []) 23 f23 (aN tA 0x41 [])) eZ))):Ev []) 17 f17 (aN tA 0x4000a041640441998241 []))) (bA (bI ((ak (bK ((ad SN eZ):Ev []) 25 f25 (aN tA 0x41 [])) (ak (bK ((ad Sy eZ):Ev []) 27 f27 (aN tA 0x41 [])) (ak (bK ((ad Su eZ):Ev []) 29 f29 (aN tA 0x41 [])) eZ))):Ev []) 17 f17 (aN tA 0x4000a041640441998241 [])))) eZ):Ev []) f9 (aN tA 0x800140820b20220d609001409041 [0x15042000000513043]) [.st .Program] [uI] E8
noncomputable def abF:Cb 131:=b0 (eZ:Ev []) f131 (aN tA 0x41 []) [.b8] [.bo] TG
noncomputable def W2:Cb 77:=b1 ((ad abF eZ):Ev []) f77 (aN tA 0x4008100a1000818846e0081358241041 [0x6045044486000000001,0x141112100000006002,0x340080000137046144004,0x112080000006002,0x840080000137046144004]) [.s] [.sl .s,.bo] Ni
noncomputable def W1:Cb 35:=b0 ((ad Mx (ad WT (ad W2 eZ))):Ev []) f35 (aN tA 0x801020028120820b80220d609040050241 [0x40115310000000f382,0x54c200000040f383]) [.s] [.sl (.st .Line),uI,uI] Nh
noncomputable def jk:Cb 81:=b0 (eZ:Ev []) f81 (aN tA 0x80014082c8088358241 [0x9042000000207043]) [.sl uI,uI] [.bo] (λx=>YH x.1 x.2)
noncomputable def gi:Cb 145:=b4 ((ad jj (ad (bI ((ad af eZ):Ev []) 80 f80 (aN tA 0x81 [])) eZ)):Ev []) f145 (aN tA 0x1041 []) [.s] [.s] (λx(_:True)=>Uc x)
noncomputable def ai5:Cb 146:=b0 ((ad abD eZ):Ev []) f146 (aN tA 0x80014082c8081358241 [0x4042000000001]) [.s] [uI,.bo] ac7
noncomputable def uC:Cb 197:=b0 ((ad W5 eZ):Ev []) f197 (aN tA 0x800a04808180000a10b20204d60904040c040050841 [0xd002000000001,0x4042000000001,0x181141100000004002,0x840080000006144004,0x5042000000001]) [.s] [uI,.bo] Nn
noncomputable def WV:Cb 252:=b0 ((ad Qi (ad Sw (ad Mw eZ))):Ev []) f252 (aN tA 0x2002812080002812082c8088358241001421041 [0x15002000000101,0x601194100000017102]) [.s] [uI,.bo] Nc
noncomputable def EO:Cb 245:=b0 ((ad uC (ad WV eZ)):Ev []) f245 (aN tA 0x40050241001408241 []) [.s] [.st .Arg,.bo] Az
noncomputable def SV:Cb 232:=b0 ((ad jj (ad uC (ad EO eZ))):Ev []) f232 (aN tA 0x20020028420a04028100a040281641 [0x26002000081004082]) [.s] [.st .Arg,.bo] Kh
noncomputable def zR:Cb 195:=b4 ((ad (bI ((ad af eZ):Ev []) 80 f80 (aN tA 0x81 [])) (ad SV eZ)):Ev []) f195 (aN tA 0x44041 [0x5102005102]) [.s,.bo] [.st .Arg] (λx(_:True)=>YF x.1 x.2)
noncomputable def Ql:Cb 148:=b4 ((ad zR eZ):Ev []) f148 (aN tA 0x800b20220d609041 [0xa045544000000248043]) [.sl .s,.bo] [.sl (.st .Arg)] (λx hp=>T8 x.1 x.2 hp)
noncomputable def abZ:Cb 79:=b5 ((ad (bI ((ad (bI ((ad af eZ):Ev eS) 80 f80 (aN tA 0x81 [])) (ad jk eZ)):Ev eS) 38 f38 .l) (ad (bS 38 (bI ((ad af eZ):Ev eS) 80 f80 (aN tA 0x81 [])) (bS 50 (bI ((ad af eZ):Ev eS) 80 f80 (aN tA 0x81 [])) (bS 68 (bI ((ad af eZ):Ev eS) 80 f80 (aN tA 0x81 [])) (bS 88 (bI ((ad af eZ):Ev eS) 80 f80 (aN tA 0x81 [])) (bI ((ad af eZ):Ev eS) 80 f80 (aN tA 0x81 [])))))) (ad gi (ad ai5 (ad abD (ad (bS 76 (bI ((ad zR eZ):Ev eS) 148 f148 (aN tA 0x800b20220d609041 [0x2811551000011c40803f93b93392f92b92792391f91b91791390f90b9efc27c1fc17c13c03c248056])) Ql) (ad (bI ((ad (bI ((ad af eZ):Ev eS) 190 f190 (aN tA 0x81 [])) eZ):Ev eS) 149 f149 (aN tA 0x1 [])) (ad (bI ((ad (bI (eZ:Ev eS) 193 f193 (aN tA 0x41 [])) eZ):Ev eS) 150 f150 (aN tA 0x1041 [])) eZ)))))))):Ev eS) f79 (aN tA 0x42022020820020a04020a11c041041041001424041 [0x45c1584000040004002,0x17002000044040101003,0x1180800011c1007144004,0x3be000800011c4080247144005,0x19080000005002,0x88e00080001000001]) [.fr,.ow [.fr,.ow [.fr,.fr]],.ow [.fr,.fr],.ow [.fr,.fr],.ow [.fr,.fr,.ow [.fr,.fr],.ow [.fr,.fr],.ow [.fr,.ow [.fr,.fr],.ow [.fr,.fr,.fr,.fr,.ow [.fr,.fr,.fr,.fr],.ow [.fr,.fr]],.fr,.fr,.fr,.fr,.fr,.fr]],.fr,.fr,.fr,.fr] (.st .Reader) [.sl .s] [] T9
noncomputable def agS:Cb 132:=b5 ((ad (bI ((ad af eZ):Ev eS) 80 f80 (aN tA 0x81 [])) eZ):Ev eS) f132 (aN tA 0x1 []) [.fr,.ow [.fr,.ow [.fr,.fr]],.ow [.fr,.fr],.ow [.fr,.fr],.ow [.fr,.fr,.ow [.fr,.fr],.ow [.fr,.fr],.ow [.fr,.ow [.fr,.fr],.ow [.fr,.fr,.fr,.fr,.ow [.fr,.fr,.fr,.fr],.ow [.fr,.fr]],.fr,.fr,.fr,.fr,.fr,.fr]],.fr,.fr,.fr,.fr] (.st .Reader) [.sl .s] [] YJ
noncomputable def Xu:Cb 133:=b5 ((ad (bI ((ad (bI ((ad af eZ):Ev eS) 80 f80 (aN tA 0x81 [])) (ad jk eZ)):Ev eS) 38 f38 .l) (ad (bI ((ad af eZ):Ev eS) 80 f80 (aN tA 0x81 [])) (ad gi (ad (bI ((ad af eZ):Ev eS) 190 f190 (aN tA 0x81 [])) eZ)))):Ev eS) f133 (aN tA 0x4041041 [0x642000000001]) [.fr,.ow [.fr,.ow [.fr,.fr]],.ow [.fr,.fr],.ow [.fr,.fr],.ow [.fr,.fr,.ow [.fr,.fr],.ow [.fr,.fr],.ow [.fr,.ow [.fr,.fr],.ow [.fr,.fr,.fr,.fr,.ow [.fr,.fr,.fr,.fr],.ow [.fr,.fr]],.fr,.fr,.fr,.fr,.fr,.fr]],.fr,.fr,.fr,.fr] (.st .Reader) [.sl .s] [] NS
noncomputable def uE:Cb 191:=b4 ((ad jj (ad (bI ((ad af eZ):Ev []) 80 f80 (aN tA 0x81 [])) eZ)):Ev []) f191 (aN tA 0x1101 [0x1]) [.s] [.s] (λx(_:True)=>Ua x)
noncomputable def Xv:Cb 134:=b5 ((ad (bI ((ad (bI ((ad af eZ):Ev eS) 80 f80 (aN tA 0x81 [])) (ad jk eZ)):Ev eS) 38 f38 .l) (ad (bI ((ad af eZ):Ev eS) 80 f80 (aN tA 0x81 [])) (ad gi (ad (bI ((ad af eZ):Ev eS) 190 f190 (aN tA 0x81 [])) (ad uE eZ))))):Ev eS) f134 (aN tA 0x1044041 [0x4202004103001000001]) [.fr,.ow [.fr,.ow [.fr,.fr]],.ow [.fr,.fr],.ow [.fr,.fr],.ow [.fr,.fr,.ow [.fr,.fr],.ow [.fr,.fr],.ow [.fr,.ow [.fr,.fr],.ow [.fr,.fr,.fr,.fr,.ow [.fr,.fr,.fr,.fr],.ow [.fr,.fr]],.fr,.fr,.fr,.fr,.fr,.fr]],.fr,.fr,.fr,.fr] (.st .Reader) [.sl .s] [] NT
noncomputable def SY:Cb 135:=b5 ((ad (bI ((ad (bI ((ad af eZ):Ev eS) 80 f80 (aN tA 0x81 [])) (ad jk eZ)):Ev eS) 38 f38 .l) (ad (bI ((ad af eZ):Ev eS) 80 f80 (aN tA 0x81 [])) (ad gi (ad (bI ((ad af eZ):Ev eS) 190 f190 (aN tA 0x81 [])) (ad uE eZ))))):Ev eS) f135 (aN tA 0x4044041 [0x4202004103001000001,0x642000000001]) [.fr,.ow [.fr,.ow [.fr,.fr]],.ow [.fr,.fr],.ow [.fr,.fr],.ow [.fr,.fr,.ow [.fr,.fr],.ow [.fr,.fr],.ow [.fr,.ow [.fr,.fr],.ow [.fr,.fr,.fr,.fr,.ow [.fr,.fr,.fr,.fr],.ow [.fr,.fr]],.fr,.fr,.fr,.fr,.fr,.fr]],.fr,.fr,.fr,.fr] (.st .Reader) [.sl .s] [] Kj
noncomputable def Dc:Cb 192:=b4 ((ad (bI ((ad af eZ):Ev []) 80 f80 (aN tA 0x81 [])) (ad uC eZ)):Ev []) f192 (aN tA 0x41041 []) [.s,uI,uI] [uI] (λx(_:True)=>Kk x.1 x.2.1 x.2.2)
noncomputable def SX:Cb 136:=b5 ((ad (bI ((ad (bI ((ad af eZ):Ev eS) 80 f80 (aN tA 0x81 [])) (ad jk eZ)):Ev eS) 38 f38 .l) (ad (bI ((ad af eZ):Ev eS) 80 f80 (aN tA 0x81 [])) (ad gi (ad (bI ((ad af eZ):Ev eS) 190 f190 (aN tA 0x81 [])) (ad Dc eZ))))):Ev eS) f136 (aN tA 0x4044041 [0x4682004103001000001,0x642000000001]) [.fr,.ow [.fr,.ow [.fr,.fr]],.ow [.fr,.fr],.ow [.fr,.fr],.ow [.fr,.fr,.ow [.fr,.fr],.ow [.fr,.fr],.ow [.fr,.ow [.fr,.fr],.ow [.fr,.fr,.fr,.fr,.ow [.fr,.fr,.fr,.fr],.ow [.fr,.fr]],.fr,.fr,.fr,.fr,.fr,.fr]],.fr,.fr,.fr,.fr] (.st .Reader) [.sl .s] [] Ki
noncomputable def IP:Cb 137:=b5 ((ad (bI ((ad (bI ((ad af eZ):Ev eS) 80 f80 (aN tA 0x81 [])) (ad jk eZ)):Ev eS) 38 f38 .l) (ad (bI ((ad af eZ):Ev eS) 80 f80 (aN tA 0x81 [])) (ad gi (ad (bI ((ad af eZ):Ev eS) 190 f190 (aN tA 0x81 [])) (ad uE eZ))))):Ev eS) f137 (aN tA 0x4044041 [0x46c2004103001000001,0x642000000001]) [.fr,.ow [.fr,.ow [.fr,.fr]],.ow [.fr,.fr],.ow [.fr,.fr],.ow [.fr,.fr,.ow [.fr,.fr],.ow [.fr,.fr],.ow [.fr,.ow [.fr,.fr],.ow [.fr,.fr,.fr,.fr,.ow [.fr,.fr,.fr,.fr],.ow [.fr,.fr]],.fr,.fr,.fr,.fr,.fr,.fr]],.fr,.fr,.fr,.fr] (.st .Reader) [.sl .s] [] Cf
noncomputable def Xx:Cb 138:=b5 ((ad (bI ((ad (bI ((ad af eZ):Ev eS) 80 f80 (aN tA 0x81 [])) (ad jk eZ)):Ev eS) 38 f38 .l) (ad (bI ((ad af eZ):Ev eS) 80 f80 (aN tA 0x81 [])) (ad gi (ad (bI ((ad af eZ):Ev eS) 190 f190 (aN tA 0x81 [])) (ad uE (ad (bI (eZ:Ev eS) 193 f193 (aN tA 0x41 [])) eZ)))))):Ev eS) f138 (aN tA 0x1044041 [0x4202004103001000001]) [.fr,.ow [.fr,.ow [.fr,.fr]],.ow [.fr,.fr],.ow [.fr,.fr],.ow [.fr,.fr,.ow [.fr,.fr],.ow [.fr,.fr],.ow [.fr,.ow [.fr,.fr],.ow [.fr,.fr,.fr,.fr,.ow [.fr,.fr,.fr,.fr],.ow [.fr,.fr]],.fr,.fr,.fr,.fr,.fr,.fr]],.fr,.fr,.fr,.fr] (.st .Reader) [.sl .s] [] NV
noncomputable def IR:Cb 139:=b5 ((ad (bI ((ad (bI ((ad af eZ):Ev eS) 80 f80 (aN tA 0x81 [])) (ad jk eZ)):Ev eS) 38 f38 .l) (ad (bI ((ad af eZ):Ev eS) 80 f80 (aN tA 0x81 [])) (ad gi (ad (bI ((ad af eZ):Ev eS) 190 f190 (aN tA 0x81 [])) (ad uE (ad (bI (eZ:Ev eS) 193 f193 (aN tA 0x41 [])) eZ)))))):Ev eS) f139 (aN tA 0x101044041 [0x4202004103001000001,0x642000000001]) [.fr,.ow [.fr,.ow [.fr,.fr]],.ow [.fr,.fr],.ow [.fr,.fr],.ow [.fr,.fr,.ow [.fr,.fr],.ow [.fr,.fr],.ow [.fr,.ow [.fr,.fr],.ow [.fr,.fr,.fr,.fr,.ow [.fr,.fr,.fr,.fr],.ow [.fr,.fr]],.fr,.fr,.fr,.fr,.fr,.fr]],.fr,.fr,.fr,.fr] (.st .Reader) [.sl .s] [] Cg
noncomputable def Xy:Cb 140:=b5 ((ad (bS 28 (bI ((ad af eZ):Ev eS) 80 f80 (aN tA 0x81 [])) (bI ((ad af eZ):Ev eS) 80 f80 (aN tA 0x81 []))) (ad gi (ad (bI ((ad af eZ):Ev eS) 190 f190 (aN tA 0x81 [])) (ad (bI (eZ:Ev eS) 193 f193 (aN tA 0x41 [])) (ad (bI (eZ:Ev eS) 194 f194 (aN tA 0x41 [])) eZ))))):Ev eS) f140 (aN tA 0x101041044 [0x40001002,0x642000000001]) [.fr,.ow [.fr,.ow [.fr,.fr]],.ow [.fr,.fr],.ow [.fr,.fr],.ow [.fr,.fr,.ow [.fr,.fr],.ow [.fr,.fr],.ow [.fr,.ow [.fr,.fr],.ow [.fr,.fr,.fr,.fr,.ow [.fr,.fr,.fr,.fr],.ow [.fr,.fr]],.fr,.fr,.fr,.fr,.fr,.fr]],.fr,.fr,.fr,.fr] (.st .Reader) [.sl .s] [] NX
noncomputable def agR:Cb 141:=b5 ((ad (bI ((ad (bI ((ad af eZ):Ev eS) 80 f80 (aN tA 0x81 [])) (ad jk eZ)):Ev eS) 38 f38 .l) (ad (bI ((ad af eZ):Ev eS) 80 f80 (aN tA 0x81 [])) (ad gi (ad (bI ((ad (bI ((ad af eZ):Ev eS) 190 f190 (aN tA 0x81 [])) eZ):Ev eS) 149 f149 (aN tA 0x1 [])) (ad (bI ((ad (bI (eZ:Ev eS) 193 f193 (aN tA 0x41 [])) eZ):Ev eS) 150 f150 (aN tA 0x1041 [])) (ad (bI ((ad af eZ):Ev eS) 190 f190 (aN tA 0x81 [])) (ad zR eZ))))))):Ev eS) f141 (aN tA 0x82080e0081358241041 [0x11c141100001000101003,0x4702000040005101004]) [.fr,.ow [.fr,.ow [.fr,.fr]],.ow [.fr,.fr],.ow [.fr,.fr],.ow [.fr,.fr,.ow [.fr,.fr],.ow [.fr,.fr],.ow [.fr,.ow [.fr,.fr],.ow [.fr,.fr,.fr,.fr,.ow [.fr,.fr,.fr,.fr],.ow [.fr,.fr]],.fr,.fr,.fr,.fr,.fr,.fr]],.fr,.fr,.fr,.fr] (.st .Reader) [.sl .s] [] YI
noncomputable def Xw:Cb 142:=b5 ((ad (bI ((ad (bI ((ad af eZ):Ev eS) 80 f80 (aN tA 0x81 [])) (ad jk eZ)):Ev eS) 38 f38 .l) (ad (bI ((ad af eZ):Ev eS) 80 f80 (aN tA 0x81 [])) (ad gi (ad (bS 59 (bI ((ad af eZ):Ev eS) 190 f190 (aN tA 0x81 [])) (bI ((ad af eZ):Ev eS) 190 f190 (aN tA 0x81 []))) (ad Dc (ad zR (ad (bI ((ad (bI ((ad (bI (eZ:Ev eS) 193 f193 (aN tA 0x41 [])) eZ):Ev eS) 150 f150 (aN tA 0x1041 [])) eZ):Ev eS) 196 f196 (aN tA 0x1041 [])) eZ))))))):Ev eS) f142 (aN tA 0x82080e0081358244041 [0x11d0801040c0040001002,0x11e141100001000101003,0x4782000040005101004]) [.fr,.ow [.fr,.ow [.fr,.fr]],.ow [.fr,.fr],.ow [.fr,.fr],.ow [.fr,.fr,.ow [.fr,.fr],.ow [.fr,.fr],.ow [.fr,.ow [.fr,.fr],.ow [.fr,.fr,.fr,.fr,.ow [.fr,.fr,.fr,.fr],.ow [.fr,.fr]],.fr,.fr,.fr,.fr,.fr,.fr]],.fr,.fr,.fr,.fr] (.st .Reader) [.sl .s] [] NU
noncomputable def SZ:Cb 143:=b5 ((ad (bI ((ad (bI ((ad af eZ):Ev eS) 80 f80 (aN tA 0x81 [])) (ad jk eZ)):Ev eS) 38 f38 .l) (ad (bI ((ad af eZ):Ev eS) 80 f80 (aN tA 0x81 [])) (ad gi (ad Ql (ad (bI ((ad af eZ):Ev eS) 190 f190 (aN tA 0x81 [])) (ad (bI ((ad (bI ((ad (bI (eZ:Ev eS) 193 f193 (aN tA 0x41 [])) eZ):Ev eS) 150 f150 (aN tA 0x1041 [])) eZ):Ev eS) 196 f196 (aN tA 0x1041 [])) eZ)))))):Ev eS) f143 (aN tA 0x101044041 [0x47c2004103001000001,0x642000000001]) [.fr,.ow [.fr,.ow [.fr,.fr]],.ow [.fr,.fr],.ow [.fr,.fr],.ow [.fr,.fr,.ow [.fr,.fr],.ow [.fr,.fr],.ow [.fr,.ow [.fr,.fr],.ow [.fr,.fr,.fr,.fr,.ow [.fr,.fr,.fr,.fr],.ow [.fr,.fr]],.fr,.fr,.fr,.fr,.fr,.fr]],.fr,.fr,.fr,.fr] (.st .Reader) [.sl .s] [] Kl
noncomputable def agQ:Cb 144:=b5 ((ad (bI ((ad (bI ((ad af eZ):Ev eS) 80 f80 (aN tA 0x81 [])) (ad jk eZ)):Ev eS) 38 f38 .l) (ad (bS 33 (bI ((ad af eZ):Ev eS) 80 f80 (aN tA 0x81 [])) (bS 45 (bI ((ad af eZ):Ev eS) 80 f80 (aN tA 0x81 [])) (bS 65 (bI ((ad af eZ):Ev eS) 80 f80 (aN tA 0x81 [])) (bS 16 (bI ((ad af eZ):Ev eS) 80 f80 (aN tA 0x81 [])) (bI ((ad af eZ):Ev eS) 80 f80 (aN tA 0x81 [])))))) (ad gi (ad (bI ((ad (bI (eZ:Ev eS) 193 f193 (aN tA 0x41 [])) eZ):Ev eS) 150 f150 (aN tA 0x1041 [])) (ad zR (ad uC eZ)))))):Ev eS) f144 (aN tA 0x2004104028100a04028160c041 [0x4802000040004002,0x642000000001]) [.fr,.ow [.fr,.ow [.fr,.fr]],.ow [.fr,.fr],.ow [.fr,.fr],.ow [.fr,.fr,.ow [.fr,.fr],.ow [.fr,.fr],.ow [.fr,.ow [.fr,.fr],.ow [.fr,.fr,.fr,.fr,.ow [.fr,.fr,.fr,.fr],.ow [.fr,.fr]],.fr,.fr,.fr,.fr,.fr,.fr]],.fr,.fr,.fr,.fr] (.st .Reader) [.sl .s] [] YG
noncomputable def ab0:Cb 37:=b5 ((ad EK (ad abZ (ad agS (ad Xu (ad Xv (ad SY (ad SX (ad IP (ad Xx (ad IR (ad Xy (ad agR (ad Xw (ad SZ (ad agQ eZ))))))))))))))):Ev eS) f37 (aN tA 0x40c041010841 [0x480080001000101003,0x642000000001]) [.fr,.ow [.fr,.ow [.fr,.fr]],.ow [.fr,.fr],.ow [.fr,.fr],.ow [.fr,.fr,.ow [.fr,.fr],.ow [.fr,.fr],.ow [.fr,.ow [.fr,.fr],.ow [.fr,.fr,.fr,.fr,.ow [.fr,.fr,.fr,.fr],.ow [.fr,.fr]],.fr,.fr,.fr,.fr,.fr,.fr]],.fr,.fr,.fr,.fr] (.st .Reader) [.sl .s] [] Ub
noncomputable abbrev e_yParse:Ev eS:=(ad W1 (ad ab0 (ad (bI ((ad (bI ((ad af eZ):Ev eS) 80 f80 (aN tA 0x81 [])) (ad jk eZ)):Ev eS) 38 f38 .l) eZ)))
theorem LG(a:List UInt8)(KK:(Lt.Program×Int×Int)->Prop):zd a KK=WM e_yParse.en f13 f36 [(.l,kL (f13.body.getD .skip)),(.l,kL (kR (f13.body.getD .skip))),((aN tA 0x881 [0x4883882846000000103083]),kL (kR (kR (f13.body.getD .skip)))),(.l,kL (kR (kR (kR (f13.body.getD .skip)))))] (aN tA 0x20820020b20220d609 [0x5596411001840c21000185c6103086]) .l (kR (kR (kR (kR (kR (f13.body.getD .skip)))))) [.s] [.st .Program,uI,uI] a KK:=kQ0
noncomputable def IQ:Cb 13:=⟨Bd [.s] [.st .Program,uI,uI] cy,Ew (LS e_yParse.ok mixed (fn:=f13) (l:=[(.l,kL (f13.body.getD .skip)),(.l,kL (kR (f13.body.getD .skip))),((aN tA 0x881 [0x4883882846000000103083]),kL (kR (kR (f13.body.getD .skip)))),(.l,kL (kR (kR (kR (f13.body.getD .skip)))))]) (an2:=(aN tA 0x20820020b20220d609 [0x5596411001840c21000185c6103086])) (anC:=.l) (id:=rgI (kL (kR (kR (kR (kR (f13.body.getD .skip))))))) (o1:=rgO (kL (kR (kR (kR (kR (f13.body.getD .skip)))))) 0) (o2:=rgO (kL (kR (kR (kR (kR (f13.body.getD .skip)))))) 1) (rest:=kR (kR (kR (kR (kR (f13.body.getD .skip)))))) kQ0 kQ0 kQ0 kQ0 kQ0 kQ0 kQ0 kQ0 kQ0 kQ0 kQ0 kQ0 kQ0 (λa _ KK h=>LG a KK ▸ NW a KK h))⟩
end
end Go.Am
end

section
namespace Go.Am
open Go
def xp(a:Lt.Program)(KK:Int->Prop):Prop:=aa (α:=Bool) (λg=>(nP a)/\if !(D4 a)then(g true)else(g a.SSA)) (λk=>if k then(KK 3)else(ab (α:=Int) (λh v4=>(a.Funcs.length<=4611686018427387904->if decide (v4 < (a.Funcs.length:Int))then((0<=v4/\v4.toNat<a.Funcs.length)/\(vn (a.Funcs.getD v4.toNat default))/\if qB (a.Funcs.getD v4.toNat default)then(KK 3)else(h (i64.wrap (v4+1))))else(ab (α:=Int) (λl d=>have c:=a.Funcs.getD d.toNat default;(a.Funcs.length<=4611686018427387904->if decide (d < (a.Funcs.length:Int))then((0<=d/\d.toNat<a.Funcs.length)/\aa (α:=Bool) (λe=>((c.Blocks).length<=4611686018427387904->if decide (32 < ((c.Blocks).length:Int))then(e true)else((vp c)/\if decide (200 < (vw c))then(e true)else(e (decide (16 < (i64.wrap (((c.Params).length:Int)+((c.Vars).length:Int))))))))) (λi=>if i then(KK 2)else(l (i64.wrap (d+1)))))else((jR a)/\if !(gm a)then(KK 4)else(ab (α:=Int) (λj b=>have f:=a.Funcs.getD b.toNat default;(a.Funcs.length<=4611686018427387904->if decide (b < (a.Funcs.length:Int))then((0<=b/\b.toNat<a.Funcs.length)/\(Zj a f)/\if !decide ((Bi a f)=0)then(KK (Bi a f))else(j (i64.wrap (b+1))))else(KK 0))) 0)))) 0))) 0))
def aaH(a:Int)(KK:Int->Prop):Prop:=KK (i64.wrap a)
theorem T1(n:Int)(KK:Int->Prop)(h:KK (xN n)):aaH n KK:=h
theorem B6(p:Lt.Program)(hp:lH p)(KK:Int->Prop)(h:KK (bq p)):xp p KK:=by
 unfold xp;obtain⟨h1,h2,⟨h3,h4⟩,h5⟩:=hp;rw[h2];unfold bq at h;have k3:aY p=false\/jz p=false->KK 3:=λe=>by grind
 have g:jz p=(p.Funcs.all mK&&!p.SSA):=rfl
 intro J n;have j:J (!aY p||p.SSA):=n _ (by
  dsimp only;refine ifk (λhc=>k3 (by grind)) (λhc=>?_);have hs:aY p=true/\p.SSA=false:=by grind
  refine eG p.Funcs.length (λi=>mK (p.Funcs.getD i default)=true) (KK 3) (λR i hi hN ih hl=>?_) (λR s hl=>?_) (λi hi hn=>k3 (.inr (by grind)))
  .grind [qB]
  rw[if_neg (by simp)];have k:p.Funcs.all mK=true:=akZ.2 λx hx=>by grind [alA]
  rw[if_neg (by grind)]at h;refine eG p.Funcs.length (λi=>sb (p.Funcs.getD i default)=true) (KK 2) (λR i hi hN ih=>?_) (λR s=>?_) (λi hi hn=>by grind [iK])
  .intro hl;rw[if_pos (aW hi),Int.toNat_natCast];refine⟨⟨by omega,hi⟩,λq a=>?_⟩;generalize p.Funcs.getD i default=f at hN ih;have m:q (!sb f):=a _ (by grind)
   intro _;unfold sb at m;refine ifk (λb=>?_) (λb=>⟨trivial,ifk (λc=>?_) (λc=>?_)⟩)
   all_goals grind
  try dsimp only
  intro hl;rw[if_neg (by simp)];have o:iK p=true:=akZ.2 λx hx=>by grind [alA]
  rw[if_neg (by grind)]at h;refine⟨h3,ifk (λd=>?_) (λd=>?_)⟩
  .grind
  rw[if_neg (by grind)]at h;refine b9 p.Funcs (λl=>KK (tU p l)) (λR i x r hi hx hm ih h=>?_) (λR h=>?_) h
  .intro hl;rw[if_pos (aW hi),Int.toNat_natCast,hx];refine⟨⟨by omega,hi⟩,h4 x hm,?_⟩
   grind [tU,Bi]
  intro hl;rw[if_neg (by simp)];exact h)
 grind
end Go.Am
end

section
namespace Lt
def LR(_:List UInt8):Bool:=true
end Lt
end

section
namespace Go.Am
open Go
def CE(KK:Bool->Prop):Prop:=have z3:=cy [102,117,110,99,32,102,32,105,110,116,10,118,97,114,32,120,32,105,110,116,10,98,108,111,99,107,32,97,10,114,101,116,32,120,10];have c:=cy [102,117,110,99,32,102,32,105,110,116,10,112,97,114,97,109,32,107,32,105,110,116,10,98,108,111,99,107,32,97,10,114,101,116,32,107,10];have b:=cy [102,117,110,99,32,102,32,105,110,116,10,98,108,111,99,107,32,97,10,114,101,116,32,49,10,98,108,111,99,107,32,98,10,114,101,116,32,49,10];aa (α:=Bool) (λa=>if decide (c.2.2=0)then(if decide (z3.2.2=0)then(if decide (b.2.2=0)then((bZ (c.1))/\if decide ((bq (c.1))=0)then((bZ (z3.1))/\if decide ((bq (z3.1))=4)then((bZ (b.1))/\a (decide ((bq (b.1))=5)))else(a false))else(a false))else(a false))else(a false))else(a false)) (λd=>KK d)
def ou(a:List UInt8)(KK:Bool->Prop):Prop:=(a.length<=4611686018427387904->if decide (20000 < (a.length:Int))then(KK yq)else(aa (α:=Bool) (λc=>if !yq then(c true)else(c (!decide ((cy a).2.2=0)))) (λd=>if d then(KK yq)else(aa (α:=Bool) (λb=>((bZ ((cy a).1))/\(lH ((cy a).1))/\if decide ((bq ((cy a).1))=(bq ((cy a).1)))then((bZ ((cy a).1))/\b (!decide ((bq ((cy a).1))=1)))else(b false))/\((bZ ((cy a).1))/\(lH ((cy a).1))/\if decide ((bq ((cy a).1))=(bq ((cy a).1)))then((bZ ((cy a).1))/\b (!decide ((bq ((cy a).1))=1)))else(b false))) (λv4=>KK v4)))))
def nJ:List (List UInt8)->Int->List Lt.RLine
 |[],_=>[]
 |l::r,n=>(if(dh (front l)).1=[]then []else [⟨n,(dh (front l)).1⟩])++nJ r (n+1)
theorem Kp:∀(L:List (List UInt8))(n:Int)(out:List Lt.RLine),(jt L n out).2.2=0->jt L n out=(out++nJ L n,0,0)/\∀l∈L,(dh (front l)).2=true
 |[],n,out,_=>⟨by simp[jt,nJ],by simp⟩
 |l::r,n,out,h=>by
  rw[jt]at h|-;split at h
  .obtain⟨h1,h2⟩:=Kp r _ _ h
   grind [nJ]
  grind
theorem Ko:∀(L:List (List UInt8))(n:Int),(∀x∈nJ L n,n<=x.N)/\(nJ L n).Pairwise (λx y=>x.N<y.N)
 |[],n=>by simp[nJ]
 |l::r,n=>by
  obtain⟨h1,h2⟩:=Ko r (n+1)
  grind [nJ]
theorem qN:∀(s w:List UInt8)(out:List (List UInt8)),(∀c∈s,c≠59)->(∀v∈out,fI v)->(∀c∈w,pF c=true)->∀v∈(eC s w out).1,fI v
 |[],w,out,_,ho,hw=>by
  rw[eC];split
  .exact ho
  rename_i a;exact ls ho (ax ⟨a,hw⟩ dc)
 |c::r,w,out,hs,ho,hw=>by
  rw[eC];split
  .refine qN r [] _ (λx hx=>hs x (by simp[hx])) ?_ (by simp);split
   .exact ho
   rename_i a;exact ls ho (ax ⟨a,hw⟩ dc)
  split
  .simp
  refine qN r _ _ (λx hx=>hs x (by simp[hx])) ho (λx hx=>?_)
  grind [pF]
theorem XT(l:List UInt8):∀c∈front l,c≠59:=by
 rcases pZ 59 l with h|⟨a,b,rfl,h⟩
 all_goals grind [uM,ru]
theorem AB:∀(L:List (List UInt8))(n:Int),∀x∈nJ L n,sD ⟨x.N,x.Words⟩
 |[],n=>by simp[nJ]
 |l::r,n=>by
  intro x hx;rcases akS.1 hx with hx|hx
  .split at hx
   .cases hx
   rename_i a;rw[akY.1 hx];exact⟨a,qN _ _ _ (XT l) (by simp) (by simp)⟩
  exact AB r _ x hx
def aL(l:List (List UInt8)):Nat:=(l.map λw=>w.length+1).sum
theorem r9(a b:List (List UInt8)):aL (a++b)=aL a+aL b:=by simp[aL]
theorem xd(w:List UInt8):aL [w]=w.length+1:=by rfl
theorem tY:∀(s w:List UInt8)(out:List (List UInt8)),aL (eC s w out).1<=aL out+w.length+s.length+1
 |[],w,out=>by grind [eC,r9,xd]
 |c::r,w,out=>by
  rw[eC];split
  .have:=tY r [] (if w=[]then out else out++[w])
   grind [r9,xd]
  split
  .simp[aL]
  have:=tY r (w++[c]) out
  grind
theorem Ym:∀(b:Bool)(l:List (List UInt8)),(Lt.jw b l).length<=aL l
 |b,[]=>by grind [Lt.jw]
 |b,w::r=>by
  have:=Ym true r
  grind [Lt.jw,aL]
theorem adF(l:List (List UInt8)):(Lt.lnT l).length<=aL l+1:=by grind [Ym,Lt.lnT]
def Eh(L:List Lt.RLine):Nat:=(L.map λx=>aL x.Words+11).sum
theorem Bz(x:Lt.RLine)(L:List Lt.RLine):Eh (x::L)=aL x.Words+11+Eh L:=by rfl
theorem AC:∀(L:List (List UInt8))(n:Int),Eh (nJ L n)<=(L.map λl=>l.length+12).sum
 |[],n=>by simp[nJ,Eh]
 |l::r,n=>by
  have:=AC r (n+1)
  grind [nJ,Bz,tY,Dk,dh,aL]
theorem MX:∀(m:Nat)(s:List UInt8),s.length<=m->((fg s [10]).map λl=>l.length+12).sum<=13*(s.length+1):=by
 intro m;induction m with
 |zero=>grind [nr]
 |succ m ih=>
  intro s hs;rcases pZ 10 s with h|⟨a,b,rfl,h⟩
  all_goals grind [nr,tc]
structure LinesOk (s:List UInt8) (L:List Lt.RLine):Prop where
 lt:L.Pairwise (λx y=>x.N<y.N)
 pos:∀x∈L,1<=x.N
 good:∀x∈L,sD ⟨x.N,x.Words⟩
 size:Eh L<=13*(s.length+1)
variable{s:List UInt8}
theorem YN(h:(bQ s).2.2=0):LinesOk s (bQ s).1/\bQ s=((bQ s).1,0,0):=by
 unfold bQ at h|-;split at h
 .cases h
 rename_i hl;rw[if_neg hl];rw[zD _ s 1 [] (akK _)]at h|-;obtain⟨h1,_⟩:=Kp _ _ _ h;rw[h1,amM];obtain⟨h2,h3⟩:=Ko (fg s [10]) 1;exact⟨⟨h3,h2,AB _ _,alV (AC _ _) (MX _ s (akK _))⟩,rfl⟩
def cT(L:List Lt.Line):Nat:=(L.map λx=>aL x.Words+1).sum
theorem cR(a b:List Lt.Line):cT (a++b)=cT a+cT b:=by simp[cT]
theorem iA(w:List (List UInt8)):cT [Lt.ln w]=aL w+1:=by rfl
theorem BA:∀L:List Lt.Line,(eB L).length<=cT L
 |[]=>by simp[eB]
 |x::L=>by
  have h1:=BA L
  have h2:=adF x.Words
  grind [eB,Lt.lnT,cT]
def Good(p:Lt.Program)(B:Nat):Prop:=p.ok/\cT (jS p)<=B
def prest(p:Lt.Program)(fs:List Lt.Func):Nat:=cT (jS { p with Funcs:=fs })
theorem Uw(p:Lt.Program)(fs:List Lt.Func)(f:Lt.Func)(w n:Int):cT (jS (stF p fs f w n).P)=prest p fs+cT (gu f):=by grind [prest,stF,jS,cR]
theorem Jn(f:Lt.Func)(bs:List Lt.Block)(b:Lt.Block):cT (gu { f with Blocks:=bs++[b] })=cT (gu { f with Blocks:=bs })+cT (dV b):=by grind [gu,cR]
theorem Sj(b:Lt.Block)(cs:List Lt.Instr)(c:Lt.Instr):cT (dV { b with Code:=cs++[c] })=cT (dV { b with Code:=cs })+cT (ll c):=by grind [dV,cR]
variable{f:Lt.Func}{fs:List Lt.Func}{n w:Int}{p:Lt.Program}
theorem ahS{g:Lt.Func}(h:(stF p fs f w n).P.ok)(a:g.ok):(stF p fs g w n).P.ok:=by
 intro x hx;rcases akS.1 hx with hx|hx
 .exact h x (akS.2 (.inl hx))
 grind
theorem adO(h:(stF p fs f w n).P.ok):f.ok:=h f (akS.2 (.inr (by simp)))
variable{d:Nat}{n' w':Int}
theorem E0{g:Lt.Func}{w n:Int}{B:Nat}(h:Good (stF p fs f w n).P B)(a:f.ok->g.ok)(hd:cT (gu g)<=cT (gu f)+d):Good (stF p fs g w' n').P (B+d):=by
 obtain⟨h1,h2⟩:=h;refine⟨ahS (w:=w') (n:=n') h1 (a (adO h1)),?_⟩
 grind [Uw]
variable{b:Lt.Block}{bs:List Lt.Block}
theorem EZ{c:Lt.Block}{B:Nat}(h:Good (stB p fs f bs b w n).P B)(a:b.ok->c.ok)(hd:cT (dV c)<=cT (dV b)+d):Good (stB p fs f bs c w' n').P (B+d):=by
 refine E0 h (λhf x hx=>?_) (by grind [Jn]);rcases akS.1 hx with hx|hx
 .exact hf x (akS.2 (.inl hx))
 rw[akY.1 hx];exact a (hf b (akS.2 (.inr (by simp))))
theorem X4{cs:List Lt.Instr}{x y:Lt.Instr}{B:Nat}(h:Good (stI p fs f bs b cs x w n).P B)(a:x.ok->y.ok)(hd:cT (ll y)<=cT (ll x)+d):Good (stI p fs f bs b cs y w' n').P (B+d):=by
 refine EZ h (λhb=>⟨hb.1,λz hz=>?_,hb.2.2⟩) (by grind [Sj]);rcases akS.1 hz with hz|hz
 .exact hb.2.1 z (akS.2 (.inl hz))
 rw[akY.1 hz];exact a (hb.2.1 x (akS.2 (.inr (by simp))))
theorem Ti{B C:Nat}(h:Good p B)(hc:B<=C):Good p C:=⟨h.1,alV h.2 hc⟩
theorem BB{l:List (List UInt8)}(h:l.length=2):aL l=(Lt.w0 l).length+1+((Lt.w1 l).length+1):=by
 match l,h with
 |[a,b],_=>rfl
theorem lO{l:List (List UInt8)}(h:cx l=true):aL l=(Lt.w0 l).length+1+((Lt.w1 l).length+1)+((Lt.w2 l).length+1):=by
 match l,h with
 |[a,b,c],_=>grind [aL]
theorem fW(w:List UInt8)(l:List (List UInt8)):aL (w::l)=w.length+1+aL l:=by rfl
theorem pq{l:List (List UInt8)}(h:2<=l.length):aL l=(Lt.w0 l).length+1+((Lt.w1 l).length+1)+aL (l.drop 2):=by
 match l,h with
 |a::b::r,_=>grind [fW]
theorem OO{l:List (List UInt8)}(h:1<=l.length):aL l=(Lt.w0 l).length+1+aL (l.drop 1):=by
 match l,h with
 |a::r,_=>rfl
theorem OP{l:List (List UInt8)}(h:3<=l.length):aL l=(Lt.w0 l).length+1+((Lt.w1 l).length+1)+((Lt.w2 l).length+1)+aL (l.drop 3):=by
 match l,h with
 |a::b::c::r,_=>grind [fW]
theorem OQ{l:List (List UInt8)}(h:4<=l.length):aL l=(Lt.w0 l).length+1+((Lt.w1 l).length+1)+((Lt.w2 l).length+1)+((Lt.w3 l).length+1)+aL (l.drop 4):=by
 match l,h with
 |a::b::c::d::r,_=>grind [fW]
theorem vE(w:List UInt8):(dG w).1.ok:=by
 show Lt.inR (dG w).1.N
 grind [Q6,Lt.inR,vG,Le]
theorem Eb(l:List (List UInt8))(o:Bool):wg (br l o).1:=by
 unfold br;split
 .intro a b
  grind [vE]
 intro a b;cases b
theorem A5(objs:Bool):∀(l:List (List UInt8))(x:List Lt.Bind),bv objs l=some x->∀b∈x,b.A.ok
 |[],x,h=>by grind [bv]
 |[_],x,h=>by simp[bv]at h
 |a::b::r,x,h=>by
  rw[bv]at h;split at h
  .cases hr:bv objs r with
   |none=>grind
   |some y=>
    simp[hr]at h;subst h;intro z hz;rcases akU.1 hz with rfl|hz
    .exact vE b
    exact A5 objs r y hr z hz
  grind
theorem DO{objs:Bool}{l:List (List UInt8)}{k:Int}(h:(aA l k objs).2=true):∀b∈(aA l k objs).1,b.A.ok:=by grind [aA,A5]
section
variable {r:Lt.Read} {l:List (List UInt8)} {B:Nat} (g:Good r.P B)
include g
theorem XZ(hz:(fo r l).1=0):Good (fo r l).2.P (B+(aL l+11)):=by
 unfold fo at hz|-;split at hz
 .cases hz
 rename_i a;rw[if_neg a];split at hz
 .cases hz
 rename_i b;rw[if_neg b];simp only[akV,akI,decide_eq_true_eq]at a;have hs:=BB a.1.2
 refine⟨g.1,?_⟩;have h2:=g.2
 unfold jS at h2|-;simp only[cR,List.flatMap_append,alQ,List.flatMap_nil,amB]at h2|-;have:cT (iL ⟨Lt.w1 l,[]⟩)=(5+1+((Lt.w1 l).length+1))+1:=by rfl
 omega
end
section
variable {r:Lt.Read} {l:List (List UInt8)} {B:Nat} (g:Good r.P B)
include g
theorem X0(h:Lt.Inv r)(hz:(dZ r l).1=0):Good (dZ r l).2.P (B+(aL l+11)):=by
 unfold dZ at hz|-;split at hz
 .cases hz
 rename_i a;rw[if_neg a];split at hz
 .cases hz
 rename_i b;rw[if_neg b];simp only[akV,akI,decide_eq_true_eq]at a;have hs:=lO a.2
 obtain⟨cs,c,hc⟩:=Ra (h.2.2.2.1 a.1);refine⟨g.1,?_⟩;have h2:=g.2
 unfold jS at h2|-;rw[hc]at h2;simp only[hc,kQ];simp only[cR,List.flatMap_append,alQ]at h2|-;have:cT (iL { c with Fields:=c.Fields++[⟨Lt.w1 l,Lt.w2 l⟩] })=cT (iL c)+((5+1+((Lt.w1 l).length+1)+((Lt.w2 l).length+1))+1):=by simp[iL,cT,Lt.ln,lU,aL];omega
 omega
end
section
variable {r:Lt.Read} {l:List (List UInt8)} {B:Nat} (g:Good r.P B)
include g
theorem Tf(hz:(cW r l).1=0):Good (cW r l).2.P (B+(aL l+11)):=by
 unfold cW at hz|-;split at hz
 .cases hz
 rename_i a;rw[if_neg a];simp only[akV,akI]at a;have hs:=lO a.2
 refine⟨g.1,?_⟩;have h2:=g.2
 unfold jS lU at h2|-;simp only[cR,amC,akM,alN,iA]at h2|-;have:aL [[103,108,111,98,97,108],Lt.w1 l,Lt.w2 l]=6+1+((Lt.w1 l).length+1)+((Lt.w2 l).length+1):=by simp[aL];omega
 omega
end
section
variable {r:Lt.Read} {l:List (List UInt8)} {B:Nat} (g:Good r.P B)
include g
theorem Te(hz:(cM r l).1=0):Good (cM r l).2.P (B+(aL l+11)):=by
 unfold cM at hz|-;split at hz
 .cases hz
 rename_i d;rw[if_neg d];simp only[akV,akI]at d;have hs:aL l=(Lt.w0 l).length+1+((Lt.w1 l).length+1)+((Lt.w2 l).length+1):=by
  have h:=d.1.1.2
  match l,h with
  |[a,b,c],_=>grind [aL]
 have hn:=kW d.2.1.1
 refine⟨g.1,?_⟩;have h2:=g.2
 unfold jS at h2|-;simp only[cR,amC,akM,alN,rl,iA,Lt.number,hn]at h2|-;have:aL [[101,120,116,101,114,110],Lt.w1 l,Lt.w2 l]=6+1+((Lt.w1 l).length+1)+((Lt.w2 l).length+1):=by simp[aL];omega
 omega
end
section
variable {r:Lt.Read} {l:List (List UInt8)} {B:Nat} (g:Good r.P B)
include g
theorem acL(hz:(gI r l).1=0):Good (gI r l).2.P (B+(aL l+11)):=by
 unfold gI at hz|-;split at hz
 .cases hz
 rename_i a;rw[if_neg a];simp only[akV,akI]at a;have hs:=lO a.2
 refine⟨λf hf=>?_,?_⟩
 .rcases akS.1 hf with hf|hf
  .exact g.1 f hf
  rw[akY.1 hf];intro b hb;cases hb
 have h2:=g.2
 unfold jS at h2|-;simp only[cR,List.flatMap_append,alQ,List.flatMap_nil,amB]at h2|-;have:cT (gu ⟨Lt.w1 l,Lt.w2 l,[],[],[]⟩)=(4+1+((Lt.w1 l).length+1)+((Lt.w2 l).length+1))+1:=by simp[gu,cT,Lt.ln,lU,aL];omega
 omega
end
section
variable {r:Lt.Read} {l:List (List UInt8)} {B:Nat} (g:Good r.P B)
include g
variable (h:Lt.Inv r)
include h
theorem X2(hz:(dH r l).1=0):Good (dH r l).2.P (B+(aL l+11)):=by
 unfold dH at hz|-;split at hz
 .cases hz
 rename_i a;rw[if_neg a];simp only[akV,akI,decide_eq_true_eq]at a;have hs:=lO a.2
 obtain⟨p,fs,f,e,hp⟩:=lx h kQ1;have b:r.func (λf=>{ f with Params:=f.Params++[⟨Lt.w1 l,Lt.w2 l⟩] })=stF p fs { f with Params:=f.Params++[⟨Lt.w1 l,Lt.w2 l⟩] } r.Where r.Long:=by grind [jC]
 rw[b];rw[e]at g;refine E0 g (λhf=>hf) ?_;unfold gu lU;simp only[cR,amC,akM,alN,iA]
 grind [aL]
end
section
variable {r:Lt.Read} {l:List (List UInt8)} {B:Nat} (g:Good r.P B)
include g
variable (h:Lt.Inv r)
include h
theorem ahD(hz:(lW r l).1=0):Good (lW r l).2.P (B+(aL l+11)):=by
 unfold lW at hz|-;split at hz
 .cases hz
 rename_i a;rw[if_neg a];simp only[akV,akI,decide_eq_true_eq,alO]at a;have hs:=lO a.2
 obtain⟨p,fs,f,e,hp⟩:=lx h kQ1;have b:r.func (λf=>{ f with Vars:=f.Vars++[⟨Lt.w1 l,Lt.w2 l⟩] })=stF p fs { f with Vars:=f.Vars++[⟨Lt.w1 l,Lt.w2 l⟩] } r.Where r.Long:=by grind [jC]
 rw[e]at g;rw[b];refine E0 g (λhf=>hf) ?_;unfold gu lU
 grind [cR,iA,aL]
end
section
variable {r:Lt.Read} {l:List (List UInt8)} {B:Nat} (g:Good r.P B)
include g
variable (h:Lt.Inv r)
include h
theorem XY(hz:(dY r l).1=0):Good (dY r l).2.P (B+(aL l+15)):=by
 unfold dY at hz|-;split at hz
 .cases hz
 rename_i a;rw[if_neg a];simp only[akV,akI,decide_eq_true_eq,alO]at a;have hs:=BB a.1.2
 obtain⟨p,fs,f,e,hp⟩:=lx h kQ1;have b:r.func (λf=>{ f with Blocks:=f.Blocks++[⟨Lt.w1 l,[],[],⟨0,⟨0,[],0⟩,[],0⟩⟩] })=stF p fs { f with Blocks:=f.Blocks++[⟨Lt.w1 l,[],[],⟨0,⟨0,[],0⟩,[],0⟩⟩] } r.Where r.Long:=by grind [jC]
 rw[e]at g;rw[b];have z:Lt.inR 0:=by grind [Lt.inR]
 refine E0 g (λhf x hx=>?_) ?_
 .rcases akS.1 hx with hx|hx
  .exact hf x hx
  rw[akY.1 hx];exact⟨by simp,by simp,z,z⟩
 have h1:cT (gu { f with Blocks:=f.Blocks++[⟨Lt.w1 l,[],[],⟨0,⟨0,[],0⟩,[],0⟩⟩] })=cT (gu f)+cT (dV ⟨Lt.w1 l,[],[],⟨0,⟨0,[],0⟩,[],0⟩⟩):=Jn f f.Blocks _
 have:cT (dV ⟨Lt.w1 l,[],[],⟨0,⟨0,[],0⟩,[],0⟩⟩)=(5+1+((Lt.w1 l).length+1)+1)+8:=by
  have:aQ 0=[48]:=by decide +kernel
  simp[dV,cT,Lt.ln,aL,ko,this]
 omega
end
section
variable {r:Lt.Read} {l:List (List UInt8)} {B:Nat} (g:Good r.P B)
include g
variable (h:Lt.Inv r)
include h
theorem ahC(hz:(lM r l).1=0):Good (lM r l).2.P (B+(aL l+11)):=by
 unfold lM at hz|-;split at hz
 .cases hz
 rename_i j;rw[if_neg j];split at hz
 .cases hz
 rename_i n;rw[if_neg n];simp only[akV,akI,decide_eq_true_eq]at j;obtain⟨⟨⟨s,d⟩,_⟩,_⟩:=j;have m:=eh d (by decide)
 have hs:=pq (l:=l) kQ1
 obtain⟨_,hb⟩:=pb d;have c:=DO d
 have k:(aA l 2 false).1.length<=4611686018427387904:=by omega
 generalize(aA l 2 false).1=bs at hb c k|-;obtain⟨p,fs,f,bl,b,e,o⟩:=fF h kQ1;have q:r.block (λb=>{ b with Phis:=b.Phis++[⟨Lt.w1 l,bs.map λx=>⟨x.Name,x.A⟩⟩] })=stB p fs f bl { b with Phis:=b.Phis++[⟨Lt.w1 l,bs.map λx=>⟨x.Name,x.A⟩⟩] } r.Where r.Long:=by grind [fL]
 rw[e]at g;rw[q];refine EZ g (λa=>⟨λx hx=>?_,a.2.1,a.2.2⟩) ?_
 .rcases akS.1 hx with hx|hx
  .exact a.1 x hx
  rw[akY.1 hx];refine⟨by grind,λi hi=>?_⟩;obtain⟨y,hy,rfl⟩:=ak5.1 hi;exact c y hy
 grind [dV,cR,iA,Cm,List.flatMap_map,fW]
end
section
variable {r:Lt.Read} {l:List (List UInt8)} {B:Nat} (g:Good r.P B)
include g
variable (h:Lt.Inv r)
include h
theorem ajH(hz:(Lt.sAt r l).1=0):Good (Lt.sAt r l).2.P (B+(aL l+11)):=by
 unfold Lt.sAt at hz|-;split at hz
 .cases hz
 rename_i j;rw[if_neg j];split at hz
 .cases hz
 rename_i s;rw[if_neg s];simp only[akV,akI,decide_eq_true_eq]at j;obtain⟨⟨⟨⟨j,k⟩,_⟩,_⟩,⟨v,_⟩,_⟩:=j;have m:=eh k (by decide)
 have hs:=OQ (l:=l) kQ1
 obtain⟨_,hb⟩:=pb k;have d:=DO k
 have i:(aA l 4 true).1.length<=4611686018427387904:=by omega
 have a:=kW v
 generalize(aA l 4 true).1=bs at hb d i|-;generalize(bd (Lt.w3 l)).1=n at a|-;obtain⟨p,fs,f,bl,b,e,o⟩:=fF h kQ1;obtain⟨cs,c,q,_⟩:=o.ins kQ1 kQ1;have e':r=stI p fs f bl b cs c r.Where r.Long:=by unfold stI;rw[<- q];exact e
 have u:r.instr (λx=>{ x with Frames:=x.Frames++[⟨Lt.w1 l,Lt.w2 l,n,bs⟩] })=stI p fs f bl b cs { c with Frames:=c.Frames++[⟨Lt.w1 l,Lt.w2 l,n,bs⟩] } r.Where r.Long:=by grind [ny]
 rw[e']at g;rw[u];refine X4 g (λhx=>⟨hx.1,λy hy=>?_,hx.2.2⟩) ?_
 .rcases akS.1 hy with hy|hy
  .exact hx.2.1 y hy
  rw[akY.1 hy];exact⟨i,d⟩
 unfold ll;simp only[cR,amC,akM,alN,iA];have t:Lt.words { c with Frames:=c.Frames++[⟨Lt.w1 l,Lt.w2 l,n,bs⟩] }=Lt.words c:=rfl
 have:j0 ⟨Lt.w1 l,Lt.w2 l,n,bs⟩=[97,116]::Lt.w1 l::Lt.w2 l::Lt.w3 l::l.drop 4:=by rw[show l.drop 4=l.drop (4:Int).toNat from rfl,<- hb,<- a];rfl
 grind [fW]
end
section
variable {r:Lt.Read} {l:List (List UInt8)} {B:Nat} (g:Good r.P B)
include g
variable (h:Lt.Inv r)
include h
theorem ahB(hi:r.ins=true)(hz:(lL r l).1=0):Good (lL r l).2.P (B+(aL l+11)):=by
 unfold lL at hz|-;split at hz
 .cases hz
 rename_i d;rw[if_neg d];have m:5<=r.Where/\r.Where<=8:=by grind
 simp only[akV,akI,decide_eq_true_eq]at d;obtain⟨⟨⟨⟨d,c3⟩,n⟩,_⟩,j⟩:=d;have hs:=pq c3
 obtain⟨_,_,hp⟩:=pj j;have a:=Eb (l.drop 2) true
 generalize(br (l.drop 2) true).1=vs at hp a|-;obtain⟨p,fs,f,bl,b,e,o⟩:=fF h kQ1;obtain⟨cs,c,i,_⟩:=o.ins kQ1 kQ1;have e':r=stI p fs f bl b cs c r.Where r.Long:=by unfold stI;rw[<- i];exact e
 have k:r.instr (λx=>{ x with Objs:=x.Objs++[⟨Lt.w1 l,vs⟩] })=stI p fs f bl b cs { c with Objs:=c.Objs++[⟨Lt.w1 l,vs⟩] } r.Where r.Long:=by grind [ny]
 rw[e']at g;rw[k];refine X4 g (λhx=>⟨hx.1,hx.2.1,λy hy=>?_⟩) ?_
 .rcases akS.1 hy with hy|hy
  .exact hx.2.2 y hy
  rw[akY.1 hy];exact a
 grind [ll,cR,iA,Lt.words,qM,fW,ak8]
end
section
variable {r:Lt.Read} {l:List (List UInt8)} {B:Nat} (g:Good r.P B)
include g
variable (h:Lt.Inv r)
include h
theorem ahA(hi:r.ins=true)(hz:(lK r l).1=0):Good (lK r l).2.P (B+(aL l+11)):=by
 have q:5<=r.Where/\r.Where<=8:=by grind
 unfold lK at hz|-;cases hs:fC l with
 |none=>grind
 |some t=>
  have z:Lt.inR 0:=by grind [Lt.inR]
  have m:t.ok/\aL (ko t)<=aL l:=by
   unfold fC at hs;have two:(k x:List UInt8)->Lt.w0 l=k->l.length=2->x=Lt.w1 l->aL [k,x]<=aL l:=by grind [BB]
   split at hs
   .rename_i j;split at hs
    .rename_i c;simp only[akI,decide_eq_true_eq]at c;simp only[akJ]at hs;subst hs;exact⟨⟨z,z⟩,two _ _ j c.1 rfl⟩
    grind
   split at hs
   .split at hs
    .rename_i c;simp only[akI]at c;simp only[akJ]at hs;subst hs;refine⟨⟨vE _,z⟩,?_⟩;have i:=c.2
     unfold dC at i;simp only[akI]at i;have hw:=(nV i.1).2
     have hl:=c.1.1
     match l,hl with
     |[a,b,c,d],_=>grind [ko]
    grind
   split at hs
   .rename_i j;split at hs
    .rename_i c;simp only[akI,decide_eq_true_eq]at c;simp only[akJ]at hs;subst hs;have i:=c.2
     unfold dC at i;simp only[akI]at i;exact⟨⟨vE _,z⟩,two _ _ j c.1 (nV i.1).2⟩
    grind
   split at hs
   .rename_i j;split at hs
    .rename_i c;simp only[akI,decide_eq_true_eq]at c;simp only[akJ]at hs;subst hs;exact⟨⟨z,vG⟩,two _ _ j c.1 (kW c.2)⟩
    grind
   grind
  obtain⟨p,fs,f,bs,b,e,o⟩:=fF h kQ1;have n:r.block (λb=>{ b with End:=t })=stB p fs f bs { b with End:=t } r.Where r.Long:=by grind [fL]
  rw[e]at g;show Good (r.block (λb=>{ b with End:=t })).P _
  rw[n];refine EZ g (λhb=>⟨hb.1,hb.2.1,m.1⟩) ?_
  grind [dV,cR,iA]
end
section
variable {r:Lt.Read} {l:List (List UInt8)} {B:Nat} (g:Good r.P B)
include g
variable (h:Lt.Inv r)
include h
theorem Qy(hz:(bD r l).1=0):Good (bD r l).2.P (B+(aL l+11)):=by
 unfold bD at hz|-;split at hz
 .cases hz
 rename_i t;rw[if_neg t];split at hz
 .cases hz
 rename_i s;rw[if_neg s];cases hs:ig (if Lt.sEq l then Lt.w0 l else []) (if Lt.sEq l then l.drop 2 else l)with
 |none=>grind
 |some x=>
  rw[hs]at hz;simp only at hz|-
  split at hz
  .cases hz
  rename_i c;rw[if_neg c];have w:5<=r.Where/\r.Where<=8:=by grind
  have hx:x.ok/\x.Frames=[]/\x.Objs=[]/\aL (Lt.words x)<=aL l+10:=by
   have key:∀(dst:List UInt8)(l':List (List UInt8)),ig dst l'=some x->x.ok/\x.Frames=[]/\x.Objs=[]/\aL (Lt.words x)<=(if dst=[]then 0 else dst.length+3)+aL l':=by
    intro dst l' hi;unfold ig at hi;split at hi
    .cases hi
    rename_i d;simp only[akV,akI,beq_iff_eq]at d;obtain⟨_,o2,o3⟩:=Lh d.1;obtain⟨_,j,m,k,z,D⟩:=pf (Lt.sOp (Lt.w0 l')).1;have u:=d.2
    rw[m]at u;split at hi
    .cases hi
    rename_i nm rest hr;split at hi
    .rename_i c;simp only[akI,decide_eq_true_eq]at c;obtain⟨⟨⟨c,c3⟩,A⟩,E⟩:=c;simp only[akJ]at hi;subst hi;have i:=Eb rest false
     obtain⟨_,_,hp⟩:=pj c;refine⟨⟨i,by simp,by simp⟩,rfl,rfl,?_⟩;have h0:1<=l'.length:=by
      cases l' with
      |nil=>exact absurd d.1 (by decide +kernel)
      |cons a b=>simp
     have hd:aL (if(Lt.Of (Lt.sOp (Lt.w0 l')).1).1.Dst then [dst,[61]]else [])<=(if dst=[]then 0 else dst.length+3):=by grind [aL]
     have hw:aL [(Lt.Of (Lt.sOp (Lt.w0 l')).1).1.Word]=(Lt.w0 l').length+1:=by rw[o2,xd]
     unfold Bw at hr;unfold Lt.words;dsimp only;rw[r9,r9,hw,hp];split at hr
     .split at hr
      all_goals grind [OP,fW]
     rw[k]at hr;split at hr
     .split at hr
      all_goals grind [pq,fW]
     grind [OO]
    grind
   cases C:Lt.sEq l with
   |true=>
    have h2:2<l.length:=by grind [Lt.sEq]
    have:=pq (l:=l) kQ1
    grind
   |false=>grind
  obtain⟨hx1,q,n,v⟩:=hx;obtain⟨p,fs,f,bs,b,e,o⟩:=fF h kQ1;have j:r.block (λb=>{ b with Code:=b.Code++[x] })=stB p fs f bs { b with Code:=b.Code++[x] } r.Where r.Long:=by grind [fL]
  rw[e]at g;show Good (r.block (λb=>{ b with Code:=b.Code++[x] })).P _
  rw[j];refine EZ g (λhb=>⟨hb.1,λy hy=>?_,hb.2.2⟩) ?_
  .rcases akS.1 hy with hy|hy
   .exact hb.2.1 y hy
   grind
  grind [cT,dV,ll,Lt.ln]
end
section
variable {r:Lt.Read} {l:List (List UInt8)} {B:Nat} (g:Good r.P B)
include g
variable (h:Lt.Inv r)
include h
theorem acM{b:Bool}(hz:(aG r l b).1=0):Good (aG r l b).2.P (B+(aL l+15)):=by
 have up:∀{p:Lt.Program},Good p (B+(aL l+11))->Good p (B+(aL l+15)):=λh=>Ti h kQ1
 unfold aG at hz|-;split at hz
 .grind [Qy]
 rename_i c;rw[if_neg c];split at hz
 .rename_i c;rw[if_pos c];split at hz
  .cases hz
  rename_i c;rw[if_neg c];refine⟨g.1,?_⟩;have h2:=g.2
  unfold jS at h2|-;simp only[cR,if_true]at h2|-;have:cT [Lt.ln [[115,115,97]]]=5:=by decide
  omega
 split at hz
 .grind [aV,XZ,X0,Tf,Te,acL]
 grind [bg,X2,ahD,XY,ahC,aT,ajH,ahB,ahA,Qy]
end
theorem Jp:∀(L:List Lt.RLine)(b:Bool)(r:Lt.Read)(B:Nat),Lt.Inv r->Good r.P B->(cX L b r).2.2=0->Good (cX L b r).1 (B+(L.map λx=>aL x.Words+15).sum)
 |[],b,r,B,h,g,hz=>by grind [cX]
 |x::t,b,r,B,h,g,hz=>by
  rw[cX]at hz|-;split at hz
  .rename_i c;have:=Jp t false _ _ (qh h c) (acM g h c) hz
   grind
  grind
theorem Oj(h:(dI s).2.2=0):(dI s).1.ok/\(eB (jS (dI s).1)).length<=30*(s.length+1):=by
 have hs:(bQ s).2.2=0:=by grind [dI]
 obtain⟨ok,_⟩:=YN hs;unfold dI at h|-;rw[if_pos hs]at h|-;have z:Good (⟨⟨false,[],[],[],[]⟩,0,0⟩:Lt.Read).P 0:=by refine⟨?_,by decide⟩;intro f hf;cases hf
 obtain⟨h1,h2⟩:=Jp _ _ _ 0 Yf z h;have h3:=BA (jS (cX (bQ s).1 true ⟨⟨false,[],[],[],[]⟩,0,0⟩).1)
 have h4:=ok.size
 have h5:∀L:List Lt.RLine,(L.map λx=>aL x.Words+15).sum<=2*Eh L:=by intro L;induction L<;>grind [Bz]
 grind
theorem Iy:∀(l:List Lt.Block)(n:Nat),Lt.blocks l n=true->∀b∈l,Lt.block b=true/\b.Phis.length+b.Code.length<=1024
 |[],_,_,_,h=>by cases h
 |x::r,n,h,b,hb=>by
  have ih:=Iy r
  unfold Lt.blocks at h;simp only[akI,decide_eq_true_eq]at h;rcases akU.1 hb with rfl|hb
  .exact⟨h.1.2,by omega⟩
  exact ih _ h.2 b hb
theorem OZ{α:Type}(g:α->Nat)(c:Nat):∀l:List α,(∀x∈l,g x<=c)->(l.map g).sum<=l.length*c
 |[],_=>by simp
 |x::l,h=>by
  have:=OZ g c l λy hy=>h y (alF _ hy)
  have:=h x (List.mem_cons_self ..)
  rw[akM,List.sum_cons,ak3,Nat.succ_mul];omega
theorem ZM(h:aY p=true):bZ p/\(∀f∈p.Funcs,vn f)/\(∀e∈p.Externs,Lt.inR e.N)/\∀f∈p.Funcs,∀b∈f.Blocks,∀i∈b.Code,∀r∈i.Frames,Lt.inR r.At:=by
 unfold aY at h;simp only[akI,akZ]at h;obtain⟨_,_,g,j⟩:=h;have hf:∀f∈p.Funcs,f.Params.length<=6/\f.Vars.length<=1024/\f.Blocks.length<=256/\∀b∈f.Blocks,Lt.block b=true/\b.Phis.length+b.Code.length<=1024:=λf hm=>by
  have h1:=j f hm
  unfold aF Lt.typed at h1;simp only[akI,decide_eq_true_eq]at h1;exact⟨by omega,by omega,by omega,Iy _ _ h1.2⟩
 have hb:∀b:Lt.Block,Lt.block b=true->b.End.To.length<=2/\∀x∈b.Code,Lt.instr x=true:=λb h1=>by
  unfold Lt.block fJ at h1;simp only[akI,akZ]at h1
  grind
 have hi:∀x:Lt.Instr,Lt.instr x=true->x.Args.length<=8/\x.Frames.length<=16/\x.Objs.length<=99/\(∀r∈x.Frames,Lt.frame r=true)/\∀o∈x.Objs,Lt.virt o=true:=λx h1=>by
  have h2:=P6 x.Op
  unfold Lt.instr at h1;simp only[akI,decide_eq_true_eq]at h1
  grind
 have hx:∀f∈p.Funcs,∀b∈f.Blocks,∀x∈b.Code,Lt.instr x=true:=λf hm b a x c=>(hb b ((hf f hm).2.2.2 b a).1).2 x c
 refine⟨⟨λf hm=>by have:=hf f hm;omega,λf hm=>⟨λb a x c=>?_,⟨by have:=hf f hm;omega,λb a=>?_⟩,by have:=hf f hm;omega,λb a=>?_,λb a x c=>?_⟩⟩,λf hm b a x c=>?_,λe d=>?_,λf hm b a x c r hr=>?_⟩
 .have:=(hi x (hx f hm b a x c)).1;omega
 .have:=(hb b ((hf f hm).2.2.2 b a).1).1;omega
 .have:=((hf f hm).2.2.2 b a).2;omega
 .obtain⟨h1,h2,h3,h4,h5⟩:=hi x (hx f hm b a x c);have k1:=OZ (λf:Lt.Frame=>f.Vars.length) 16 x.Frames λr hr=>by
   have:=h4 r hr
   unfold Lt.frame at this;simp only[akI,decide_eq_true_eq]at this;omega
  have k2:=OZ (λo:Lt.Virt=>o.Vals.length) 8 x.Objs λr hr=>by
   have:=h5 r hr
   unfold Lt.virt at this;simp only[akI,decide_eq_true_eq]at this;omega
  unfold iT Ep;omega
 .obtain⟨_,h2,h3,_⟩:=hi x (hx f hm b a x c);omega
 .have:=g e d
  unfold cH at this;simp only[akI,decide_eq_true_eq]at this;unfold Lt.inR;omega
 have:=(hi x (hx f hm b a x c)).2.2.2.1 r hr
 unfold Lt.frame at this;simp only[akI,decide_eq_true_eq]at this;unfold Lt.inR;omega
abbrev ajZ:List UInt8:=[102,117,110,99,32,102,32,105,110,116,10,112,97,114,97,109,32,107,32,105,110,116,10,98,108,111,99,107,32,97,10,114,101,116,32,107,10]
abbrev ajF:Lt.Func:=⟨[102],[105,110,116],[⟨[107],[105,110,116]⟩],[],[⟨[97],[],[],⟨3,⟨1,[107],0⟩,[],0⟩⟩]⟩
abbrev ahY:Lt.Program:=⟨false,[],[],[],[ajF]⟩
abbrev aj0:List UInt8:=[102,117,110,99,32,102,32,105,110,116,10,118,97,114,32,120,32,105,110,116,10,98,108,111,99,107,32,97,10,114,101,116,32,120,10]
abbrev acI:Lt.Func:=⟨[102],[105,110,116],[],[⟨[120],[105,110,116]⟩],[⟨[97],[],[],⟨3,⟨1,[120],0⟩,[],0⟩⟩]⟩
abbrev KT:Lt.Program:=⟨false,[],[],[],[acI]⟩
abbrev aj1:List UInt8:=[102,117,110,99,32,102,32,105,110,116,10,98,108,111,99,107,32,97,10,114,101,116,32,49,10,98,108,111,99,107,32,98,10,114,101,116,32,49,10]
abbrev ajG:Lt.Func:=⟨[102],[105,110,116],[],[],[⟨[97],[],[],⟨3,⟨2,[],1⟩,[],0⟩⟩,⟨[98],[],[],⟨3,⟨2,[],1⟩,[],0⟩⟩]⟩
abbrev Ov:Lt.Program:=⟨false,[],[],[],[ajG]⟩
theorem tx0:cy ajZ=(ahY,0,0):=by decide +kernel
theorem tx1:cy aj0=(KT,0,0):=by decide +kernel
theorem tx2:cy aj1=(Ov,0,0):=by decide +kernel
theorem X1(b:Lt.Block)(h:b.End.To=[]):Lt.Gd [b]:=by
 have a:∀i,i<[b].length->i=0:=λi hi=>by grind
 refine⟨Nat.zero_lt_one,λi j hi hj _=>by grind,λi hi=>?_,λi hi s hs=>?_,λk hk=>?_⟩
 .grind
 .grind
 rw[a k hk];exact .first Nat.zero_lt_one
theorem WK{v:List UInt8}(hf:f.Blocks=[b])(h:b.End.To=[]){k:Nat}(hb:Lt.Bare f v k):v ∉ f.Params.map (·.Name):=by cases hb<;>grind
theorem Zn:bZ ahY:=by grind [bZ,jR,lI,sJ]
theorem Zo:bZ KT:=by grind [bZ,jR,lI,sJ]
theorem Zp:bZ Ov:=by grind [bZ,jR,lI,sJ]
theorem akD:bq ahY=0:=by
 rw[agW,Rb];refine⟨by rfl,by rfl,by rfl,by rfl,λf hf=>?_⟩;obtain rfl:=akY.1 hf;refine⟨qi (X1 _ rfl),by rfl,qi ⟨λk hk=>?_,λb hb x hx=>?_⟩⟩
 rotate_left
 .grind
 obtain rfl:k=0:=by grind
 exact⟨λj hj=>absurd hj (Nat.not_lt_zero j),λ_ _=>.inl (.inl λhb=>WK (b:=(ajF.Blocks.getD 0 default)) rfl rfl hb (akY.2 rfl))⟩
theorem akE:bq KT=4:=by
 have h1:aY KT=true:=by rfl
 have h2:jz KT=true:=by rfl
 have h3:iK KT=true:=by rfl
 have h4:gm KT=true:=by rfl
 have h5:dR acI=true:=qi (X1 _ rfl)
 have h6:kn KT acI=true:=by rfl
 have h7:gO acI=false:=tg λh=>by
  rcases(h.1 0 Nat.zero_lt_one).2 (.inr rfl) rfl with(h|h)|h
  .exact h (.first λhm=>by cases hm)
  .cases h
  cases h
 grind [bq,tU]
theorem akF:bq Ov=5:=by
 have h1:aY Ov=true:=by rfl
 have h2:jz Ov=true:=by rfl
 have h3:iK Ov=true:=by rfl
 have h4:gm Ov=true:=by rfl
 have h5:dR ajG=false:=tg λg=>by
  have h:=g.re 1 (by decide)
  generalize hk:(1:Nat)=k at h;cases h<;>grind
 grind [bq,tU]
theorem JK(KK:Bool->Prop)(h:KK yq):CE KK:=by
 have h:KK true:=h
 have e0:=tx0
 have b:=tx1
 have a:=tx2
 unfold ajZ at e0;unfold aj0 at b;unfold aj1 at a;unfold CE;simp only[e0,b,a,akD,akE,akF,Zn,Zo,Zp,decide_true,if_true,true_and,ac];exact h
theorem Lp(p:Lt.Program):∀l,tU p l≠1
 |[]=>by simp[tU]
 |f::r=>by
  have ih:=Lp p r
  unfold tU
  grind
theorem agX(p:Lt.Program):bq p≠1:=by
 have:=Lp p p.Funcs
 unfold bq
 grind
theorem Ay(s:List UInt8)(KK:Bool->Prop)(h:KK (LR s)):ou s KK:=by
 have h:KK true:=h
 unfold ou;intro _;refine ifk (λ_=>h) (λhc=>?_);have hs:s.length<=20000:=by simp at hc;omega
 intro J g;refine ifk (λhc=>absurd hc (by decide)) (λ_=>g _ (ifk (λ_=>h) (λa=>?_)));have hz:(dI s).2.2=0:=by
  cases hd:decide ((cy s).2.2=0)with
  |true=>exact of_decide_eq_true hd
  |false=>exact absurd (by rw[hd];rfl) a
 obtain⟨okP,e⟩:=Oj hz;have hr:=xG hz
 obtain⟨h1,h2,h3,h4⟩:=ZM hr;have hl:(jx (dI s).1).length<=4194304:=by rw[D2 hr];omega
 have f:lH (dI s).1:=⟨⟨okP,h3,h4,by unfold Lt.room;omega⟩,Zy okP hl,h1,h2⟩
 have b:=agX (dI s).1
 intro d c;have on:d true:=c _ h
 have all:bZ (cy s).1/\lH (cy s).1/\if decide (bq (cy s).1=bq (cy s).1)=true then bZ (cy s).1/\d (!decide (bq (cy s).1=1))else d false:=by refine⟨h1,f,?_⟩;rw[if_pos (by simp),show decide (bq (cy s).1=1)=false from decide_eq_false b];exact⟨h1,on⟩
 exact⟨all,all⟩
end Go.Am
end

section
namespace Go.Am
open Go Go.Proofs
set_option maxRecDepth 100000
section
variable {sh:List (TypeId×List Sh)}
noncomputable def b3(E:Ev sh){f:Nat}(fn:Func)(an:An)(u:U)(ps:List U){pre:List (El u)->Fl ps->Prop}{F:List (El u)->Fl ps->List (El u)}{G:List (El u)->Fl ps->(List (El u)->Prop)->Prop}(a:∀x y,pre x y->∀KK:List (El u)->Prop,KK (F x y)->G x y KK)(hw:∀x y KK,G x y KK=WN E.en fn an u ps x y KK:=by intros;kernel_rfl)(hf:prog.funcs[f]? = some fn:=by kernel_rfl)(hb:okF (ps.length+1) fn=true:=by kernel_rfl):Cb f:=⟨adS u ps pre F,Vt E.ok mixed hf (dj hb).1 (dj hb).2.1 (dj hb).2.2.1 (dj hb).2.2.2 λx y hp KK h=>hw x y KK ▸ a x y hp KK h⟩
noncomputable def b2(E:Ev sh){f:Nat}(fn:Func)(an:An)(a:List Sh)(u:U)(ps rs:List U){pre:El u->Fl ps->Prop}{F:El u->Fl ps->Fl rs×El u}{G:El u->Fl ps->(Fl rs×El u->Prop)->Prop}(b:∀x y,pre x y->∀KK:Fl rs×El u->Prop,KK (F x y)->G x y KK)(hw:∀x y KK KP,G x y KK=yr E.en fn an a u ps rs x y KK KP:=by intros;kernel_rfl)(hf:prog.funcs[f]? = some fn:=by kernel_rfl)(hb:okF (ps.length+1) fn=true:=by kernel_rfl):Cb f:=⟨KZ a u ps rs pre λx y=>(.ok (F x y).1,(F x y).2),Ct E.ok mixed hf (dj hb).1 (dj hb).2.1 (dj hb).2.2.1 (dj hb).2.2.2 λx y hp KK KP h=>hw x y KK KP ▸ b x y hp KK h⟩
def tS:List (Nat->Sp):=[(.sl · .bo),(.sl · uI),(.ow · [.fr] .b8),(.sl · (.i .u64)),(.sl · .b8),λk=>.rt (.loc k) [.fr,.fr,.fr,.fr,.fr] (.st .RForm),(.ow · [.fr] .s),(.ow · [.fr,.fr] (.st .RLine)),(.sl · .s),(.ow · [.fr,.fr,.fr] (.st .Arg)),(.sl · (.sl .s)),λk=>.rt (.loc k) [.fr,.fr,.fr,.ow [],.ow [],.ow []] (.st .Instr),λk=>.rt (.out k) [.fr,.ow [.fr,.ow [.fr,.fr]],.ow [.fr,.fr],.ow [.fr,.fr],.ow [.fr,.fr,.ow [.fr,.fr],.ow [.fr,.fr],.ow [.fr,.ow [.fr,.fr],.ow [.fr,.fr,.fr,.fr,.ow [.fr,.fr,.fr,.fr],.ow [.fr,.fr]],.fr,.fr,.fr,.fr,.fr,.fr]],.fr,.fr] (.st .Read),(.ow · [.fr,.fr,.fr,.fr] (.st .Bind)),λk=>.rt (.loc k) [.fr,.ow [.fr,.fr,.fr,.fr]] (.st .Phi),λk=>.rt (.loc k) [.fr,.ow [.fr,.ow [.fr,.fr]],.ow [.fr,.fr],.ow [.fr,.fr],.ow [.fr,.fr,.ow [.fr,.fr],.ow [.fr,.fr],.ow [.fr,.ow [.fr,.fr],.ow [.fr,.fr,.fr,.fr,.ow [.fr,.fr,.fr,.fr],.ow [.fr,.fr]],.fr,.fr,.fr,.fr,.fr,.fr]],.fr,.fr] (.st .Read),(.ow · [.fr] .bo),λk=>.rt (.loc k) [.fr,.fr] (.st .Var)]
noncomputable def Sv:Cb 7:=b0 ((ad zH (ad IQ eZ)):Ev []) f7 (aN tS 0x4041041 [0x80000000]) [] [.bo] (λ_=>JK )
noncomputable def SG:Cb 12:=b1 (eZ:Ev []) f12 (aN tS 0x20320204d609041 [0x1010c1100001040041]) [.st .Func] [uI] JS
noncomputable def EM:Cb 39:=b3 (eZ:Ev []) f39 (aN tS 0x2000818c8081358241 [0x5040084000000041,0x2080000005042]) .b8 [.sl .s] (λx y=>Yx x y)
noncomputable def abT:Cb 40:=b3 ((ad EM eZ):Ev []) f40 (aN tS 0x80c8081358241 [0x1c1002100000002042]) .b8 [.s,.sl (.st .Var)] (λx y=>TY x y.1 y.2)
noncomputable def abS:Cb 82:=b0 (eZ:Ev []) f82 (aN tS 0x40050241 []) [uI] [.i .u64] TX
noncomputable def zM:Cb 41:=b1 ((ad abS eZ):Ev []) f41 (aN tS 0x20028120204105d701041 [0x3082000000001,0x40c3084000000001]) [uI] [.s] Yw
noncomputable def EL:Cb 152:=b0 (eZ:Ev []) f152 (aN tS 0x8000508202c8081358241 [0x3042000000001,0x5002000000103003,0xb80080000003002,0x80080000000]) [.s] [.bo] TV
noncomputable def Xe:Cb 199:=b0 (eZ:Ev []) f199 (aN tS 0x1041 []) [uI] [.bo] Nw
noncomputable def IE:Cb 153:=b0 ((ad Xe eZ):Ev []) f153 (aN tS 0x40050241 []) [uI] [uI] Ny
noncomputable def IF:Cb 83:=b0 ((ad EL (ad IE eZ)):Ev []) f83 (aN tS 0x100050840050241 [0x680080001040041,0x80080000000]) [.st .Arg] [.bo] Nz
noncomputable def Xd:Cb 84:=b0 ((ad IE eZ):Ev []) f84 (aN tS 0x2002020602c8081358241041 [0x1411020c3180000000,0x6102000004dc11440c3]) [uI] [.s] Yv
noncomputable def uD:Cb 42:=b1 ((ad zM (ad IF (ad Xd eZ))):Ev []) f42 (aN tS 0x40050240050240050240050240050241 []) [.st .Arg] [.s] TZ
noncomputable def Xg:Cb 85:=b0 (eZ:Ev []) f85 (aN tS 0x804201030201021030028040840840840840c60c100050841 [0xa002000081002002,0x1050801040c0081002002,0x4142000081004082,0x33002000102080c04083,0xf38002000102080c04083,0x41e00080004082004082]) [uI] [.st .RForm,.bo] ac4
noncomputable def abO:Cb 86:=b3 ((ad uD eZ):Ev []) f86 (aN tS 0x80c8081358241 [0x5040184000000041]) .s [.sl (.st .Arg)] (λx y=>TS x y)
noncomputable def abP:Cb 43:=b3 ((ad EM (ad zM (ad uD (ad Xg (ad abO eZ))))):Ev []) f43 (aN tS 0x20380204d609000700409ac122320204d609040081801050901010301041 [0x1c6080001143080143003,0x1c60800010c1003002,0xac008000114309d047143004,0x1c60800010c1003002,0x2010021000030400c1,0x246080003040dc1203003,0x281246100003040dc1203003,0x91820000c103704a203004,0x2c10021000030400c1,0x820000c100b0c2]) .b8 [.st .Instr] (λx y=>TT x y)
noncomputable def abQ:Cb 44:=b3 ((ad EM (ad zM (ad uD eZ))):Ev []) f44 (aN tS 0x1010301010901001421041 [0x3c00800010c11c1143003,0x1860800010c1003002,0x7800800010c1581183003,0x186080001000001]) .b8 [.st .Term] (λx y=>TU x y)
noncomputable def Xf:Cb 14:=b1 ((ad EM (ad abT (ad zM (ad uD (ad abP (ad abQ eZ)))))):Ev []) f14 (aN tS 0x8000640409ac12000e0081358241640409ac12082c80813582202c8081358240700409ac12080e008135824040c041 [0xc2080001040041,0x1010c2100001040041,0x3082000041004042,0x1410c2100001040041,0x3082000041005042,0x1810c2100001040041,0x30820001c10801c6043,0x80430840001c10801c6043,0x2810c21000091c10c02481c6045,0x3012c61000091c10c3dc1289207183047,0xb1820002470430f704c289207183048,0x3410c21000091c10c02481c6045]) [.st .Program] [.s] Nx
noncomputable def Xo:Cb 111:=b0 (eZ:Ev []) f111 (aN tS 0x800104040c0014094081000818848021208e0081358241041041040050241 [0xb04a0090080470861851ce000000001,0x2802402011c218614730000000b002,0x3000800001f71b71770cb289207185008,0x2400800001f71b71770cc2ca207185008,0x27002000007dc6dc5dc330b289207185009,0x2801c218618000017704c2c9205006,0xdf8002000007dc6dc5dc330b289207185009,0x6182000005dc130b289205007,0x2800800001f71b71770cc2c9207185008,0x51c2000007dc12ca207005]) [.s] [.sl (.st .RLine),uI,uI] NK
noncomputable def lj:Cb 212:=b0 ((ad EL eZ):Ev []) f212 (aN tS 0x2000502c8081358241 [0x3042000000001]) [.sl .s] [.bo] NG
noncomputable def ai4:Cb 213:=b0 (eZ:Ev []) f213 (aN tS 0x2000502c8081358241 [0x4042000000001]) [.s] [uI,.bo] ac5
noncomputable def abU:Cb 240:=b0 (eZ:Ev []) f240 (aN tS 0x41 []) [.i .u64] [uI] T1
noncomputable def EN:Cb 218:=b0 ((ad zM (ad abU eZ)):Ev []) f218 (aN tS 0x20028120212000210b80210d609041 [0x50440c4000000001,0xd002000000144003,0x103080000005002,0x16002000000144003,0x40c2000000001,0x980080000004002]) [.s] [uI,.bo] YA
noncomputable def agN:Cb 251:=b0 ((ad Xd eZ):Ev []) f251 (aN tS 0x20028120008180b20204d609040050241 [0x50440c4000000001,0x60c2000000144003]) [.s] [uI,.bo] Yz
noncomputable def agM:Cb 238:=b0 ((ad uD (ad IF (ad EN (ad agN eZ)))):Ev []) f238 (aN tS 0x1000284640409d9824104104040c041 [0x4202000081002002,0x3ae000800022c200c2c2004]) [.s] [.st .Arg,.bo] Yy
noncomputable def yu:Cb 215:=b1 ((ad agM eZ):Ev []) f215 (aN tS 0x800028420b20204d609041 [0x1c1189100000001002,0x880080008046dc1207181005]) [.sl .s,.bo] [.sl (.st .Arg),.bo] (λx=>T0 x.1 x.2)
noncomputable def Xj:Cb 177:=b2 ((ad Xg (ad lj (ad ai4 (ad (bI (eZ:Ev eS) 214 f214 (aN tS 0x41 [])) (ad yu eZ))))):Ev eS) f177 (aN tS 0x1010901101041040050240050841001001409408041001409424041001421041001001409424041 [0x52c1284000040005002,0x18002000045040141003,0x3fe00080001205080206141005,0x14b28a100001201008185004,0x11f800200004814200a206141006,0x85e0008000114100b185004,0xc080000006002,0xc080000000,0xc1e00080001000001]) [.fr,.ow [.fr,.ow [.fr,.fr]],.ow [.fr,.fr],.ow [.fr,.fr],.ow [.fr,.fr,.ow [.fr,.fr],.ow [.fr,.fr],.ow [.fr,.ow [.fr,.fr],.ow [.fr,.fr,.fr,.fr,.ow [.fr,.fr,.fr,.fr],.ow [.fr,.fr]],.fr,.fr,.fr,.fr,.fr,.fr]],.fr,.fr] (.st .Read) [.sl .s] [uI] (λx y=>NB x y)
noncomputable def zN:Cb 216:=b0 (eZ:Ev []) f216 (aN tS 0x40050241 []) [uI,uI] [uI] (λx=>NE x.1 x.2)
noncomputable def abV:Cb 239:=b0 ((ad EL eZ):Ev []) f239 (aN tS 0x101 [0x80080000000]) [.s] [.bo] T2
noncomputable def IH:Cb 217:=b0 ((ad lj (ad abV eZ)):Ev []) f217 (aN tS 0x101 [0x80080000000]) [.sl .s] [.bo] NL
noncomputable def Xk:Cb 178:=b2 ((ad (bS 19 (bI (eZ:Ev eS) 113 f113 (aN tS 0x41 [])) (bS 124 (bI (eZ:Ev eS) 113 f113 (aN tS 0x41 [])) (bS 163 (bI (eZ:Ev eS) 113 f113 (aN tS 0x41 [])) (bI (eZ:Ev eS) 113 f113 (aN tS 0x41 []))))) (ad lj (ad zN (ad IH (ad EN eZ))))):Ev eS) f178 (aN tS 0x20020822020028428100822020028420800a10a04020880800a10a04020206020800a10a04020088180800a10a058241 [0x22002000040001002,0x302000000181,0xc080000006002,0x12b8002000040001002,0x302000000201,0x20f8002000040001002,0xc080000009002,0x2cb8002000040001002,0xc3e00080001000281003,0xc08000000c002,0x3a38002000040001002,0xc08000000d002]) [.fr,.ow [.fr,.ow [.fr,.fr]],.ow [.fr,.fr],.ow [.fr,.fr],.ow [.fr,.fr,.ow [.fr,.fr],.ow [.fr,.fr],.ow [.fr,.ow [.fr,.fr],.ow [.fr,.fr,.fr,.fr,.ow [.fr,.fr,.fr,.fr],.ow [.fr,.fr]],.fr,.fr,.fr,.fr,.fr,.fr]],.fr,.fr] (.st .Read) [.sl .s] [.bo,uI] (λx y=>NC x y)
noncomputable def IG:Cb 219:=b1 ((ad lj (ad yu eZ)):Ev []) f219 (aN tS 0x800028420b20204d609001421041 [0x5c0080000008081004,0x24120d100000002002,0x34002000008dc1289202005]) [.sl .s,uI,.bo] [.sl (.st .Bind),.bo] (λx=>NH x.1 x.2.1 x.2.2)
noncomputable def Xn:Cb 179:=b2 ((ad lj (ad zN (ad IH (ad IG eZ)))):Ev eS) f179 (aN tS 0x4004101c01026b04820028420028420a04020880800a10a04020880800a10a04022020028428160900800822020380204d6090400508400508414080411010014214080411010014214080440400508502c13c0409041 [0x1000181,0x33002000040006042,0x3020000001c1,0x5de00080001000181003,0xc080000008002,0x99e00080001000181003,0xc080000009002,0x337800200004000a181004,0x35f800200004000a181004,0xc38d04400004000c286004,0x30e08000100034c286005,0x302000000001,0xcc0080001401006042,0x10001c1,0x1778002000050040181003,0x40008002,0x2678002000050040181003,0x40009002,0xcde0008000140100a181004,0xd7e0008000140100a181004,0x30e34110000140100c286004,0xc38200005004034c286005]) [.fr,.ow [.fr,.ow [.fr,.fr]],.ow [.fr,.fr],.ow [.fr,.fr],.ow [.fr,.fr,.ow [.fr,.fr],.ow [.fr,.fr],.ow [.fr,.ow [.fr,.fr],.ow [.fr,.fr,.fr,.fr,.ow [.fr,.fr,.fr,.fr],.ow [.fr,.fr]],.fr,.fr,.fr,.fr,.fr,.fr]],.fr,.fr] (.st .Read) [.sl .s] [.bo,uI] (λx y=>NJ x y)
noncomputable def SL:Cb 180:=b2 ((ad lj (ad (bI (eZ:Ev eS) 214 f214 (aN tS 0x41 [])) (ad yu (ad zN (ad EN (ad IG (ad (bI ((ad lj (ad yu (ad EN eZ))):Ev eS) 220 f220 (aN tS 0x40008281050900008281050900008281050900041421041 [0x1f002000040013f92f91f8ef4df7af39f38f37f36f35f34f33f32f31f30f2ff2ef2df2cf2bf2af29f28f27f26f25f24f23f22f21f20f1ff1ef1df07f06f01f00f02069,0x40013f92f91f8ef4df7af39f38f37f36f35f34f33f32f31f30f2ff2ef2df2cf2bf2af29f28f27f26f25f24f23f22f21f20f1ff1ef1df07f06f01f00f02069,0xeb8002000040013f92f91f8ef4df7af39f38f37f36f35f34f33f32f31f30f2ff2ef2df2cf2bf2af29f28f27f26f25f24f23f22f21f20f1ff1ef1df07f06f01f00f02069,0x40013f92f91f8ef4df7af39f38f37f36f35f34f33f32f31f30f2ff2ef2df2cf2bf2af29f28f27f26f25f24f23f22f21f20f1ff1ef1df07f06f01f00f02069,0x1638002000040013f92f91f8ef4df7af39f38f37f36f35f34f33f32f31f30f2ff2ef2df2cf2bf2af29f28f27f26f25f24f23f22f21f20f1ff1ef1df07f06f01f00f02069,0x40013f92f91f8ef4df7af39f38f37f36f35f34f33f32f31f30f2ff2ef2df2cf2bf2af29f28f27f26f25f24f23f22f21f20f1ff1ef1df07f06f01f00f27,0x1bf8002000040013f92f91f8ef4df7af39f38f37f36f35f34f33f32f31f30f2ff2ef2df2cf2bf2af29f28f27f26f25f24f23f22f21f20f1ff1ef1df07f06f01f00f02069])) eZ))))))):Ev eS) f180 (aN tS 0x400104404100140904005085020110005084100142104005084140b04820800a108042010210210210210318241 [0x14002000040001002,0x1d002000040001002,0x53e00080001000207043,0x193800200004000a207044,0x1eb800200004000c288044,0xc080000000,0xa5e000800010001c1003,0xc080000010002,0xc141100180000000]) [.fr,.ow [.fr,.ow [.fr,.fr]],.ow [.fr,.fr],.ow [.fr,.fr],.ow [.fr,.fr,.ow [.fr,.fr],.ow [.fr,.fr],.ow [.fr,.ow [.fr,.fr],.ow [.fr,.fr,.fr,.fr,.ow [.fr,.fr,.fr,.fr],.ow [.fr,.fr]],.fr,.fr,.fr,.fr,.fr,.fr]],.fr,.fr] (.st .Read) [.sl .s] [.bo,uI] (λx y=>JZ x y)
noncomputable def Xl:Cb 112:=b2 ((ad Xj (ad Xk (ad Xn (ad SL eZ)))):Ev eS) f112 (aN tS 0x101030040c010301001040050850240050841 [0x440080001000081003,0x7c0080001000001,0xc2011c0180000001002,0xc2011c0180000001002,0xc201100000000]) [.fr,.ow [.fr,.ow [.fr,.fr]],.ow [.fr,.fr],.ow [.fr,.fr],.ow [.fr,.fr,.ow [.fr,.fr],.ow [.fr,.fr],.ow [.fr,.ow [.fr,.fr],.ow [.fr,.fr,.fr,.fr,.ow [.fr,.fr,.fr,.fr],.ow [.fr,.fr]],.fr,.fr,.fr,.fr,.fr,.fr]],.fr,.fr] (.st .Read) [.sl .s,.bo] [uI] (λx y=>NF x y.1 y.2)
noncomputable def Xm:Cb 66:=b0 ((ad Xo (ad Xl (ad (bI (eZ:Ev eS) 113 f113 (aN tS 0x41 [])) eZ))):Ev eS) f66 (aN tS 0x800a1080014082c8081358241001409041 [0x58f241100002040205083,0xc40080016082008082]) [.s] [.st .Program,uI,uI] NI
noncomputable def zO:Cb 114:=b0 (eZ:Ev []) f114 (aN tS 0x2000502c8081358240050241 [0x141080000001002]) [.sl (.st .Var),.sl (.st .Var)] [.bo] (λx=>Fj x.1 x.2)
noncomputable def MH:Cb 241:=b0 (eZ:Ev []) f241 (aN tS 0x2000502c8081358240050241 [0x141080000001002]) [.sl (.st .Arg),.sl (.st .Arg)] [.bo] (λx=>Fi x.1 x.2)
noncomputable def IB:Cb 221:=b0 ((ad MH eZ):Ev []) f221 (aN tS 0x800142320204d6090000502c80813582002842082c8081358240050841 [0xd80080003082003082,0x141080003082003082,0x18f80020001c60c21001c6143085,0x80420001c60c21001c6143085,0x241080003082003082,0x26780020000c2080243083]) [.st .Instr,.st .Instr] [.bo] (λx=>B5 x.1 x.2)
noncomputable def II:Cb 181:=b0 ((ad IB eZ):Ev []) f181 (aN tS 0x4000a05901026b048000281640409ac1001421640409ac12000502c8081358240050841 [0x45e00080003082003082,0x141080003082003082,0x181080003082003082,0x1ff80020000c2080183083,0x70420000c2080183083,0x201080003082003082]) [.st .Block,.st .Block] [.bo] (λx=>B7 x.1 x.2)
noncomputable def Mu:Cb 115:=b0 ((ad zO (ad II eZ)):Ev []) f115 (aN tS 0x2000502c8081358240050841 [0xa80080003082003082,0x141080003082003082]) [.st .Func,.st .Func] [.bo] (λx=>E6 x.1 x.2)
noncomputable def agI:Cb 67:=b0 ((ad zO (ad Mu eZ)):Ev []) f67 (aN tS 0x800140b20204d609000281640409ac12000508c8081358240050841 [0xbc0080003082003082,0x141080003082003082,0x14f80020000c2080143083,0x181080003082003082,0x1c1080003082003082]) [.st .Program,.st .Program] [.bo] (λx=>Yp x.1 x.2)
noncomputable def abR:Cb 31:=b1 ((ad Xf (ad Xm (ad agI eZ))):Ev []) f31 (aN tS 0x1041 []) [.st .Program] [.bo] TW
noncomputable def MD:Cb 32:=b1 (eZ:Ev []) f32 (aN tS 0x10000502c80813582002812c8081358241 [0xc1080001040041,0x4042000041003042]) [.st .Func] [.bo] Ff
noncomputable def rh:Cb 69:=b0 (eZ:Ev []) f69 (aN tS 0x2000502c8081358241 [0x6042000102080102043]) [.st .Program,.s] [.st .Class,.bo] (λx=>JU x.1 x.2)
noncomputable def yt:Cb 70:=b0 (eZ:Ev []) f70 (aN tS 0x41 []) [.s] [.bo] TP
noncomputable def SK:Cb 68:=b0 ((ad rh (ad yt eZ)):Ev []) f68 (aN tS 0x4000140b20204d60800a1088c8081358241 [0x5042000081002042,0x1c0080002040142043,0x880080002040142043,0x201080002040142043]) [.st .Program,.sl (.st .Var)] [.bo] (λx=>JY x.1 x.2)
noncomputable def SI:Cb 33:=b1 ((ad SK (ad rh (ad yt eZ))):Ev []) f33 (aN tS 0x1000284101041000281640409ac12c808135824000140b20204d60b20204d609000281000281640409ac12c8081358240050241 [0xc1080001040041,0x4042000041003042,0x141080001040041,0x6042000041005042,0x1c1080001040041,0x8042000041007042,0xb002000041074e01247043,0x2438002000041007042]) [.st .Program] [.bo] JW
noncomputable def zK:Cb 116:=b0 (eZ:Ev []) f116 (aN tS 0x2000502c8081358241 [0x6042000081002042]) [.st .Func,.s] [uI,.bo] (λx=>No x.1 x.2)
noncomputable def zI:Cb 128:=b1 ((ad zK eZ):Ev []) f128 (aN tS 0x80014202c8081358241 [0x1c10800030400c2043,0x2a0020000c10070c2044]) [.st .Func,uI,uI] [.bo] (λx=>Nj x.1 x.2.1 x.2.2)
noncomputable def abH:Cb 117:=b8 ((ad zI eZ):Ev []) f117 (aN tS 0x8000284700421ac1640409ac104160204d641041 [0x1000d0100001040041,0x1411000d0180001040041,0x6044003406000041005042,0x800080001043dc1185103045,0x1000d0100001040185043,0xb40080001043dc1185103045]) [.st .Func] [.sl .bo] TI
noncomputable def Xi:Cb 71:=b1 ((ad zK (ad abH eZ)):Ev []) f71 (aN tS 0x4000a05901026b04820000140b20204d60800a1082c808135820800a0482c8081358241 [0xc1080001040041,0x1c1080001040183043,0xf78002000041007183044,0xa042000041007183044,0xc0420000002c1]) [.st .Func] [.bo] NA
noncomputable def MG:Cb 182:=b0 (eZ:Ev []) f182 (aN tS 0x2000502c8081358241 [0x181080004040101003]) [.sl (.st .Var),.s] [.st .Var,.bo] (λx=>Yt x.1 x.2)
noncomputable def Qj:Cb 118:=b0 ((ad MG eZ):Ev []) f118 (aN tS 0x1001409041 []) [.st .Func,.s] [.st .Var,.bo] (λx=>TQ x.1 x.2)
noncomputable def Xc:Cb 119:=b0 ((ad Qj eZ):Ev eV) f119 (aN tS 0x40041421001050241 [0x7400800030400c1]) [.st .Func,.st .Arg] [.s,.bo] (λx=>Yu x.1 x.2)
noncomputable def zL:Cb 120:=b0 ((ad yt eZ):Ev []) f120 (aN tS 0x101 [0x100080000000]) [.s,.s] [.bo] (λx=>Nu x.1 x.2)
noncomputable def Xa:Cb 121:=b0 ((ad zL eZ):Ev []) f121 (aN tS 0x2000508c8081358241 [0x141080000001002,0x1c002000000141003]) [.sl .s,.sl (.st .Var)] [.bo] (λx=>Nt x.1 x.2)
noncomputable def SH:Cb 122:=b0 ((ad rh (ad MG eZ)):Ev []) f122 (aN tS 0x1041 []) [.st .Program,.s,.s] [.st .Var,.bo] (λx=>JV x.1 x.2.1 x.2.2)
noncomputable def MF:Cb 123:=b0 ((ad MG eZ):Ev []) f123 (aN tS 0x41 []) [.st .Program,.s] [.st .Var,.bo] (λx=>Fh x.1 x.2)
noncomputable def Xb:Cb 124:=b0 (eZ:Ev []) f124 (aN tS 0x2000502c8081358241 [0x6042000102080102043]) [.st .Program,.s] [.st .Func,.bo] (λx=>Nv x.1 x.2)
noncomputable def ME:Cb 125:=b0 (eZ:Ev []) f125 (aN tS 0x2000502c8081358241 [0x6042000102080102043]) [.st .Program,.s] [.st .Extern,.bo] (λx=>Fg x.1 x.2)
noncomputable def SJ:Cb 72:=b1 ((ad rh (ad yt (ad Xg (ad Qj (ad Xc (ad zL (ad Xa (ad SH (ad MF (ad Xb (ad ME eZ))))))))))):Ev []) f72 (aN tS 0x2000502c808135824000a10140805020140810140804140804140811020411020411020405020140b06008480212020800028120b20204d609040050841041 [0x46e000800091440c40091440c4,0x3012c61000091440c40091440c4,0x3c80800091430cbdc140b2450c5,0x1ab80020002450c32f70503cb2450c6,0x4080800091430cbdc13cb2450c5,0x1df80020002450c32f70503cb2450c6,0x2412f70503cb244,0x180080000000,0x134540040134c3009142009142,0x180080000000,0x5515801005550c01412f704b142,0x180080000000,0x180080000000,0x180080000000,0x55b80020002412f70503cb244,0x1f0420002412f70503cb244]) [.st .Program,.st .Func,.st .Instr] [.bo] (λx=>JX x.1 x.2.1 x.2.2)
noncomputable def abN:Cb 73:=b0 ((ad Xc (ad zL eZ)):Ev []) f73 (aN tS 0x4041 [0x100080000000]) [.st .Func,.st .Term] [.bo] (λx=>TO x.1 x.2)
noncomputable def W7:Cb 222:=b8 (eZ:Ev []) f222 (aN tS 0x100205c01026b04820040b80204d609041 [0x181146100000001002,0x5182000000181003,0x1c1146100000001002,0x51820000001c1003]) [.sl .s,.s] [.sl .s] (λx=>Nq x.1 x.2)
noncomputable def W6:Cb 183:=b8 ((ad W7 eZ):Ev []) f183 (aN tS 0x40050241 []) [.sl .s,.st .Arg] [.sl .s] (λx=>Np x.1 x.2)
noncomputable def SE:Cb 126:=b8 ((ad W6 eZ):Ev []) f126 (aN tS 0x200640409ac1640409ac1200640409ac1640409ac120320204d609041 [0x1010ca100001040041,0x1410ca100001040041,0x6043284000041005042,0x1c10ca100001040041,0x8043284000041007042]) [.st .Instr] [.sl .s] JP
noncomputable def Db:Cb 185:=b1 (eZ:Ev []) f185 (aN tS 0x2000508c8081358241 [0x1c10800030400c2043,0x180020000c10070c2044]) [.st .Block,uI,.s] [.bo] (λx=>JR x.1 x.2.1 x.2.2)
noncomputable def MB:Cb 223:=b0 (eZ:Ev []) f223 (aN tS 0x2000502c8081358241 [0x5042000081002042]) [.st .Func,.s] [.bo] (λx=>Fb x.1 x.2)
noncomputable def W8:Cb 224:=b0 (eZ:Ev []) f224 (aN tS 0x2000502c8081358241 [0x5042000081002042]) [.st .Block,.s] [.bo] (λx=>Nr x.1 x.2)
noncomputable def SF:Cb 184:=b8 ((ad zI (ad Db (ad MB (ad W8 eZ)))):Ev []) f184 (aN tS 0x800042380204d6080842e00813582c8081358244041 [0x5402000081002042,0x6045404000081002042,0x1c1150100002040182043,0x5402000081007182044,0x3ee00080002045dc11c6142045,0x8045404000081007182044,0x150080002040207182045,0x14f80020000811770481c6142046]) [.st .Func,.s] [.sl .bo] (λx=>JQ x.1 x.2)
noncomputable def MA:Cb 127:=b1 ((ad SF (ad Db eZ)):Ev []) f127 (aN tS 0x41 []) [.st .Func,uI,uI,.s] [.bo] (λx=>Fa x.1 x.2.1 x.2.2.1 x.2.2.2)
noncomputable def MC:Cb 74:=b1 ((ad zK (ad SE (ad MA (ad zI eZ)))):Ev []) f74 (aN tS 0x20000142020b20204d60b20204d60800a108000281640409ac105901026b0482c8081358241 [0xc1080001040041,0x5042000101080103043,0x7042000101080185103045,0x14b8002000101080103043,0x8042000101080103043,0x241080004042008103044,0x2478002000101080248103045]) [.st .Func] [.bo] Fe
noncomputable def W9:Cb 34:=b1 ((ad Xi (ad SJ (ad abN (ad MC eZ)))):Ev []) f34 (aN tS 0x1001409000281000281640409ac12c8081358240050241 [0x141080003082003082,0x60420000c2080143083]) [.st .Program,.st .Func] [uI] (λx=>Ns x.1 x.2)
noncomputable def ID:Cb 10:=b1 ((ad SG (ad abR (ad MD (ad SI (ad W9 eZ))))):Ev []) f10 (aN tS 0x80014082c808135824005024000a101640409ac12000502c8081358240050841 [0x380080001040041,0xc1080001040041,0x101080001040041,0xeb8002000041004042,0x181080001040041]) [.st .Program] [uI] B6
def sy:An:=.s .l (.s (.s .l (.c (.s .l .l) .l)) (.s .l (.s (.j ⟨[3],[.loc 3],[],[.sl 21 .bo]⟩ .l (.c (.s .l .l) .l)) (.j ⟨[],[],[],[.sl 2 .bo]⟩ .l .l))))
noncomputable abbrev e_CheckTexts:Ev []:=(ad Sv (ad zH (ad ID (ad IQ eZ))))
theorem yj(a:List UInt8)(KK:(Bool)->Prop):ou a KK=Iz e_CheckTexts.en f4 sy [.s] [.bo] a KK:=kQ0
theorem BX:En.ok e_CheckTexts.en:=e_CheckTexts.ok
end
end Go.Am
end
