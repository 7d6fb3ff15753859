/-
  Part 22: AmJoinG · AmKDv · AmL48 · AmL48b · AmKVo · AmFew6a · AmFew6 · AmFew41 · AmFew42 · AmFew18 · AmFew48.
-/
import Derived.Test.YtgpedlcblhiklaaGreatDoorVo21
import Derived.Lib.Builder
set_option linter.unusedSimpArgs false
set_option linter.unusedVariables false
set_option linter.unusedSectionVars false
set_option linter.unnecessarySimpa false
open Lt
open Go.Proofs.Tryz
open Go.IntKind (i64)
section
namespace Go.Proofs
open Go Go.RowKit
def Wd(w:World)(v:Value)(ws:List (List UInt8)):Prop:=∃a c,v=.slice a ws.length c/\ws.length<=4611686018427387904/\∀j,j<ws.length->∃b o,a=some ⟨b,o,none⟩/\w.cell? ⟨b,o+j,none⟩=some (.string ⟨(ws.getD j []).toArray⟩)
def Lsm(w:World)(v:Value)(d:List Lt.Line):Prop:=∃a c,v=.slice a d.length c/\d.length<=4611686018427387904/\∀i,i<d.length->∃b o u,a=some ⟨b,o,none⟩/\w.cell? ⟨b,o+i*2,none⟩=some (.int .i64 (d.getD i default).N)/\w.cell? ⟨b,o+i*2+1,none⟩=some u/\Wd w u (d.getD i default).Words
theorem zN{w w':World}(h:Below w.heap.size w w'){b o:Nat}{y:Value}(hc:w.cell? ⟨b,o,none⟩=some y):w'.cell? ⟨b,o,none⟩=some y:=by
 have:=h.block b (World.block_lt_of_cell? _ _ hc)
 unfold World.cell? at hc⊢;rw[this];exact hc
abbrev bl(B b:Nat)(l:List UInt8)(w:World):Prop:=Lib.IsBuilder 158 5 B b (Lib.byteCells l) w
theorem VT{B b:Nat}{l:List UInt8}{w:World}{o:Obj}(h:bl B b l w):bl B b l (w.alloc o):=by
 have key:∀p,Lib.BuilderAt 158 5 B b p (Lib.byteCells l) w->Lib.BuilderAt 158 5 B b p (Lib.byteCells l) (w.alloc o):=fun p h=>by
  have c:=h.lt
  obtain⟨e,v,hb,a,d⟩:=h;exact⟨e,v,by rw[Lib.alloc_old w o b c];exact hb,a.alloc o,d⟩
 exact h.imp (key _) (key _)
def tI(st:Act)(k:Nat):Nat:=match st.tmps.getD k undef with
 |.int _ z=>z.toNat
 |_=>0
theorem wB{B b:Nat}{l:List UInt8}{c:UInt8}{w:World}(h:bl B b l w)(hl:l.length+1<=140737488355328)(a:B<=w.heap.size):Calls prog 83 #[.pointer (some ⟨b,0,none⟩),.int .u8 c.toNat] w fun e w'=>e=.returned .nilIface/\bl B b (l++[c]) w'/\Below B w w':=
 (Tryz.bldWriteByte B b _ _ w h (by simpa[Lib.byteCells]using hl) a).mono (by
  rintro e w' ⟨rfl,h,k⟩
  exact⟨rfl,.inr (by simpa[Lib.byteCells]using h),k⟩)
theorem wS{B b:Nat}{l s:List UInt8}{w:World}(h:bl B b l w)(hl:l.length+s.length<=140737488355328)(a:B<=w.heap.size):Calls prog 84 #[.pointer (some ⟨b,0,none⟩),.string ⟨s.toArray⟩] w fun e w'=>(∃v,e=.returned v)/\bl B b (l++s) w'/\Below B w w':=
 (Tryz.bldWriteString B b _ _ w h (by simpa[Lib.byteCells,ByteArray.size]using hl) a).mono (by
  rintro e w' ⟨rfl,h,k⟩
  exact⟨⟨_,rfl⟩,.inr (by simpa[Lib.byteCells,Lib.strCells]using h),k⟩)
theorem M5:∀(x y:List (List UInt8))(b:Bool),Lt.jw b (x++y)=Lt.jw b x++Lt.jw (b||!x.isEmpty) y
 |[],y,b=>by simp[Lt.jw]
 |w::r,y,b=>by simp[Lt.jw,M5 r y]
theorem Ff{ws:List (List UInt8)}{j:Nat}(h:j<ws.length):Lt.jw false (ws.take (j+1))=Lt.jw false (ws.take j)++((if 0<j then [32]else [])++ws.getD j []):=by
 rw[List.take_add_one,M5,List.getD,aiY h];by_cases h0:0<j
 ·rw[show((ws.take j).isEmpty)=false by cases j<;>cases ws<;>simp_all];simp[h0,Lt.jw]
 ·obtain rfl:j=0:=by omega
  simp[Lt.jw]
theorem af0(ws:List (List UInt8))(j:Nat):(Lt.jw false (ws.take j)).length<=(Lt.jw false ws).length:=by
 have:=M5 (ws.take j) (ws.drop j) false
 rw[aj8]at this;rw[this];simp
theorem cE(x y:List Lt.Line):bD (x++y)=bD x++bD y:=by simp[bD]
theorem Au{a:List Lt.Line}{i:Nat}(h:i<a.length):bD (a.take (i+1))=bD (a.take i)++(Lt.jw false (a.getD i default).Words++[10]):=by
 rw[List.take_add_one,cE,List.getD,aiY h];simp[bD]
theorem S3(a:List Lt.Line)(i:Nat):(bD (a.take i)).length<=(bD a).length:=by
 have:=cE (a.take i) (a.drop i)
 rw[aj8]at this;rw[this];simp
set_option maxRecDepth 100000 in
set_option maxHeartbeats 4000000 in
theorem Xn{v:Value}{d:List Lt.Line}{w:World}(hv:Lsm w v d)(hl:(bD d).length<=140737488355328):Calls prog 41 #[v] w fun e w'=>e=.returned (.string ⟨(bD d).toArray⟩)/\Below w.heap.size w w':=by
 obtain⟨a,c,rfl,T,hv⟩:=hv
 go_enter func41,Tryz.ntmps41
 go_wp2
 rename_i K Y;refine wp_loop (fun st w'=>∃(i:Nat)(I G H J M q g h t L E F n s y C p l x B r k z A m:Value),st=⟨#[.slice a d.length c,I,.string ⟨#[]⟩,.pointer (some ⟨w.heap.size,0,none⟩),G,H,J,M,.slice a d.length c,.int .i64 d.length,.int .i64 i,q,g,h,t,L,E,F,n,s,y,C,p,l,x,B,r,k,z,A,m],[]⟩/\i<=d.length/\bl w.heap.size w.heap.size (bD (d.take i)) w'/\Below w.heap.size w w') (fun st _=>d.length-tI st 10) ?_ ?_
 ·exact⟨0,_,_,_,_,_,_,_,_,_,_,_,_,_,_,_,_,_,_,_,_,_,_,_,_,_, rfl,ajW _,Lib.fresh_isBuilder _ _ w,(Below.refl _ w).alloc (ai0 _) _⟩
 rintro st w' ⟨i,I,G,H,J,M,q,g,h,t,L,E,F,n,s,y,C,p,l,x,B,r,k,z,A,m,rfl,h1,h2,h3⟩
 have D:=S3 d (i+1)
 by_cases hi:i<d.length
 ·obtain⟨b,o,u,rfl,S,c2,U,k2,rfl,P,hw⟩:=hv i hi;have S:=zN h3 S
  have c2:=zN h3 c2
  rw[Au hi]at D
  go_wp2
  generalize hws:(d[i]).Words=ws at *;rename_i X W;refine wp_loop (fun st w2=>∃(j:Nat)(I G H J M q g h t n s y C p l x B r k z A m:Value),st=⟨#[.slice (some ⟨b,o,none⟩) d.length c,I,.string ⟨#[]⟩,.pointer (some ⟨w.heap.size,0,none⟩),G,H,J,M,.slice (some ⟨b,o,none⟩) d.length c,.int .i64 d.length,.int .i64 i,q,g,h,t,.slice U ws.length k2,.int .i64 ws.length,.int .i64 j,n,s,y,C,p,l,x,B,r,k,z,A,m],[]⟩/\j<=ws.length/\bl w.heap.size w.heap.size (bD (d.take i)++Lt.jw false (ws.take j)) w2/\Below w.heap.size w w2) (fun st _=>ws.length-tI st 17) ?_ ?_
  ·exact⟨0,_,_,_,_,_,_,_,_,_,_,_,_,_,_,_,_,_,_,_,_,_,_, rfl,ajW _,by simpa[Lt.jw]using VT h2,h3.alloc h3.size _⟩
  rintro st w2 ⟨j,I,G,H,J,M,q,g,h,t,n,s,y,C,p,l,x,B,r,k,z,A,m,rfl,g1,g2,g3⟩
  by_cases hj:j<ws.length
  ·have f:=af0 ws (j+1)
   obtain⟨b2,o2,rfl,O⟩:=hw j (by simp[hi,hws,hj]);have O:=zN g3 O
   simp[hi,hws]at O D;rw[Ff hj]at f;have gB:=g3.size
   have Q:ws.getD j []=ws[j]:=by rw[List.getD,aiY hj];rfl
   rw[Q,ai3,ai3]at f;simp[hi,hws]at P
   go_wp2_with (go_at_call 83;refine(wB (c:=32) g2 (by rw[ai3];omega) gB).mono ?_;rintro e w3 ⟨rfl,N,q2⟩;have R:=(g3.trans q2).size)
   ·rw[if_pos ‹_›]at f;refine(wS N (by simp only[ai3,ajS]at f⊢;omega) R).mono ?_;rintro e V ⟨⟨v,rfl⟩,r1,r2⟩
    go_wp2
    try rw[show wrap64 ((j:Int)+1)=((j+1:Nat):Int)by unfold wrap64;omega]
    refine⟨⟨j+1,_,_,_,_,_,_,_,_,_,_,_,_,_,_,_,_,_,_,_,_,_,_, rfl,hj,?_,(g3.trans q2).trans r2⟩,Nat.sub_lt_sub_left hj (alK j)⟩;rw[Ff hj,Q,if_pos ‹_›];simpa only[ajI]using r1
   ·rw[if_neg ‹_›]at f;refine(wS g2 (by simp only[ai3,ai6]at f⊢;omega) gB).mono ?_;rintro e V ⟨⟨v,rfl⟩,r1,r2⟩
    go_wp2
    try rw[show wrap64 ((j:Int)+1)=((j+1:Nat):Int)by unfold wrap64;omega]
    refine⟨⟨j+1,_,_,_,_,_,_,_,_,_,_,_,_,_,_,_,_,_,_,_,_,_,_, rfl,hj,?_,g3.trans r2⟩,Nat.sub_lt_sub_left hj (alK j)⟩;rw[Ff hj,Q,if_neg ‹_›,aj0];simpa only[ajI]using r1
  ·obtain rfl:j=ws.length:=by omega
   simp[hi,hws]at D;rw[ajH]at g2;have gB:=g3.size
   go_wp2_with (go_at_call 83;refine(wB (c:=10) g2 (by rw[ai3];omega) gB).mono ?_;rintro e w3 ⟨rfl,N,q2⟩;have R:=(g3.trans q2).size)
   refine⟨⟨i+1,_,_,_,_,_,_,_,_,_,_,_,_,_,_,_,_,_,_,_,_,_,_,_,_,_, rfl,hi,?_,g3.trans q2⟩,Nat.sub_lt_sub_left hi (alK i)⟩;rw[Au hi];simpa[hi,hws]using N
 ·obtain rfl:i=d.length:=by omega
  rw[ajH]at h2;have gB:=h3.size
  go_wp2_with (go_at_call 85;refine(Tryz.Builder_String_any _ _ _ _ h2 gB).mono ?_;rintro e w3 ⟨rfl,q2⟩)
  go_ret
  exact⟨rfl,h3.trans q2⟩
end Go.Proofs
namespace Go.Am
open Go Go.RowKit Go.Proofs
theorem ag7{H:FH}{w:World}(d:∀b o y,H b o=some y->RdV w b o y){m:Nat}{ws:List (List UInt8)}{y:Value}(h:FD H m (.li (ws.map fun s=>[D.str s])) y):Wd w y ws:=by
 cases m with
 |zero=>exact h.elim
 |succ m=>
  obtain⟨a,c,rfl,h1,h2,h3⟩:=kj.1 h;rw[ai2]at h1 h2⊢;refine⟨a,c,rfl,by unfold BIG at h2;omega,fun j hj=>?_⟩;rcases h3 with h3|⟨b,o,e,rfl,h3⟩
  ·cases ws<;>simp_all
  ·obtain⟨h4,h5⟩:=h3 j (by simpa using hj);simp only[List.getD,ai4,aiY hj,Option.map_some,akG,ajS]at h4 h5;subst h4;obtain⟨y,h6,h7⟩:=h5 0 (by decide);refine⟨b,o,rfl,?_⟩;have h7:FD H m (.str ws[j]) y:=h7
   have h8:y=.string ⟨ws[j].toArray⟩:=by cases m<;>exact h7.1
   rw[List.getD,aiY hj];have:=d _ _ _ h6
   simpa[RdV,h8]using this
theorem aeF{H:FH}{w:World}(d:∀b o y,H b o=some y->RdV w b o y){m:Nat}{f:List Lt.Line}{y:Value}(h:FD H m (.li (f.map Lt.Line.enc)) y):Lsm w y f:=by
 cases m with
 |zero=>exact h.elim
 |succ m=>
  obtain⟨a,c,rfl,h1,h2,h3⟩:=kj.1 h;rw[ai2]at h1 h2⊢;refine⟨a,c,rfl,by unfold BIG at h2;omega,fun j hj=>?_⟩;rcases h3 with h3|⟨b,o,e,rfl,h3⟩
  ·cases f<;>simp_all
  ·obtain⟨h4,h5⟩:=h3 j (by simpa using hj);simp only[List.getD,ai4,aiY hj,Option.map_some,akG]at h4 h5;obtain rfl:2=e:=h4;obtain⟨y,h6,h7⟩:=h5 0 (by decide);obtain⟨u,h8,h9⟩:=h5 1 (by decide);have h7:FD H m (.int .i64 f[j].N) y:=h7
   have h7:y=.int .i64 f[j].N:=by cases m<;>exact h7.1
   have h9:FD H m (.li (f[j].Words.map fun s=>[D.str s])) u:=h9
   rw[List.getD,aiY hj];refine⟨b,o,u,rfl,?_,?_,ag7 d h9⟩
   ·have:=d _ _ _ h6
    simpa[RdV,h7]using this
   ·have:=d _ _ _ h8
    simpa[RdV]using this
theorem ZS:Cont prog 41 (uP [.sl (.st .Line)] [.s] (fun x=>Qw x) (fun x=>Lt.Join x)):=gF (fi (fn:=f41) kQ0 kQ0 kQ0) (fun g args w H γ hp hl i j a=>by
 obtain⟨u,rfl⟩:∃u,args=[u]:=akS.1 hl
 obtain⟨u',h0,h1⟩:=i 0 _ rfl;obtain rfl:u=u':=by simpa using h0
 have h1:AR w H γ [] (.one (.c (.d (.li (g.map Lt.Line.enc))))) u:=h1
 obtain⟨_,m,h1⟩:=h1;refine(Xn (aeF a h1) hp).mono ?_;rintro e w' ⟨rfl,f⟩
 refine⟨_,H,rfl,f,fun _ _ _ h=>h,fun b o h1 h2=>absurd h2 h1,fun b o x l c h1 h2=>by(rw[h2]at h1;cases h1),fun b o y h=>(a b o y h).frame (f.block b (a b o y h).lt),?_⟩;exact(GA (l:=Lt.Join g) (ajJ hp (by decide)):AR w' H γ [] _ _))
end Go.Am
end

section
namespace Go.Am
open Go Go.Proofs
set_option maxRecDepth 100000
def eU:Ut:=[(69,(.st .Class)),(61,(.st .Var)),(71,(.st .Extern)),(40,(.st .Func)),(51,(.st .Block)),(133,(.st .Phi)),(57,(.st .Instr)),(9,.s),(46,(.st .Arg)),(141,(.st .Frame)),(145,(.st .Virt)),(47,(.sl .s)),(75,(.st .Asked)),(96,(.st .Line)),(4,.bo),(119,(.mp .s .bo)),(77,.fn),(151,(.st .In)),(143,(.st .Bind)),(5,.b8),(3,(.i .i64)),(172,(.sl (.i .i64))),(265,(.st .step))]
def eS:List (TypeId×List Sh):=[(27,[.fr,.ow [.fr,.ow [.fr,.fr]],.ow [.fr,.fr],.ow [.fr,.fr],.ow [.fr,.fr,.ow [.fr,.fr],.ow [.fr,.fr],.ow [.fr,.ow [.fr,.fr],.ow [.fr,.fr,.fr,.fr,.ow [.fr,.fr,.fr,.fr],.ow [.fr,.fr]],.fr,.fr,.fr,.fr,.fr,.fr]]]),(40,[.fr,.fr,.ow [.fr,.fr],.ow [.fr,.fr],.ow [.fr,.ow [.fr,.fr],.ow [.fr,.fr,.fr,.fr,.ow [.fr,.fr,.fr,.fr],.ow [.fr,.fr]],.fr,.fr,.fr,.fr,.fr,.fr]]),(51,[.fr,.ow [.fr,.fr],.ow [.fr,.fr,.fr,.fr,.ow [.fr,.fr,.fr,.fr],.ow [.fr,.fr]],.fr,.fr,.fr,.fr,.fr,.fr]),(57,[.fr,.fr,.fr,.fr,.ow [.fr,.fr,.fr,.fr],.ow [.fr,.fr]]),(69,[.fr,.ow [.fr,.fr]]),(90,[.fr,.ow [.fr,.ow [.fr,.fr]],.ow [.fr,.fr],.ow [.fr,.fr],.ow [.fr,.fr,.ow [.fr,.fr],.ow [.fr,.fr],.ow [.fr,.ow [.fr,.fr],.ow [.fr,.fr,.fr,.fr,.ow [.fr,.fr,.fr,.fr],.ow [.fr,.fr]],.fr,.fr,.fr,.fr,.fr,.fr]],.fr,.fr,.fr,.fr]),(91,[.fr,.ow [.fr,.ow [.fr,.fr]],.ow [.fr,.fr],.ow [.fr,.fr],.ow [.fr,.fr,.ow [.fr,.fr],.ow [.fr,.fr],.ow [.fr,.ow [.fr,.fr],.ow [.fr,.fr,.fr,.fr,.ow [.fr,.fr,.fr,.fr],.ow [.fr,.fr]],.fr,.fr,.fr,.fr,.fr,.fr]],.fr,.fr,.fr,.fr]),(123,[.fr,.ow [.fr,.ow [.fr,.fr]],.ow [.fr,.fr],.ow [.fr,.fr],.ow [.fr,.fr,.ow [.fr,.fr],.ow [.fr,.fr],.ow [.fr,.ow [.fr,.fr],.ow [.fr,.fr,.fr,.fr,.ow [.fr,.fr,.fr,.fr],.ow [.fr,.fr]],.fr,.fr,.fr,.fr,.fr,.fr]],.fr,.fr,.fr,.fr,.ow [.fr,.fr,.fr,.fr],.ow [.fr,.fr],.fr,.fr]),(124,[.fr,.ow [.fr,.ow [.fr,.fr]],.ow [.fr,.fr],.ow [.fr,.fr],.ow [.fr,.fr,.ow [.fr,.fr],.ow [.fr,.fr],.ow [.fr,.ow [.fr,.fr],.ow [.fr,.fr,.fr,.fr,.ow [.fr,.fr,.fr,.fr],.ow [.fr,.fr]],.fr,.fr,.fr,.fr,.fr,.fr]],.fr,.fr,.fr,.fr,.ow [.fr,.fr,.fr,.fr],.ow [.fr,.fr],.fr,.fr])]
variable{P:Program}{f:Nat}{α:Type}
section
structure Ev (sh:List (TypeId×List Sh)) where
 cs:CTt
 ok:En.ok ⟨prog,eU,cs,sh,noP⟩
structure Cb (f:Nat) where
 C:CKt
 ok:Cont prog f C
noncomputable abbrev Ev.en{sh:List (TypeId×List Sh)}(E:Ev sh):En:=⟨prog,eU,E.cs,sh,noP⟩
theorem En.ok0{u:Ut}{sh:List (TypeId×List Sh)}{pk:PKt}:En.ok ⟨P,u,[],sh,pk⟩:=fun _ h=>by cases h
theorem En.okc{u:Ut}{sh:List (TypeId×List Sh)}{pk:PKt}{C:CKt}{cs:CTt}(h:Cont P f C)(hs:En.ok ⟨P,u,cs,sh,pk⟩)(hf:Nat.blt f 1000000=true):En.ok ⟨P,u,(f,C)::cs,sh,pk⟩:=by
 intro x hx;rcases ai7.1 hx with rfl|hx
 ·exact⟨fun _=>h,fun hb=>absurd hb (Nat.not_le.2 (ajA hf))⟩
 ·exact hs x hx
theorem mixed:prog.follows .mixedOrders=true:=kQ0
def okF(n:Nat)(fn:Func):Bool:=fn.name != "runtime.NumGoroutine" && (fn.body.isSome&&(Nat.ble n fn.ntmps&&kz fn.ntmps (fn.body.getD .skip)))
theorem dE{n:Nat}{fn:Func}(h:okF n fn=true):(fn.name == "runtime.NumGoroutine")=false/\fn.body.isSome=true/\Nat.ble n fn.ntmps=true/\kz fn.ntmps (fn.body.getD .skip)=true:=by
 unfold okF at h;simp only[aiW,bne,ajQ]at h;exact h
def aE:Nat->Nat->List Sg->(An->Nat->List Sg->An)->An
 |0,n,l,κ=>κ .l n l
 |k+1,n,l,κ=>match n % 8 with
  |0=>κ .l (n / 8) l
  |1=>aE k (n / 8) l fun a n l=>aE k n l fun b n l=>κ (.s a b) n l
  |2=>aE k (n / 8) l fun a n l=>aE k n l fun b n l=>κ (.c a b) n l
  |3=>aE k (n / 8) l fun a n l=>κ (.b a) n l
  |4=>match l with
   |g::l=>aE k (n / 8) l fun a n l=>aE k n l fun b n l=>κ (.j g a b) n l
   |[]=>.l
  |5=>match l with
   |g::l=>aE k (n / 8) l fun a n l=>κ (.lp g a) n l
   |[]=>.l
  |_=>aE k (n / 64) l fun a m l=>κ (.un (n / 8 % 8) a) m l
def aD(n:Nat)(l:List Sg):An:=aE 200 n l fun a _ _=>a
def dg:Nat->Nat->List Nat
 |0,_=>[]
 |k+1,n=>n % 64::dg k (n / 64)
def pk:List Nat->Nat->(Nat->α)->(Nat->α)->α
 |[],n,_,d=>d n
 |x::_,0,κ,_=>κ x
 |_::l,n+1,κ,d=>pk l n κ d
def d64:List Nat:=[0,1,2,3,4,5,6,7,8,9,10,11,12,13,14,15,16,17,18,19,20,21,22,23,24,25,26,27,28,29,30,31,32,33,34,35,36,37,38,39,40,41,42,43,44,45,46,47,48,49,50,51,52,53,54,55,56,57,58,59,60,61,62,63]
def d55:List Nat:=d64.take 55
def tN(l:List Nat)(κ:Nat->List Nat->α):α:=match l with
 |a::r=>pk d55 a (fun a=>κ a r) fun a=>match r with
  |b::r=>match a,r with
   |1,c::r=>κ (b+64*c) r
   |_,r=>pk [900000,0,100064,1000,2000,100000,100128,100192,800000] a (fun e=>pk d64 b (fun b=>κ (e+b) r) fun _=>κ 0 r) fun _=>κ 0 r
  |_=>κ 0 []
 |_=>κ 0 []
def tL:Nat->List Nat->(List Nat->List Nat->α)->α
 |0,l,κ=>κ [] l
 |k+1,l,κ=>tN l fun a r=>tL k r fun x r=>κ (a::x) r
def tC(l:List Nat)(κ:List Nat->List Nat->α):α:=tN l fun k r=>tL k r κ
def g3:List Nat->List (Nat×Nm×Nat)
 |a::b::c::r=>(a,.loc b,c)::g3 r
 |_=>[]
def g2(t:List (Nat->Sp)):List Nat->List Sp
 |a::b::r=>t.getD a (fun k=>.sl k .bo) b::g2 t r
 |_=>[]
def aN(t:List (Nat->Sp))(n:Nat)(l:List Nat):An:=aD n (l.map fun n=>tC (dg 400 n) fun ks r=>tC r fun g r=>tC r fun l r=>tC r fun o r=>tC r fun p r=>tC r fun q _=>⟨ks,g.map .gh++(l.map .loc++o.map .out),g3 p,g2 t q⟩)
abbrev uI:U:=.i .i64
variable {sh:List (TypeId×List Sh)}
noncomputable def eZ:Ev sh:=⟨[],En.ok0⟩
noncomputable def ad(c:Cb f)(E:Ev sh)(hf:Nat.blt f 1000000=true:=by rfl):Ev sh:=⟨(f,c.C)::E.cs,En.okc c.ok E.ok hf⟩
noncomputable def bA(c:Cb f):Cb f:=⟨apT c.C,Ze c.ok⟩
noncomputable def bS(t:Nat)(c d:Cb f):Cb f:=⟨acK t c.C d.C,UQ c.ok d.ok⟩
noncomputable def bI(E:Ev sh)(f:Nat)(fn:Func)(an:An)(hf:prog.funcs[f]? = some fn:=by kernel_rfl)(hb:(okF 0 fn&&Nat.ble fn.ntmps 100000)=true:=by kernel_rfl):Cb f:=
 have h:=dE ((aiW _ _).mp hb).1
 ⟨aaZ E.en fn an,UN E.ok mixed hf h.1 h.2.1 h.2.2.2 ((aiW _ _).mp hb).2⟩
noncomputable def b0(E:Ev sh)(fn:Func)(an:An)(ps rs:List U){F:Fl ps->Fl rs}{G:Fl ps->(Fl rs->Prop)->Prop}(a:∀x,∀KK:Fl rs->Prop,KK (F x)->G x KK)(hw:∀x KK KP,G x KK=vJ E.en fn an ps rs x KK KP:=by intros;kernel_rfl)(hf:prog.funcs[f]? = some fn:=by kernel_rfl)(hb:okF ps.length fn=true:=by kernel_rfl):Cb f:=
 ⟨A9 ps rs F,tB E.ok mixed hf (dE hb).1 (dE hb).2.1 (fun _ _ _ _ h h'=>h _ h') (dE hb).2.2.1 (dE hb).2.2.2 fun x KK KP h=>hw x KK KP ▸ a x KK h⟩
noncomputable def b8(E:Ev sh)(fn:Func)(an:An)(ps rs:List U){pre:Fl ps->Prop}{post:Fl ps->Fl rs->Prop}{G:Fl ps->(Fl rs->Prop)->Prop}(a:∀x,pre x->∀KK:Fl rs->Prop,(∀y,post x y->KK y)->G x KK)(hw:∀x KK KP,G x KK=vJ E.en fn an ps rs x KK KP:=by intros;kernel_rfl)(hf:prog.funcs[f]? = some fn:=by kernel_rfl)(hb:okF ps.length fn=true:=by kernel_rfl):Cb f:=
 ⟨Yk ps rs pre post,tB E.ok mixed hf (dE hb).1 (dE hb).2.1 (fun _ _ _ _ h h'=>⟨h'.1,fun y hy=>h y (h'.2 y hy)⟩) (dE hb).2.2.1 (dE hb).2.2.2 fun x KK KP h=>hw x KK KP ▸ a x h.1 KK h.2⟩
noncomputable def b1(E:Ev sh)(fn:Func)(an:An)(ps rs:List U){pre:Fl ps->Prop}{F:Fl ps->Fl rs}{G:Fl ps->(Fl rs->Prop)->Prop}(a:∀x,pre x->∀KK:Fl rs->Prop,KK (F x)->G x KK)(hw:∀x KK KP,G x KK=vJ E.en fn an ps rs x KK KP:=by intros;kernel_rfl)(hf:prog.funcs[f]? = some fn:=by kernel_rfl)(hb:okF ps.length fn=true:=by kernel_rfl):Cb f:=
 ⟨uP ps rs pre F,tB E.ok mixed hf (dE hb).1 (dE hb).2.1 (fun _ _ _ _ h h'=>⟨h'.1,h _ h'.2⟩) (dE hb).2.2.1 (dE hb).2.2.2 fun x KK KP h=>hw x KK KP ▸ a x h.1 KK h.2⟩
theorem WR{r:Except Value α}{K K':α->Prop}{KP:Value->Prop}(h:∀y,K y->K' y)(hq:exQ r K KP):exQ r K' KP:=by
 cases r with
 |ok a=>exact h _ hq
 |error v=>exact hq
noncomputable def b4(E:Ev sh)(fn:Func)(an:An)(ps rs:List U){pre:Fl ps->Prop}{F:Fl ps->Except Value (Fl rs)}{G:Fl ps->(Fl rs->Prop)->(Value->Prop)->Prop}(a:∀x,pre x->∀(KK:Fl rs->Prop) (KP:Value->Prop),exQ (F x) KK KP->G x KK KP)(hw:∀x KK KP,G x KK KP=vJ E.en fn an ps rs x KK KP:=by intros;kernel_rfl)(hf:prog.funcs[f]? = some fn:=by kernel_rfl)(hb:okF ps.length fn=true:=by kernel_rfl):Cb f:=
 ⟨agF ps rs pre F,tB E.ok mixed hf (dE hb).1 (dE hb).2.1 (fun _ _ _ _ h h'=>⟨h'.1,WR h h'.2⟩) (dE hb).2.2.1 (dE hb).2.2.2 fun x KK KP h=>hw x KK KP ▸ a x h.1 KK KP h.2⟩
noncomputable def b5(E:Ev sh)(fn:Func)(an:An)(a:List Sh)(u:U)(ps rs:List U){pre:El u->Fl ps->Prop}{F:El u->Fl ps->Except Value (Fl rs)×El u}{G:El u->Fl ps->(Fl rs×El u->Prop)->(Value->El u->Prop)->Prop}(b:∀x y,pre x y->∀(KK:Fl rs×El u->Prop) (KP:Value->El u->Prop),exP (F x y) (fun z x'=>KK (z,x')) KP->G x y KK KP)(hw:∀x y KK KP,G x y KK KP=yq E.en fn an a u ps rs x y KK KP:=by intros;kernel_rfl)(hf:prog.funcs[f]? = some fn:=by kernel_rfl)(hb:okF (ps.length+1) fn=true:=by kernel_rfl):Cb f:=
 ⟨KU a u ps rs pre F,Cp E.ok mixed hf (dE hb).1 (dE hb).2.1 (dE hb).2.2.1 (dE hb).2.2.2 fun x y hp KK KP h=>hw x y KK KP ▸ b x y hp KK KP h⟩
def rgI:Code->Nat
 |.region id _ _=>id
 |_=>0
def rgO(c:Code)(i:Nat):Oper:=match c with
 |.region _ l _=>l.getD i default
 |_=>default
noncomputable def b6(E:Ev sh)(fn:Func)(an:An)(ps rs:List U){pre:Fl ps->Prop}{F:Fl ps->Fl rs}{G:Fl ps->(Fl rs->Prop)->Prop}(a:∀x,pre x->∀KK:Fl rs->Prop,KK (F x)->G x KK)(hw:∀x KK,G x KK=IH E.en fn an ps rs x KK:=by intros;kernel_rfl)(hf:prog.funcs[f]? = some fn:=by kernel_rfl)(hb:okF ps.length fn=true:=by kernel_rfl):Cb f:=
 ⟨XF ps rs pre F,QW E.ok mixed hf (dE hb).1 (dE hb).2.1 (dE hb).2.2.1 (dE hb).2.2.2 fun x hp KK h=>hw x KK ▸ a x hp KK h⟩
noncomputable def b2(E:Ev sh)(fn:Func)(an:An)(a:List Sh)(u:U)(ps rs:List U){pre:El u->Fl ps->Prop}{F:El u->Fl ps->Fl rs×El u}{G:El u->Fl ps->(Fl rs×El u->Prop)->Prop}(b:∀x y,pre x y->∀KK:Fl rs×El u->Prop,KK (F x y)->G x y KK)(hw:∀x y KK KP,G x y KK=yq E.en fn an a u ps rs x y KK KP:=by intros;kernel_rfl)(hf:prog.funcs[f]? = some fn:=by kernel_rfl)(hb:okF (ps.length+1) fn=true:=by kernel_rfl):Cb f:=
 ⟨KU a u ps rs pre fun x y=>(.ok (F x y).1,(F x y).2),Cp E.ok mixed hf (dE hb).1 (dE hb).2.1 (dE hb).2.2.1 (dE hb).2.2.2 fun x y hp KK KP h=>hw x y KK KP ▸ b x y hp KK h⟩
def tA:List (Nat->Sp):=[(.sl · uI),(.sl · .bo),fun k=>.mp (.gh k) .s .bo,(.ow · [.fr,.fr] (.st .Var)),(.ow · [.fr] .bo),(.ow · [.fr] uI),fun k=>.rt (.loc k) [.fr,.fr,.fr,.fr,.fr,.fr,.fr,.fr,.fr] (.st .Block),fun k=>.mp (.gh k) .s uI,fun k=>.mo (.gh k) .s .s,fun k=>.rt (.loc k) [.fr,.fr] (.st .Var),fun k=>.rt (.loc k) [.fr,.fr,.fr,.fr,.fr,.fr,.fr,.fr,.fr,.fr,.fr,.fr,.ow []] (.st .asked),fun k=>.rt (.loc k) [.fr,.fr,.fr,.fr,.fr,.fr,.fr,.fr,.fr,.fr,.fr,.fr,.ow [.fr]] (.st .asked),(.ow · [.ow [.fr]] (.sl uI)),fun k=>.gw (.gh k) [.fr] uI,(.ow · [.fr,.fr] (.st .step)),fun k=>.it (.gh k) .s .bo,(.ow · [.fr] (.mp .s .bo)),(.sl · (.mp .s .bo)),fun k=>.mp (.gh k) .s (.mp .s .bo),(.ow · [.fr] .s),(.ow · [.fr,.fr] (.st .Line)),(.sl · (.i .u64)),(.ow · [.fr,.fr,.fr] (.st .Arg)),(.sl · (.sl .s)),fun k=>.rt (.loc k) [.fr,.fr,.fr,.ow [],.ow [],.ow []] (.st .Instr),fun k=>.rt (.loc k) [.fr,.fr,.fr,.fr,.ow [],.ow []] (.st .Instr),fun k=>.rt (.out k) [.fr,.ow [.fr,.ow [.fr,.fr]],.ow [.fr,.fr],.ow [.fr,.fr],.ow [.fr,.fr,.ow [.fr,.fr],.ow [.fr,.fr],.ow [.fr,.ow [.fr,.fr],.ow [.fr,.fr,.fr,.fr,.ow [.fr,.fr,.fr,.fr],.ow [.fr,.fr]],.fr,.fr,.fr,.fr,.fr,.fr]],.fr,.fr,.fr,.fr] (.st .Reader),fun k=>.rt (.loc k) [.fr,.fr] (.st .Extern),fun k=>.rt (.loc k) [.fr,.fr,.ow [],.ow [],.ow []] (.st .Func),fun k=>.rt (.loc k) [.fr,.ow [.fr,.fr,.fr,.fr]] (.st .Phi),fun k=>.rt (.loc k) [.fr,.fr,.fr,.ow []] (.st .Frame),fun k=>.rt (.loc k) [.fr,.fr,.fr,.ow [.fr,.fr,.fr,.fr]] (.st .Frame),fun k=>.rt (.loc k) [.fr,.fr] (.st .Virt),fun k=>.rt (.loc k) [.fr,.fr,.fr,.fr,.ow [.fr],.fr] (.st .Term),fun k=>.rt (.loc k) [.fr,.ow [],.ow [],.ow [],.ow []] (.st .Program),fun k=>.rt (.loc k) [.fr] uI,fun k=>.rt (.out k) [.ow [.fr,.fr]] (.st .Sheet),(.ow · [.fr] .b8),fun k=>.rt (.loc k) [.ow [.fr,.fr]] (.st .Sheet),(.ow · [.fr] (.sl .s))]
abbrev eF:List (TypeId×List Sh):=[(4000204,[])]
abbrev eH:List (TypeId×List Sh):=[(5000003,[])]
abbrev eO:List (TypeId×List Sh):=[(7000000,[])]
abbrev eP:List (TypeId×List Sh):=[(172,[.ow [.fr]])]
abbrev eR:List (TypeId×List Sh):=[(3000035,[])]
abbrev eW:List (TypeId×List Sh):=[(3000053,[])]
noncomputable def RY:Cb 166:=⟨_,MC⟩
noncomputable def MF:Cb 72:=⟨_,IR⟩
noncomputable def V1:Cb 73:=⟨_,yk RO⟩
noncomputable def MB:Cb 86:=⟨_,V8⟩
noncomputable def V4:Cb 87:=⟨_,ae5⟩
noncomputable def RS:Cb 238:=⟨_,ZX⟩
noncomputable def MA:Cb 239:=⟨_,V7⟩
noncomputable def EP:Cb 89:=⟨_,MI⟩
noncomputable def ae:Cb 157:=⟨_,Wj⟩
noncomputable def ub:Cb 79:=⟨_,RZ⟩
noncomputable def ae3:Cb 41:=⟨_,ZS⟩
noncomputable def uc:Cb 96:=b0 ((ad (bA (bI ((ad (bA (bI (eZ:Ev []) 49 f49 (aN tA 0x41 []))) eZ):Ev []) 159 f159 (aN tA 0x2080014082c8088358241 [0x34008000613a0ba0c023c1fc1bc17c13c0bc07c03c30b18204d]))) eZ):Ev []) f96 (aN tA 0x41 []) [.st .Program,.s] [.st .Class,.bo] (fun x=>Nr x.1 x.2)
noncomputable def IT:Cb 55:=b0 ((ad uc eZ):Ev []) f55 (aN tA 0x4041 [0x101080000000]) [.st .Program,.s] [.bo] (fun x=>Nv x.1 x.2)
noncomputable def IS:Cb 54:=b0 ((ad IT (ad (bA (bI ((ad (bS 17 (bA (bI (eZ:Ev []) 95 f95 (aN tA 0x41 []))) (bA (bI (eZ:Ev []) 95 f95 (aN tA 0x41 [])))) eZ):Ev []) 94 f94 (aN tA 0x800028120b20220d609041 [0x2022c0100002e81013f0af09f08f07f02f01f0a24504b]))) eZ)):Ev []) f54 (aN tA 0x80014082c8088358241 [0x90020000810081c2044]) [.st .Program,.sl (.st .Var)] [.bo] (fun x=>B6 x.1 x.2)
noncomputable def Wn:Cb 11:=b1 ((ad (bA (bI ((ad (bS 17 (bA (bI (eZ:Ev []) 49 f49 (aN tA 0x41 []))) (bA (bI (eZ:Ev []) 49 f49 (aN tA 0x41 [])))) eZ):Ev []) 48 f48 (aN tA 0x800028120b20220d609041 [0x2022c0100001e81009f08f02f01f00f0a245049]))) (ad (bA (bI ((ad (bS 17 (bA (bI (eZ:Ev []) 51 f51 (aN tA 0x41 []))) (bA (bI (eZ:Ev []) 51 f51 (aN tA 0x41 [])))) eZ):Ev []) 50 f50 (aN tA 0x800028120b20220d609041 [0x2022c0100001ec100ef0df0cf0bf0af09f08f02f01f00f0a24504e]))) (ad (bA (bI ((ad (bS 17 (bA (bI (eZ:Ev []) 53 f53 (aN tA 0x41 []))) (bA (bI (eZ:Ev []) 53 f53 (aN tA 0x41 [])))) eZ):Ev []) 52 f52 (aN tA 0x800028120b20220d609041 [0x2022c0100001e81014f13f12f11f10f0ff0ef0df0cf0bf0af09f08f02f01f00f0a245054]))) (ad IS (ad IT eZ))))):Ev []) f11 (aN tA 0x4000a10405901106b0480014082c8088358240050841 [0x781080001040041,0x880080001040860043,0xbc0080001040bad043,0x70c2000181080beeb46045,0x113804200004102fbad044]) [.st .Program] [.bo] Nt
noncomputable def Sb:Cb 12:=b1 ((ad (bA (bI (eZ:Ev []) 56 f56 (aN tA 0x20000a04120b20220d609041 [0xc1d000400007a04033c2bc27c23c1fc0bc07c03c3ce10b]))) (ad (bA (bI (eZ:Ev []) 57 f57 (aN tA 0x400002840482c80883582082c8088358241 [0xf00200007b04ce8153c4fc4bc47c43c3fc3bc37c33c2fc2bc27c23c1fc13c0fc0bc07c03c38d056,0x1309800400007b04ce8153c4fc4bc47c43c3fc3bc37c33c2fc2bc27c23c1fc13c0fc0bc07c03c5d63ce34705a,0xb01080001ec14cce8253c4fc4bc47c43c3fc3bc37c33c2fc2bc27c23c1fc13c0fc0bc07c03c61758f38d24705c]))) (ad (bA (bI (eZ:Ev eR) 58 f58 (aN tA 0x4000a04105c01106b041118081359041041 [0x614510400007b08233a059f18f17f16f15f14f13f12f11f10f0ff0ef0df0cf0bf0af09f08f07f04f03f02f01f00f0205a,0x1c60801c70c007b0821b717733a0d9f18f17f16f15f14f13f12f11f10f0ff0ef0df0cf0bf0af09f08f07f04f03f02f01f00f0614205c,0x2800614510600007b08233a059f18f17f16f15f14f13f12f11f10f0ff0ef0df0cf0bf0af09f08f07f04f03f02f01f00f2798205c,0x185144100001ec208ce8167c63c5fc5bc57c53c4fc4bc47c43c3fc3bc37c33c2fc2bc27c23c1fc13c0fc0bc07c03ca2798205d]))) eZ))):Ev []) f12 (aN tA 0x20005020b20220d609001409040050241 [0x70008000017705b682]) [.st .Func] [.bo] JU
noncomputable def Wg:Cb 127:=b0 (eZ:Ev []) f127 (aN tA 0x101 [0x81080000000]) [.b8] [.bo] Nj
noncomputable def ae6:Cb 128:=b0 (eZ:Ev []) f128 (aN tA 0x101 [0x81080000000]) [.s] [.bo] Xr
noncomputable def IU:Cb 129:=b0 (eZ:Ev []) f129 (aN tA 0x41 []) [.b8] [.bo] B8
noncomputable def iR:Cb 77:=b0 ((ad Wg (ad ae6 (ad IU eZ))):Ev []) f77 (aN tA 0x80014202c8088358240050841 [0x14042000000001,0x5c0080000016002,0x250420000005d6003]) [.s] [.bo] Xp
noncomputable def Wb:Cb 126:=b0 ((ad iR eZ):Ev []) f126 (aN tA 0x101 [0x81080000000]) [.s] [.bo] Xs
noncomputable def PU:Cb 76:=b0 ((ad iR (ad Wb eZ)):Ev []) f76 (aN tA 0x80014202c8088358240050241 [0x34008000000c2c2,0x1a04200000034c2c3]) [.sl (.st .Var),uI] [.bo] (fun x=>Tl x.1 x.2)
noncomputable def EO:Cb 183:=b0 (eZ:Ev []) f183 (aN tA 0x40050841 [0xa042000000001]) [uI] [uI] S5
noncomputable def xt:Cb 132:=b0 ((ad iR (ad EO eZ)):Ev []) f132 (aN tA 0x802204028102204028100a058241 [0x81080000000,0x81080000000]) [.st .Arg] [.bo] B9
noncomputable def nE:Cb 214:=b0 ((ad xt eZ):Ev []) f214 (aN tA 0x80014202c8088358241 [0x9002000000207043,0x601080000009207044]) [.sl (.st .Arg),.bo] [.bo] (fun x=>Fj x.1 x.2)
noncomputable def Sc:Cb 180:=b0 ((ad iR (ad nE eZ)):Ev []) f180 (aN tA 0x4005020440811020440b0482080014082c8088358241 [0x280080001040248043,0x81080000000,0x81080000000,0x81080000000]) [.st .Term] [.bo] JV
noncomputable def ahO:Cb 181:=b0 ((ad iR (ad nE eZ)):Ev []) f181 (aN tA 0x80014202c8088358240050841 [0x501080001040041,0x600080000017582,0x26042000000617583]) [.st .Phi] [.bo] abA
noncomputable def ahN:Cb 168:=b0 (eZ:Ev []) f168 (aN tA 0x20000a04120204b80204d609041 [0x6005001006000000001,0x140040100000006002]) [.s,uI] [.s] (fun x=>aa9 x.1 x.2)
noncomputable def VZ:Cb 108:=b0 ((ad ahN eZ):Ev []) f108 (aN tA 0x4005020140805020140805020140805020140805020140b04800a100284641 [0x4042000081002002,0xe042000081002002]) [uI] [.st .Form,.bo] af2
noncomputable def ZW:Cb 215:=b0 ((ad iR (ad nE eZ)):Ev []) f215 (aN tA 0x80014202c8088358240050841 [0x781080001040041,0x880080000021802,0x300420000008a1803]) [.st .Frame] [.bo] Ta
noncomputable def ZY:Cb 182:=b0 ((ad iR (ad VZ (ad nE (ad ZW eZ)))):Ev []) f182 (aN tA 0x4000a101640441ac120005020b20220d609001421001421001421041 [0xd01080003042003042,0x54e01080001040041,0x5ce01080001040041,0x6ae00080001040069e01a38043,0x75e00080000001d38073e02,0x2238042000000075e01d38073e03]) [.st .Instr] [.bo] Tb
noncomputable def ZV:Cb 130:=b0 ((ad iR (ad Sc (ad ahO (ad ZY eZ)))):Ev []) f130 (aN tA 0x100028105901106b0480014082c8088358240050841 [0x401080001040041,0x5000800010404d2043,0x7c008000001e742]) [.st .Block] [.bo] S9
noncomputable def zH:Cb 78:=b0 ((ad PU (ad iR (ad Wb (ad ZV eZ)))):Ev []) f78 (aN tA 0x800142020028420b20220d609040050841 [0x9c1080001040041,0xac00c010000002aa42,0x38e01080005040aeaa450c5,0x48e0108000002baa90c4]) [.st .Func] [.bo] wj
noncomputable def xq:Cb 28:=b0 ((ad PU (ad iR (ad zH eZ))):Ev []) f28 (aN tA 0x20005020b20220d60900028405901106b0480014202c8088358240050841 [0x781080001040041,0x880080001040860043,0x2f042000041022860044,0xd00080001040cf2043,0x1178042000041034cf2044,0x4ae00080000001278048e02]) [.st .Program] [.bo] B5
noncomputable def Z2:Cb 120:=b1 (eZ:Ev []) f120 (aN tA 0x4000140905901106b04800b20220d609040050241 [0x10093004000081012445084,0x1009d00400000071b143]) [.st .Phi,.sl .s] [.bo] (fun x=>Tf x.1 x.2)
noncomputable def Wk:Cb 67:=b1 ((ad (bA (bI (eZ:Ev eF) 119 f119 (aN tA 0x10002c808835820b20220d609041 [0x820c00400007a04023c0bc07c03c2ca0c7,0x20850010000507a08023c0bc07c03c4d230b2850cb]))) (ad Z2 eZ)):Ev eH) f67 (aN tA 0x400014082c808835820028420b20220d609041 [0xd002000008e8130b0c3,0x641080005048e8134c2c50c5,0x740080005048e8171b34c2c50c7]) [.st .Func] [.bo] Nq
noncomputable def xr:Cb 109:=b0 ((ad (bS 10 (bA (bI ((ad (bA (bI (eZ:Ev []) 95 f95 (aN tA 0x41 []))) eZ):Ev []) 169 f169 (aN tA 0x2080014082c8088358241 [0x34008000613a0ba0c02fc2bc27c17c13c0bc07c03c30b18204d]))) (bA (bI ((ad (bA (bI (eZ:Ev []) 95 f95 (aN tA 0x41 []))) eZ):Ev []) 169 f169 (aN tA 0x2080014082c8088358241 [0x3400800061ba13a0ba1004fc4bc47c3fc1fc1bc13c0bc07c30b18204e])))) eZ):Ev []) f109 (aN tA 0x1001408841 [0x1891c11001860c0102080102043]) [.st .Func,.s] [.st .Var,.bo] (fun x=>B7 x.1 x.2)
noncomputable def PT:Cb 65:=b0 ((ad xr eZ):Ev []) f65 (aN tA 0x800a04028100a04020a058241 []) [.st .Func,.st .Arg] [.s,.bo] (fun x=>abB x.1 x.2)
noncomputable def ae8:Cb 63:=b1 ((ad PT (ad VZ (ad xr eZ))):Ev eO) f63 (aN tA 0x80002812082c8088358240001409050301001421041 [0xa010800081851031402061440c5,0xa28200018510300a185104,0xa2c0ff800400018408003ee00f78286105]) [.st .Program,.st .Func,.st .Instr] [.st .asked,.bo] (fun x=>Xu x.1 x.2.1 x.2.2)
noncomputable def MG:Cb 118:=b0 (eZ:Ev []) f118 (aN tA 0x41 []) [.s] [.bo] Xx
noncomputable def qA:Cb 66:=b0 ((ad MG eZ):Ev []) f66 (aN tA 0x101 [0x101080000000]) [.s,.s] [.bo] (fun x=>Tg x.1 x.2)
noncomputable def Z5:Cb 110:=b0 (eZ:Ev []) f110 (aN tA 0x80014082c8088358241 [0x3000800030402ca0c2045]) [.st .asked,.s,.s] [.bo] (fun x=>Tk x.1 x.2.1 x.2.2)
noncomputable def Wm:Cb 116:=b0 ((ad qA eZ):Ev []) f116 (aN tA 0x80014082c8088358240050241 [0xe00200000034c043]) [.sl .s,.sl (.st .Var)] [.bo] (fun x=>Xw x.1 x.2)
noncomputable def Wp:Cb 111:=b0 ((ad uc (ad Wm eZ)):Ev []) f111 (aN tA 0x4041 [0x81080000000]) [.st .asked] [.bo] Nw
noncomputable def Wl:Cb 170:=b0 ((ad uc (ad (bA (bI ((ad (bA (bI (eZ:Ev []) 95 f95 (aN tA 0x41 []))) eZ):Ev []) 169 f169 (aN tA 0x2080014082c8088358241 [0x34008000623a1ba0fa10057c53c4fc47c43c3fc3bc37c33c2fc2bc27c23c1fc1bc0fc0bc07c03c30b182058]))) eZ)):Ev []) f170 (aN tA 0x1001409041 []) [.st .Program,.s,.s] [.st .Var,.bo] (fun x=>Ns x.1 x.2.1 x.2.2)
noncomputable def Si:Cb 112:=b1 ((ad Wl eZ):Ev []) f112 (aN tA 0x40050241 []) [.st .asked] [.st .Var,.bo] JZ
noncomputable def Z4:Cb 113:=b0 ((ad MG eZ):Ev []) f113 (aN tA 0x101 [0x101080000000]) [.s,.s] [.bo] (fun x=>Tj x.1 x.2)
noncomputable def Sf:Cb 171:=b0 ((ad (bA (bI ((ad (bA (bI (eZ:Ev []) 95 f95 (aN tA 0x41 []))) eZ):Ev []) 169 f169 (aN tA 0x2080014082c8088358241 [0x34008000613a0ba0c023c1fc1bc17c13c0bc07c03c30b18204d]))) eZ):Ev []) f171 (aN tA 0x41 []) [.st .Program,.s] [.st .Var,.bo] (fun x=>JY x.1 x.2)
noncomputable def MH:Cb 114:=b1 ((ad qA (ad Sf eZ)):Ev []) f114 (aN tA 0x1001409041 []) [.st .asked] [.bo] Fq
noncomputable def Z3:Cb 115:=b0 ((ad (bA (bI ((ad (bA (bI (eZ:Ev []) 53 f53 (aN tA 0x41 []))) eZ):Ev []) 172 f172 (aN tA 0x2080014082c8088358241 [0x34008000613a0ba0c023c1fc1bc17c13c0bc07c03c30b18204d]))) eZ):Ev []) f115 (aN tA 0x41 []) [.st .Program,.s] [.st .Func,.bo] (fun x=>Ti x.1 x.2)
noncomputable def Se:Cb 117:=b0 ((ad (bA (bI ((ad (bA (bI (eZ:Ev []) 51 f51 (aN tA 0x41 []))) eZ):Ev []) 173 f173 (aN tA 0x2080014082c8088358241 [0x34008000613a0ba0c023c1fc1bc17c13c0bc07c03c30b18204d]))) eZ):Ev []) f117 (aN tA 0x41 []) [.st .Program,.s] [.st .Extern,.bo] (fun x=>JX x.1 x.2)
noncomputable def Sj:Cb 64:=b1 ((ad qA (ad Z5 (ad Wp (ad Si (ad Z4 (ad MH (ad Z3 (ad Wm (ad Se (ad MG eZ)))))))))):Ev []) f64 (aN tA 0x100140810140810140805008180140804140804140805020140805020140b04800a04028100a058241 [0x19b8042000041020042,0x81080000000,0x81080000000]) [.st .asked] [.bo] J0
noncomputable def Wo:Cb 15:=b1 ((ad ae8 (ad Sj eZ)):Ev []) f15 (aN tA 0x1041 []) [.st .Program,.st .Func,.st .Instr] [.bo] (fun x=>Nu x.1 x.2.1 x.2.2)
noncomputable def ae9:Cb 16:=b0 ((ad PT (ad qA eZ)):Ev []) f16 (aN tA 0x800a04028100a040281609041 []) [.st .Func,.st .Term] [.bo] (fun x=>Xv x.1 x.2)
noncomputable def Sl:Cb 225:=b0 (eZ:Ev []) f225 (aN tA 0x40050841 [0x5410800040c20c0103083]) [.st .Instr,.st .Arg] [.st .Virt,.bo] (fun x=>Kb x.1 x.2)
noncomputable def adM:Cb 202:=b0 ((ad PT (ad Sl eZ)):Ev []) f202 (aN tA 0x1001408241 []) [.st .Func,.st .Instr,.st .Arg] [.s,.bo] (fun x=>abC x.1 x.2.1 x.2.2)
noncomputable def Wq:Cb 174:=b0 ((ad adM eZ):Ev []) f174 (aN tA 0x20000a10120b20220d609041 [0xc0900040001030803ce1c40c5,0x230420002440c330140f3891c40c7]) [.st .Func,.st .Instr,.st .Frame] [.bo] (fun x=>Nx x.1 x.2.1 x.2.2)
noncomputable def Z8:Cb 175:=b0 ((ad qA (ad uc (ad adM eZ))):Ev []) f175 (aN tA 0x800142020b20220d609001421041 [0x8010800091c61440091c6144,0x9000800091850c08e2246145,0xf380420002461430248e2246146]) [.st .Program,.st .Func,.st .Instr,.st .Virt] [.bo] (fun x=>Tp x.1 x.2.1 x.2.2.1 x.2.2.2)
noncomputable def Wr:Cb 121:=b0 ((ad Wq (ad Z8 eZ)):Ev []) f121 (aN tA 0x100028105901106b0480014082c8088358241 [0x3800800051030c034c1440c5,0x6c00800051030c06991440c5]) [.st .Program,.st .Func,.st .Instr] [.bo] (fun x=>Ny x.1 x.2.1 x.2.2)
noncomputable def Sk:Cb 68:=b1 ((ad Wo (ad ae9 (ad Wr eZ))):Ev []) f68 (aN tA 0x100028100028405901106b0482c8088358241 [0x30008000308200b283084,0x1300200018308301244c2ca183088,0xb010800060c20c04d244c2ca183089]) [.st .Program,.st .Func] [.bo] (fun x=>Ka x.1 x.2)
noncomputable def Z7:Cb 69:=b0 ((ad PT (ad qA eZ)):Ev []) f69 (aN tA 0x20000142020b20220d60800a04820b20220d6082c8088358241 [0x4800800030404500c3,0x190020000c10185d24500c6,0x2a0020000c1029a196174914090ca,0x3ce01080003040aa9a196174914090cb]) [.st .Program,.st .Func] [.bo] (fun x=>Tn x.1 x.2)
noncomputable def Z6:Cb 70:=b1 (eZ:Ev []) f70 (aN tA 0x20005020b20220d60900028105901106b048002041700441ac1001640441ac120b20220d609041 [0x101d40040000c10134850c4,0x4076c01000070c201a6544d21c50c8,0x407a001000030409e65134850c7,0x101c20000c10289e65134850c8,0x39e00080003050040e38037e050c4,0x46e00080000401045e01138143]) [.st .Program,.st .Func] [.bo] (fun x=>Tm x.1 x.2)
noncomputable def IL:Cb 61:=b1 ((ad ⟨_,zG⟩ eZ):Ev []) f61 (aN tA 0x801020b80220d609041 [0x3f08d00400000030b143,0xfc208000000d30b144]) [.mp .s .bo,.st .Block] [.mp .s .bo] (fun x=>M7 x.1 x.2)
noncomputable def Sd:Cb 160:=b0 (eZ:Ev []) f160 (aN tA 0x80014082c8088358241 [0xb002000000289043]) [.st .Func,.s] [uI,.bo] (fun x=>JW x.1 x.2)
noncomputable def ae4:Cb 97:=b1 ((ad Sd eZ):Ev eP) f97 (aN tA 0x400102082e008835820b20220d609041 [0x4400cc10000104040f043,0x6800cc1000010406584503c4047,0x330200004101a6584503c4048]) [.st .Func] [.sl (.sl uI)] Xq
noncomputable def ZZ:Cb 198:=b0 (eZ:Ev []) f198 (aN tA 0x80014082c8088358241 [0x80020000001c1003]) [.sl uI,uI] [uI] (fun x=>Tc x.1 x.2)
noncomputable def V9:Cb 161:=b6 ((ad ZZ eZ):Ev []) f161 (aN tA 0x41 []) [.sl uI,uI] [.bo] (fun x(_:True)=>Nf x.1 x.2)
noncomputable def RV:Cb 98:=b1 ((ad V9 eZ):Ev eP) f98 (aN tA 0x10004202e008835820b20220d609041 [0xd00330400000030b003,0x140033040000004d234c2c4007,0xcc0800000144d234c2c4008,0xa010800000f70544d234c2c710300a]) [.sl (.sl uI)] [.sl (.sl uI)] JQ
noncomputable def RU:Cb 99:=b8 ((ad (bA (bI (eZ:Ev eW) 162 f162 (aN tA 0x20028404100105024160204d641040050241041 [0x63851441060000001bc0bc03c004,0x1638042000006dc5dc4dc31bc0bc03c206144008]))) (ad (bA (bI (eZ:Ev eO) 163 f163 (aN tA 0x640409ac1 [0x1373430020060000002bc13c003]))) eZ)):Ev eO) f99 (aN tA 0x41101 [0x105080000000]) [.sl (.sl uI)] [.sl uI] JP
noncomputable def Mz:Cb 100:=b0 (eZ:Ev []) f100 (aN tA 0x800b20220d609041 [0x608a0040000002480c3]) [.st .Func] [.mp .s .bo] Fh
noncomputable def V2:Cb 101:=b8 (eZ:Ev []) f101 (aN tA 0x20204160220d609040050241 [0xc3ca084000000305043]) [.mp .s .bo,.mp .s .bo] [.mp .s .bo] (fun x=>M9 x.1 x.2)
noncomputable def V0:Cb 102:=b1 ((ad ⟨_,zG⟩ eZ):Ev []) f102 (aN tA 0x800b20220d609041 [0x3f08d00400000030b143]) [.mp .s .bo,.st .Block] [.mp .s .bo] (fun x=>M8 x.1 x.2)
noncomputable def PS:Cb 59:=b8 ((ad IL (ad ae4 (ad RV (ad RU (ad Mz (ad V2 (ad V0 eZ))))))):Ev []) f59 (aN tA 0x800212020206001020b80220d60901030105901106b04160204d609041041041 [0x2011d0190180001040144043,0x7c02011d019020000104079d144045,0xb4420000411f71b709f79d2881c614404a,0x2c00b4440000411f71b70aba9f79d2881c614404c,0x2d1080001047dc6dc2b2ba9f79d2881c614404d,0xb4420000411f71b709f79d2881c614404a,0x80420000411f71b709f79d2ca1c614404a,0x54e01080001047dc6dc27de74b2881c614404b]) [.st .Func] [.sl (.mp .s .bo)] S6
noncomputable def Wh:Cb 105:=b8 ((ad (bA (bI ((ad (bS 21 (bA (bI (eZ:Ev []) 199 f199 (aN tA 0x2041 []))) (bS 39 (bA (bI (eZ:Ev []) 199 f199 (aN tA 0x2041 []))) (bA (bI (eZ:Ev []) 199 f199 (aN tA 0x2041 []))))) eZ):Ev []) 165 f165 (aN tA 0xb80220d6082c808835820005c01106b041640441ac12002e0088358241 [0x13a0910040000c1e82006f05f04f03f02f01f00f103c300b,0x4e8208000307a0801bc17c13c0fc0bc07c03c4503c300c,0x13a09c0040000c1e82006f05f04f03f02f01f00f1b68300b,0x4e828c010000307a0801bc17c13c0fc0bc07c03c8a171b68300e,0x13a0820000c1e82006f05f04f03f02f01f00f238a171b68300f,0x13a0b000400007a0401bc17c13c0fc0bc07c03cbee00a,0x4e82037e00100001e81006f05f04f03f02f01f00f36d70bee00d,0x13a08200007a0401bc17c13c0fc0bc07c03c037e36d70bee00e]))) (ad RY eZ)):Ev []) f105 (aN tA 0x41041 []) [.st .Instr] [.sl .s] Nk
noncomputable def RN:Cb 60:=b1 ((ad ⟨_,zG⟩ (ad (bA (bI (eZ:Ev []) 104 f104 (aN tA 0x80014082c8088358241 [0x90020001fa0fa080fc14fc4bc47c43c3fc3bc37c33c2fc1fc17c0fc20700f]))) (ad Wh (ad (bA (bI (eZ:Ev []) 106 f106 (aN tA 0x41 []))) eZ)))):Ev []) f60 (aN tA 0x2001020028420b80220d609041 [0x3f08d0040000c100c2c50c4,0xfc208000304034c2c50c5,0x5410800070c203f04d30b1c50c6,0x101080000000]) [.mp .s .bo,.st .Block] [.bo] (fun x=>JL x.1 x.2)
noncomputable def Z0:Cb 201:=b0 (eZ:Ev []) f201 (aN tA 0x80014082c8088358241 [0x80020000001c1003]) [.sl .s,.s] [uI] (fun x=>Td x.1 x.2)
noncomputable def Wa:Cb 167:=b0 ((ad Z0 eZ):Ev []) f167 (aN tA 0x41 []) [.sl .s,.s] [.bo] (fun x=>Ng x.1 x.2)
noncomputable def RP:Cb 107:=b0 ((ad Wa eZ):Ev []) f107 (aN tA 0x80014082c8088358241 [0x30008000000b282044]) [.st .Func,.s,.s] [.bo] (fun x=>JM x.1 x.2.1 x.2.2)
noncomputable def V3:Cb 62:=b0 ((ad (bA (bI (eZ:Ev []) 106 f106 (aN tA 0x41 []))) (ad RP eZ)):Ev []) f62 (aN tA 0x80000508082c808835820b20220d6082c8088358241 [0x1000200008100f382044,0x5c00800060820165503ce182048,0x1e00200018208075c5d65503ce18204b,0x38e0108000608201e75c5d65503ce18204c]) [.st .Func,.mp .s (.mp .s .bo)] [.bo] (fun x=>Na x.1 x.2)
noncomputable def RQ:Cb 13:=b1 ((ad PS (ad RN (ad IL (ad V3 eZ)))):Ev []) f13 (aN tA 0x800028120b80220d609041 [0x648a004000041009203044,0x192080001040289203045]) [.st .Func] [.bo] JN
noncomputable def zI:Cb 18:=b1 ((ad Wn (ad Sb (ad xq (ad Wk (ad Sk (ad Z7 (ad Z6 (ad (bA (bI ((ad RQ eZ):Ev []) 71 f71 (aN tA 0x41 []))) eZ)))))))):Ev []) f18 (aN tA 0x100005020b20220dcc100140905901106b04800a040281641 [0x5c0080001040595043]) [.st .Program] [uI] Fv
noncomputable def xn:Cb 24:=b0 (eZ:Ev []) f24 (aN tA 0x801020b80210d609040050241 [0x180140100000001002,0x5c1080000006141004,0x5002000000181003]) [.sl (.st .Var),uI] [uI] (fun x=>B1 x.1 x.2)
noncomputable def IM:Cb 179:=b0 (eZ:Ev []) f179 (aN tA 0x20320210d609040050241 [0x180140100000001002,0x5c1080000006141004]) [.sl (.st .Arg),uI] [uI] (fun x=>B0 x.1 x.2)
noncomputable def ER:Cb 125:=b1 ((ad IM eZ):Ev []) f125 (aN tA 0x2004082e008435824001020b80210d60808180b20210d60901030040c040050841 [0x14042000081002042,0x5002000081002042,0x5002000081002042,0x6005004000081002042,0xf78042000081006142044,0x140080002040182043,0x1c0140100002040182043,0x62e010800020401c6142045,0x5002000081007182044,0x8005004000081002042,0x2378042000081008142044,0x140080002040202043]) [.st .Instr,uI] [uI] (fun x=>Ay x.1 x.2)
noncomputable def EQ:Cb 75:=b1 ((ad ER eZ):Ev []) f75 (aN tA 0x101901086b048002041700421ac105901086b0480c808435824040c040050841 [0x1d042000081002042,0x5002000081002042,0x6005004000081002042,0xe38042000081006142044,0x7005004000081002042,0x13b8042000081007142044,0x2001401000020401c2043,0x68e01080002040207142045,0x50020000810081c2044,0x9005004000081002042,0x24f8042000081009142044]) [.st .Block,uI] [uI] (fun x=>Ax x.1 x.2)
noncomputable def RL:Cb 25:=b1 ((ad xn (ad EQ eZ)):Ev []) f25 (aN tA 0x80c808435824040c01030040c040050241 [0x5002000081002042,0x5002000081002042,0x5002000081002042,0x6005004000081002042,0x35042000081006142044]) [.st .Func,uI] [uI] (fun x=>JK x.1 x.2)
noncomputable def ahM:Cb 6:=b1 ((ad xn (ad RL eZ)):Ev []) f6 (aN tA 0x20320210d60901901086b04801020b80210d609040050841 [0x18042000081002042,0x6005004000081002042,0x26042000081006142044,0x140080002040182043,0x7005004000081002042,0x1238042000081007142044,0x8005004000081002042,0x17b8042000081008142044]) [.st .Program,uI] [.bo] (fun x=>aa8 x.1 x.2)
noncomputable def ZU:Cb 138:=b0 (eZ:Ev []) f138 (aN tA 0x41 []) [.b8] [.bo] S8
noncomputable def We:Cb 88:=b1 ((ad ZU eZ):Ev []) f88 (aN tA 0x4008100a1000818846e0081358241041 [0x60050044c6000000001,0x140113100000006002,0x341080000137046144004,0x113080000006002,0x841080000137046144004]) [.s] [.sl .s,.bo] Ni
noncomputable def Wc:Cb 42:=b0 ((ad MB (ad V4 (ad We eZ))):Ev []) f42 (aN tA 0x801020028120820b80220d609040050241 [0x40015410000000f382,0x550200000040f383]) [.s] [.sl (.st .Line),uI,uI] Nh
noncomputable def iS:Cb 92:=b0 (eZ:Ev []) f92 (aN tA 0x80014082c8088358241 [0x9002000000207043]) [.sl uI,uI] [.bo] (fun x=>XA x.1 x.2)
noncomputable def fL:Cb 152:=b4 ((ad iR (ad (bI ((ad ae eZ):Ev []) 91 f91 (aN tA 0x81 [])) eZ)):Ev []) f152 (aN tA 0x1041 []) [.s] [.s] (fun x(_:True)=>Tw x)
noncomputable def ahP:Cb 153:=b0 ((ad VZ eZ):Ev []) f153 (aN tA 0x80014082c8081358241 [0x4002000000001]) [.s] [uI,.bo] abD
noncomputable def ua:Cb 196:=b0 ((ad ub eZ):Ev []) f196 (aN tA 0x800a04808180000a10b20204d60904040c040050841 [0xd042000000001,0x4002000000001,0x180140100000004002,0x841080000006144004,0x5002000000001]) [.s] [uI,.bo] Nl
noncomputable def V5:Cb 237:=b0 ((ad EO (ad RS (ad MA eZ))):Ev []) f237 (aN tA 0x2002812080002812082c8088358241001421041 [0x15042000000101,0x600195100000017102]) [.s] [uI,.bo] Nb
noncomputable def ES:Cb 235:=b0 ((ad ua (ad V5 eZ)):Ev []) f235 (aN tA 0x40050241001408241 []) [.s] [.st .Arg,.bo] Az
noncomputable def Sm:Cb 223:=b0 ((ad iR (ad ua (ad ES eZ))):Ev []) f223 (aN tA 0x20020028420a04028100a040281641 [0x26042000081004082]) [.s] [.st .Arg,.bo] Kc
noncomputable def zJ:Cb 194:=b4 ((ad (bI ((ad ae eZ):Ev []) 91 f91 (aN tA 0x81 [])) (ad Sm eZ)):Ev []) f194 (aN tA 0x44041 [0x5102005102]) [.s,.bo] [.st .Arg] (fun x(_:True)=>Xy x.1 x.2)
noncomputable def PV:Cb 154:=b4 ((ad zJ eZ):Ev []) f154 (aN tA 0x800b20220d609041 [0xa005584000000248043]) [.sl .s,.bo] [.sl (.st .Arg)] (fun x hp=>Tq x.1 x.2 hp)
noncomputable def Z9:Cb 90:=b5 ((ad (bI ((ad (bI ((ad ae eZ):Ev eS) 91 f91 (aN tA 0x81 [])) (ad iS eZ)):Ev eS) 45 f45 .l) (ad (bS 38 (bI ((ad ae eZ):Ev eS) 91 f91 (aN tA 0x81 [])) (bS 50 (bI ((ad ae eZ):Ev eS) 91 f91 (aN tA 0x81 [])) (bS 68 (bI ((ad ae eZ):Ev eS) 91 f91 (aN tA 0x81 [])) (bS 88 (bI ((ad ae eZ):Ev eS) 91 f91 (aN tA 0x81 [])) (bI ((ad ae eZ):Ev eS) 91 f91 (aN tA 0x81 [])))))) (ad VZ (ad fL (ad ahP (ad (bS 76 (bI ((ad zJ eZ):Ev eS) 154 f154 (aN tA 0x800b20220d609041 [0x2801561000011c40803f93b93392f92b92792391f91b91791390f90b9efc27c1fc17c13c03c248056])) PV) (ad (bI ((ad (bI ((ad ae eZ):Ev eS) 189 f189 (aN tA 0x81 [])) eZ):Ev eS) 155 f155 (aN tA 0x1 [])) (ad (bI ((ad (bI (eZ:Ev eS) 192 f192 (aN tA 0x41 [])) eZ):Ev eS) 156 f156 (aN tA 0x1041 [])) eZ)))))))):Ev eS) f90 (aN tA 0x42022020820020a04020a11c041041041001424041 [0x46015c4000040004002,0x17042000044040101003,0x1190800011c1007144004,0x3be010800011c4080247144005,0x1a080000005002,0x88e01080001000001]) [.fr,.ow [.fr,.ow [.fr,.fr]],.ow [.fr,.fr],.ow [.fr,.fr],.ow [.fr,.fr,.ow [.fr,.fr],.ow [.fr,.fr],.ow [.fr,.ow [.fr,.fr],.ow [.fr,.fr,.fr,.fr,.ow [.fr,.fr,.fr,.fr],.ow [.fr,.fr]],.fr,.fr,.fr,.fr,.fr,.fr]],.fr,.fr,.fr,.fr] (.st .Reader) [.sl .s] [] Tr
noncomputable def afC:Cb 139:=b5 ((ad (bI ((ad ae eZ):Ev eS) 91 f91 (aN tA 0x81 [])) eZ):Ev eS) f139 (aN tA 0x1 []) [.fr,.ow [.fr,.ow [.fr,.fr]],.ow [.fr,.fr],.ow [.fr,.fr],.ow [.fr,.fr,.ow [.fr,.fr],.ow [.fr,.fr],.ow [.fr,.ow [.fr,.fr],.ow [.fr,.fr,.fr,.fr,.ow [.fr,.fr,.fr,.fr],.ow [.fr,.fr]],.fr,.fr,.fr,.fr,.fr,.fr]],.fr,.fr,.fr,.fr] (.st .Reader) [.sl .s] [] XC
noncomputable def Ws:Cb 140:=b5 ((ad (bI ((ad (bI ((ad ae eZ):Ev eS) 91 f91 (aN tA 0x81 [])) (ad iS eZ)):Ev eS) 45 f45 .l) (ad (bI ((ad ae eZ):Ev eS) 91 f91 (aN tA 0x81 [])) (ad fL (ad (bI ((ad ae eZ):Ev eS) 189 f189 (aN tA 0x81 [])) eZ)))):Ev eS) f140 (aN tA 0x4041041 [0x682000000001]) [.fr,.ow [.fr,.ow [.fr,.fr]],.ow [.fr,.fr],.ow [.fr,.fr],.ow [.fr,.fr,.ow [.fr,.fr],.ow [.fr,.fr],.ow [.fr,.ow [.fr,.fr],.ow [.fr,.fr,.fr,.fr,.ow [.fr,.fr,.fr,.fr],.ow [.fr,.fr]],.fr,.fr,.fr,.fr,.fr,.fr]],.fr,.fr,.fr,.fr] (.st .Reader) [.sl .s] [] Nz
noncomputable def ue:Cb 190:=b4 ((ad iR (ad (bI ((ad ae eZ):Ev []) 91 f91 (aN tA 0x81 [])) eZ)):Ev []) f190 (aN tA 0x1101 [0x1]) [.s] [.s] (fun x(_:True)=>Tu x)
noncomputable def Wt:Cb 141:=b5 ((ad (bI ((ad (bI ((ad ae eZ):Ev eS) 91 f91 (aN tA 0x81 [])) (ad iS eZ)):Ev eS) 45 f45 .l) (ad (bI ((ad ae eZ):Ev eS) 91 f91 (aN tA 0x81 [])) (ad fL (ad (bI ((ad ae eZ):Ev eS) 189 f189 (aN tA 0x81 [])) (ad ue eZ))))):Ev eS) f141 (aN tA 0x1044041 [0x4242004103001000001]) [.fr,.ow [.fr,.ow [.fr,.fr]],.ow [.fr,.fr],.ow [.fr,.fr],.ow [.fr,.fr,.ow [.fr,.fr],.ow [.fr,.fr],.ow [.fr,.ow [.fr,.fr],.ow [.fr,.fr,.fr,.fr,.ow [.fr,.fr,.fr,.fr],.ow [.fr,.fr]],.fr,.fr,.fr,.fr,.fr,.fr]],.fr,.fr,.fr,.fr] (.st .Reader) [.sl .s] [] NA
noncomputable def Sq:Cb 142:=b5 ((ad (bI ((ad (bI ((ad ae eZ):Ev eS) 91 f91 (aN tA 0x81 [])) (ad iS eZ)):Ev eS) 45 f45 .l) (ad (bI ((ad ae eZ):Ev eS) 91 f91 (aN tA 0x81 [])) (ad fL (ad (bI ((ad ae eZ):Ev eS) 189 f189 (aN tA 0x81 [])) (ad ue eZ))))):Ev eS) f142 (aN tA 0x4044041 [0x4242004103001000001,0x682000000001]) [.fr,.ow [.fr,.ow [.fr,.fr]],.ow [.fr,.fr],.ow [.fr,.fr],.ow [.fr,.fr,.ow [.fr,.fr],.ow [.fr,.fr],.ow [.fr,.ow [.fr,.fr],.ow [.fr,.fr,.fr,.fr,.ow [.fr,.fr,.fr,.fr],.ow [.fr,.fr]],.fr,.fr,.fr,.fr,.fr,.fr]],.fr,.fr,.fr,.fr] (.st .Reader) [.sl .s] [] Kf
noncomputable def C8:Cb 191:=b4 ((ad (bI ((ad ae eZ):Ev []) 91 f91 (aN tA 0x81 [])) (ad ua eZ)):Ev []) f191 (aN tA 0x41041 []) [.s,uI,uI] [uI] (fun x(_:True)=>Kg x.1 x.2.1 x.2.2)
noncomputable def So:Cb 143:=b5 ((ad (bI ((ad (bI ((ad ae eZ):Ev eS) 91 f91 (aN tA 0x81 [])) (ad iS eZ)):Ev eS) 45 f45 .l) (ad (bI ((ad ae eZ):Ev eS) 91 f91 (aN tA 0x81 [])) (ad fL (ad (bI ((ad ae eZ):Ev eS) 189 f189 (aN tA 0x81 [])) (ad C8 eZ))))):Ev eS) f143 (aN tA 0x4044041 [0x46c2004103001000001,0x682000000001]) [.fr,.ow [.fr,.ow [.fr,.fr]],.ow [.fr,.fr],.ow [.fr,.fr],.ow [.fr,.fr,.ow [.fr,.fr],.ow [.fr,.fr],.ow [.fr,.ow [.fr,.fr],.ow [.fr,.fr,.fr,.fr,.ow [.fr,.fr,.fr,.fr],.ow [.fr,.fr]],.fr,.fr,.fr,.fr,.fr,.fr]],.fr,.fr,.fr,.fr] (.st .Reader) [.sl .s] [] Ke
noncomputable def IV:Cb 144:=b5 ((ad (bI ((ad (bI ((ad ae eZ):Ev eS) 91 f91 (aN tA 0x81 [])) (ad iS eZ)):Ev eS) 45 f45 .l) (ad (bI ((ad ae eZ):Ev eS) 91 f91 (aN tA 0x81 [])) (ad fL (ad (bI ((ad ae eZ):Ev eS) 189 f189 (aN tA 0x81 [])) (ad ue eZ))))):Ev eS) f144 (aN tA 0x4044041 [0x4702004103001000001,0x682000000001]) [.fr,.ow [.fr,.ow [.fr,.fr]],.ow [.fr,.fr],.ow [.fr,.fr],.ow [.fr,.fr,.ow [.fr,.fr],.ow [.fr,.fr],.ow [.fr,.ow [.fr,.fr],.ow [.fr,.fr,.fr,.fr,.ow [.fr,.fr,.fr,.fr],.ow [.fr,.fr]],.fr,.fr,.fr,.fr,.fr,.fr]],.fr,.fr,.fr,.fr] (.st .Reader) [.sl .s] [] Ca
noncomputable def Wv:Cb 145:=b5 ((ad (bI ((ad (bI ((ad ae eZ):Ev eS) 91 f91 (aN tA 0x81 [])) (ad iS eZ)):Ev eS) 45 f45 .l) (ad (bI ((ad ae eZ):Ev eS) 91 f91 (aN tA 0x81 [])) (ad fL (ad (bI ((ad ae eZ):Ev eS) 189 f189 (aN tA 0x81 [])) (ad ue (ad (bI (eZ:Ev eS) 192 f192 (aN tA 0x41 [])) eZ)))))):Ev eS) f145 (aN tA 0x1044041 [0x4242004103001000001]) [.fr,.ow [.fr,.ow [.fr,.fr]],.ow [.fr,.fr],.ow [.fr,.fr],.ow [.fr,.fr,.ow [.fr,.fr],.ow [.fr,.fr],.ow [.fr,.ow [.fr,.fr],.ow [.fr,.fr,.fr,.fr,.ow [.fr,.fr,.fr,.fr],.ow [.fr,.fr]],.fr,.fr,.fr,.fr,.fr,.fr]],.fr,.fr,.fr,.fr] (.st .Reader) [.sl .s] [] NC
noncomputable def IX:Cb 146:=b5 ((ad (bI ((ad (bI ((ad ae eZ):Ev eS) 91 f91 (aN tA 0x81 [])) (ad iS eZ)):Ev eS) 45 f45 .l) (ad (bI ((ad ae eZ):Ev eS) 91 f91 (aN tA 0x81 [])) (ad fL (ad (bI ((ad ae eZ):Ev eS) 189 f189 (aN tA 0x81 [])) (ad ue (ad (bI (eZ:Ev eS) 192 f192 (aN tA 0x41 [])) eZ)))))):Ev eS) f146 (aN tA 0x101044041 [0x4242004103001000001,0x682000000001]) [.fr,.ow [.fr,.ow [.fr,.fr]],.ow [.fr,.fr],.ow [.fr,.fr],.ow [.fr,.fr,.ow [.fr,.fr],.ow [.fr,.fr],.ow [.fr,.ow [.fr,.fr],.ow [.fr,.fr,.fr,.fr,.ow [.fr,.fr,.fr,.fr],.ow [.fr,.fr]],.fr,.fr,.fr,.fr,.fr,.fr]],.fr,.fr,.fr,.fr] (.st .Reader) [.sl .s] [] Cc
noncomputable def Ww:Cb 147:=b5 ((ad (bS 28 (bI ((ad ae eZ):Ev eS) 91 f91 (aN tA 0x81 [])) (bI ((ad ae eZ):Ev eS) 91 f91 (aN tA 0x81 []))) (ad fL (ad (bI ((ad ae eZ):Ev eS) 189 f189 (aN tA 0x81 [])) (ad (bI (eZ:Ev eS) 192 f192 (aN tA 0x41 [])) (ad (bI (eZ:Ev eS) 193 f193 (aN tA 0x41 [])) eZ))))):Ev eS) f147 (aN tA 0x101041044 [0x40001002,0x682000000001]) [.fr,.ow [.fr,.ow [.fr,.fr]],.ow [.fr,.fr],.ow [.fr,.fr],.ow [.fr,.fr,.ow [.fr,.fr],.ow [.fr,.fr],.ow [.fr,.ow [.fr,.fr],.ow [.fr,.fr,.fr,.fr,.ow [.fr,.fr,.fr,.fr],.ow [.fr,.fr]],.fr,.fr,.fr,.fr,.fr,.fr]],.fr,.fr,.fr,.fr] (.st .Reader) [.sl .s] [] NF
noncomputable def afB:Cb 148:=b5 ((ad (bI ((ad (bI ((ad ae eZ):Ev eS) 91 f91 (aN tA 0x81 [])) (ad iS eZ)):Ev eS) 45 f45 .l) (ad (bI ((ad ae eZ):Ev eS) 91 f91 (aN tA 0x81 [])) (ad fL (ad (bI ((ad (bI ((ad ae eZ):Ev eS) 189 f189 (aN tA 0x81 [])) eZ):Ev eS) 155 f155 (aN tA 0x1 [])) (ad (bI ((ad (bI (eZ:Ev eS) 192 f192 (aN tA 0x41 [])) eZ):Ev eS) 156 f156 (aN tA 0x1041 [])) (ad (bI ((ad ae eZ):Ev eS) 189 f189 (aN tA 0x81 [])) (ad zJ eZ))))))):Ev eS) f148 (aN tA 0x82080e0081358241041 [0x11d140100001000101003,0x4742000040005101004]) [.fr,.ow [.fr,.ow [.fr,.fr]],.ow [.fr,.fr],.ow [.fr,.fr],.ow [.fr,.fr,.ow [.fr,.fr],.ow [.fr,.fr],.ow [.fr,.ow [.fr,.fr],.ow [.fr,.fr,.fr,.fr,.ow [.fr,.fr,.fr,.fr],.ow [.fr,.fr]],.fr,.fr,.fr,.fr,.fr,.fr]],.fr,.fr,.fr,.fr] (.st .Reader) [.sl .s] [] XB
noncomputable def Wu:Cb 149:=b5 ((ad (bI ((ad (bI ((ad ae eZ):Ev eS) 91 f91 (aN tA 0x81 [])) (ad iS eZ)):Ev eS) 45 f45 .l) (ad (bI ((ad ae eZ):Ev eS) 91 f91 (aN tA 0x81 [])) (ad fL (ad (bS 59 (bI ((ad ae eZ):Ev eS) 189 f189 (aN tA 0x81 [])) (bI ((ad ae eZ):Ev eS) 189 f189 (aN tA 0x81 []))) (ad C8 (ad zJ (ad (bI ((ad (bI ((ad (bI (eZ:Ev eS) 192 f192 (aN tA 0x41 [])) eZ):Ev eS) 156 f156 (aN tA 0x1041 [])) eZ):Ev eS) 195 f195 (aN tA 0x1041 [])) eZ))))))):Ev eS) f149 (aN tA 0x82080e0081358244041 [0x11e0801040c0040001002,0x11f140100001000101003,0x47c2000040005101004]) [.fr,.ow [.fr,.ow [.fr,.fr]],.ow [.fr,.fr],.ow [.fr,.fr],.ow [.fr,.fr,.ow [.fr,.fr],.ow [.fr,.fr],.ow [.fr,.ow [.fr,.fr],.ow [.fr,.fr,.fr,.fr,.ow [.fr,.fr,.fr,.fr],.ow [.fr,.fr]],.fr,.fr,.fr,.fr,.fr,.fr]],.fr,.fr,.fr,.fr] (.st .Reader) [.sl .s] [] NB
noncomputable def Sr:Cb 150:=b5 ((ad (bI ((ad (bI ((ad ae eZ):Ev eS) 91 f91 (aN tA 0x81 [])) (ad iS eZ)):Ev eS) 45 f45 .l) (ad (bI ((ad ae eZ):Ev eS) 91 f91 (aN tA 0x81 [])) (ad fL (ad PV (ad (bI ((ad ae eZ):Ev eS) 189 f189 (aN tA 0x81 [])) (ad (bI ((ad (bI ((ad (bI (eZ:Ev eS) 192 f192 (aN tA 0x41 [])) eZ):Ev eS) 156 f156 (aN tA 0x1041 [])) eZ):Ev eS) 195 f195 (aN tA 0x1041 [])) eZ)))))):Ev eS) f150 (aN tA 0x101044041 [0x4802004103001000001,0x682000000001]) [.fr,.ow [.fr,.ow [.fr,.fr]],.ow [.fr,.fr],.ow [.fr,.fr],.ow [.fr,.fr,.ow [.fr,.fr],.ow [.fr,.fr],.ow [.fr,.ow [.fr,.fr],.ow [.fr,.fr,.fr,.fr,.ow [.fr,.fr,.fr,.fr],.ow [.fr,.fr]],.fr,.fr,.fr,.fr,.fr,.fr]],.fr,.fr,.fr,.fr] (.st .Reader) [.sl .s] [] Kh
noncomputable def afA:Cb 151:=b5 ((ad (bI ((ad (bI ((ad ae eZ):Ev eS) 91 f91 (aN tA 0x81 [])) (ad iS eZ)):Ev eS) 45 f45 .l) (ad (bS 33 (bI ((ad ae eZ):Ev eS) 91 f91 (aN tA 0x81 [])) (bS 45 (bI ((ad ae eZ):Ev eS) 91 f91 (aN tA 0x81 [])) (bS 65 (bI ((ad ae eZ):Ev eS) 91 f91 (aN tA 0x81 [])) (bS 16 (bI ((ad ae eZ):Ev eS) 91 f91 (aN tA 0x81 [])) (bI ((ad ae eZ):Ev eS) 91 f91 (aN tA 0x81 [])))))) (ad fL (ad (bI ((ad (bI (eZ:Ev eS) 192 f192 (aN tA 0x41 [])) eZ):Ev eS) 156 f156 (aN tA 0x1041 [])) (ad zJ (ad ua eZ)))))):Ev eS) f151 (aN tA 0x2004104028100a04028160c041 [0x4842000040004002,0x682000000001]) [.fr,.ow [.fr,.ow [.fr,.fr]],.ow [.fr,.fr],.ow [.fr,.fr],.ow [.fr,.fr,.ow [.fr,.fr],.ow [.fr,.fr],.ow [.fr,.ow [.fr,.fr],.ow [.fr,.fr,.fr,.fr,.ow [.fr,.fr,.fr,.fr],.ow [.fr,.fr]],.fr,.fr,.fr,.fr,.fr,.fr]],.fr,.fr,.fr,.fr] (.st .Reader) [.sl .s] [] Xz
noncomputable def aaA:Cb 44:=b5 ((ad EP (ad Z9 (ad afC (ad Ws (ad Wt (ad Sq (ad So (ad IV (ad Wv (ad IX (ad Ww (ad afB (ad Wu (ad Sr (ad afA eZ))))))))))))))):Ev eS) f44 (aN tA 0x40c041010841 [0x481080001000101003,0x682000000001]) [.fr,.ow [.fr,.ow [.fr,.fr]],.ow [.fr,.fr],.ow [.fr,.fr],.ow [.fr,.fr,.ow [.fr,.fr],.ow [.fr,.fr],.ow [.fr,.ow [.fr,.fr],.ow [.fr,.fr,.fr,.fr,.ow [.fr,.fr,.fr,.fr],.ow [.fr,.fr]],.fr,.fr,.fr,.fr,.fr,.fr]],.fr,.fr,.fr,.fr] (.st .Reader) [.sl .s] [] Tv
noncomputable abbrev e_yParse:Ev eS:=(ad Wc (ad aaA (ad (bI ((ad (bI ((ad ae eZ):Ev eS) 91 f91 (aN tA 0x81 [])) (ad iS eZ)):Ev eS) 45 f45 .l) eZ)))
theorem LJ(a:List UInt8)(KK:(Lt.Program×Int×Int)->Prop):yZ a KK=VU e_yParse.en f9 f43 [(.l,kL (f9.body.getD .skip)),(.l,kL (kR (f9.body.getD .skip))),((aN tA 0x881 [0x48c38c2886000000103083]),kL (kR (kR (f9.body.getD .skip)))),(.l,kL (kR (kR (kR (f9.body.getD .skip)))))] (aN tA 0x20820020b20220d609 [0x55a6401001840c21000185c6103086]) .l (kR (kR (kR (kR (kR (f9.body.getD .skip)))))) [.s] [.st .Program,uI,uI] a KK:=kQ0
noncomputable def IW:Cb 9:=⟨A9 [.s] [.st .Program,uI,uI] oI,yk (LW e_yParse.ok mixed (fn:=f9) (l:=[(.l,kL (f9.body.getD .skip)),(.l,kL (kR (f9.body.getD .skip))),((aN tA 0x881 [0x48c38c2886000000103083]),kL (kR (kR (f9.body.getD .skip)))),(.l,kL (kR (kR (kR (f9.body.getD .skip)))))]) (an2:=(aN tA 0x20820020b20220d609 [0x55a6401001840c21000185c6103086])) (anC:=.l) (id:=rgI (kL (kR (kR (kR (kR (f9.body.getD .skip))))))) (o1:=rgO (kL (kR (kR (kR (kR (f9.body.getD .skip)))))) 0) (o2:=rgO (kL (kR (kR (kR (kR (f9.body.getD .skip)))))) 1) (rest:=kR (kR (kR (kR (kR (f9.body.getD .skip)))))) kQ0 kQ0 kQ0 kQ0 kQ0 kQ0 kQ0 kQ0 kQ0 kQ0 kQ0 kQ0 kQ0 (fun a _ KK h=>LJ a KK ▸ NE a KK h))⟩
noncomputable def jt:Cb 37:=b2 (eZ:Ev []) f37 .l [.ow [.fr,.fr]] (.st .Sheet) [.sl .s] [] (fun x y=>B3 x y)
noncomputable def xp:Cb 38:=b2 ((ad jt eZ):Ev []) f38 (aN tA 0x1640441ac1 [0x24280100000009201004]) [.ow [.fr,.fr]] (.st .Sheet) [.s,.sl (.st .Var)] [] (fun x y=>B4 x y.1 y.2)
noncomputable def IN:Cb 39:=b1 ((ad ub eZ):Ev []) f39 (aN tA 0x41 []) [uI] [.s] Nn
noncomputable def V6:Cb 133:=b0 ((ad EO eZ):Ev []) f133 (aN tA 0x80c8081358241041 [0x50049440000000c1]) [uI] [.s] Nc
noncomputable def qB:Cb 80:=b1 ((ad ub (ad xt (ad V6 eZ))):Ev []) f80 (aN tA 0x20028100a04028100a058240050241 []) [.st .Arg] [.s] Kd
noncomputable def ae7:Cb 134:=b1 ((ad qB eZ):Ev []) f134 (aN tA 0x800b20220d609041 [0x2000d3100000007182]) [.sl (.st .Arg)] [.sl .s] Xt
noncomputable def IQ:Cb 81:=b2 ((ad jt (ad IN (ad qB (ad VZ (ad ae7 eZ))))):Ev []) f81 (aN tA 0x2e008835820000b80220d609101640441ac120808100a11c041010301041 [0x193080001103080103003,0x1d71931000010c1003002,0x240420000440c28011c6103005,0x9011f80040000c10011b8045e03004,0xa4c20000490c20011f8046e01178243006,0x15b800a4c4000043040055e01538047e011b8045e03007,0x2930800010c10015b8055e01538047e011b8045e03008,0x901ab8004000000069e01a38003,0x24080000001ab8069e01a38004]) [.ow [.fr,.fr]] (.st .Sheet) [.st .Instr] [] (fun x y=>B2 x y)
noncomputable def MD:Cb 82:=b2 ((ad jt (ad ub (ad qB eZ))):Ev []) f82 (aN tA 0x40840840b041 []) [.ow [.fr,.fr]] (.st .Sheet) [.st .Term] [] (fun x y=>Fi x y)
noncomputable def yc:Cb 40:=b2 ((ad jt (ad xp (ad qB (ad IQ (ad MD eZ))))):Ev []) f40 (aN tA 0xb20220d60900005c01106b04820b20220d609041640441ac1041041 [0x91f00400000079d003,0x24ac0100005040aa97de745007,0xd40213100001141034cebaa97de74500a,0x84c2000045040d74cebaa97de74500b,0x24049e00100005040048e011f87de745007]) [.ow [.fr,.fr]] (.st .Sheet) [.st .Func] [] (fun x y=>uz x y)
noncomputable def ME:Cb 8:=b1 ((ad xq (ad jt (ad xp (ad IN (ad yc (ad ae3 eZ)))))):Ev []) f8 (aN tA 0x20028120800b20220d609001700441ac12080082c808835824040c040050241 [0x10982000041004042,0x109990040000410185c4044,0x109ae00400004102db04044,0x426080001040badb04045,0x10980fb800400000003de00f38103]) [.st .Program] [.s,uI] Fo
noncomputable def ZT:Cb 20:=b8 ((ad PS (ad MF (ad V1 eZ))):Ev []) f20 (aN tA 0x800b20220d609041 [0x2400e71000000081c2]) [.st .Func] [.sl (.sl .s)] S7
noncomputable def IP:Cb 23:=b8 (eZ:Ev []) f23 (aN tA 0x100205c01026b04820040b80204d609041 [0x180153100000001002,0x54c2000000181003,0x1c0153100000001002,0x54c20000001c1003]) [.sl .s,.s] [.sl .s] (fun x=>Np x.1 x.2)
noncomputable def Wi:Cb 74:=b8 ((ad IP eZ):Ev []) f74 (aN tA 0x40050241 []) [.sl .s,.st .Arg] [.sl .s] (fun x=>No x.1 x.2)
noncomputable def R0:Cb 21:=b8 ((ad Wi eZ):Ev []) f21 (aN tA 0x200640409ac1640409ac1200640409ac1640409ac120320204d609041 [0x1000d7100001040041,0x1400d7100001040041,0x60035c4000041005042,0x1c00d7100001040041,0x80035c4000041007042]) [.st .Instr] [.sl .s] JR
noncomputable def Sa:Cb 19:=b1 (eZ:Ev []) f19 (aN tA 0x200084700409ac100205c01026b04b20204d609041 [0x6005004000081002042,0x1c0140100002040182043,0x5002000081007182044,0x200140100002040182043,0x5002000081008182044,0x43e01080002040206142045]) [.st .Func,.s] [uI] (fun x=>JS x.1 x.2)
noncomputable def Z1:Cb 22:=b0 (eZ:Ev []) f22 (aN tA 0x2000502c8081358241 [0x140080000001002]) [.sl .s,.s] [.bo] (fun x=>Te x.1 x.2)
end
end Go.Am
end

section
namespace Go.Am
open Go
open Lt (nmB toB Gd Rc bkB phB bj dp Bare bf lk oK)
abbrev aiB:List UInt8:=[115,115,97,10,102,117,110,99,32,102,32,105,110,116,10,118,97,114,32,120,32,105,110,116,10,98,108,111,99,107,32,97,10,120,32,61,32,109,111,118,32,49,10,114,101,116,32,120,10]
abbrev aiL:Lt.Func:=⟨[102],[105,110,116],[],[⟨[120],[105,110,116]⟩],[⟨[97],[],[⟨24,[120],[],[⟨2,[],1⟩],[],[]⟩],⟨3,⟨1,[120],0⟩,[],0⟩⟩]⟩
abbrev agD:Lt.Program:=⟨true,[],[],[],[aiL]⟩
abbrev aiC:List UInt8:=[115,115,97,10,102,117,110,99,32,102,32,105,110,116,10,118,97,114,32,120,32,105,110,116,10,98,108,111,99,107,32,97,10,120,32,61,32,109,111,118,32,49,10,120,32,61,32,109,111,118,32,50,10,114,101,116,32,120,10]
abbrev aaQ:Lt.Func:=⟨[102],[105,110,116],[],[⟨[120],[105,110,116]⟩],[⟨[97],[],[⟨24,[120],[],[⟨2,[],1⟩],[],[]⟩,⟨24,[120],[],[⟨2,[],2⟩],[],[]⟩],⟨3,⟨1,[120],0⟩,[],0⟩⟩]⟩
abbrev TT:Lt.Program:=⟨true,[],[],[],[aaQ]⟩
theorem ty0:oI aiB=(agD,0,0):=by decide +kernel
theorem ty1:oI aiC=(TT,0,0):=by decide +kernel
theorem W5(b:Lt.Block)(h:b.End.To=[]):Lt.Gd [b]:=by
 have a:∀i,i<[b].length->i=0:=fun i hi=>by grind
 refine⟨Nat.zero_lt_one,fun i j hi hj _=>by grind,fun i hi=>?_,fun i hi s hs=>?_,fun k hk=>?_⟩
 ·grind
 ·grind
 ·rw[a k hk];exact .first Nat.zero_lt_one
theorem ab1:bN agD:=by
 grind [bN,kN,kQ,A7,pU,uN,fV,xS]
theorem ab2:bN TT:=by
 grind [bN,kN,kQ,A7,pU,uN,fV,xS]
theorem ab3:bN ⟨false,[],[],[],[]⟩:=by
 grind [bN,kN]
theorem ad8(p:Lt.Program):∀l:List Lt.Func,Lt.vF p l=0 ↔ ∀f∈l,ji f=true/\kX f=true/\oF p f=true/\Ej p f=true/\nh p f=true/\lm f=true
 |[]=>by simp[Lt.vF]
 |f::r=>by
  have ih:=ad8 p r
  unfold Lt.vF
  grind
theorem ad9(p:Lt.Program):dq p=0 ↔ bH p=true/\p.SSA=true/\ou p=true/\∀f∈p.Funcs,ji f=true/\kX f=true/\oF p f=true/\Ej p f=true/\nh p f=true/\lm f=true:=by
 have h:=ad8 p p.Funcs
 unfold dq
 grind
theorem vp0:dq agD=0:=by
 rw[ad9];refine⟨by rfl,by rfl,by rfl,fun f hf=>?_⟩;obtain rfl:=ajD.1 hf;refine⟨wh (W5 _ rfl),by rfl,by rfl,by rfl,by rfl,wh ⟨fun k hk=>?_,fun b hb x hx=>?_⟩⟩
 rotate_left
 ·grind
 obtain rfl:k=0:=by
  grind
 refine⟨fun j hj v hv=>?_,fun _ _=>.inr (by decide)⟩
 grind [lk]
theorem vp1:dq TT=4:=by
 have h1:bH TT=true:=by rfl
 have h4:ou TT=true:=by rfl
 have h5:ji aaQ=true:=wh (W5 _ rfl)
 have h6:kX aaQ=true:=by rfl
 have h7:nh TT aaQ=false:=by rfl
 grind [dq,Lt.vF]
theorem vp2:dq ⟨false,[],[],[],[]⟩=3:=by
 grind [dq]
theorem JO(KK:Bool->Prop)(h:KK EN):Cz KK:=by
 have h:KK true:=h
 have e0:=ty0
 have a:=ty1
 unfold aiB at e0;unfold aiC at a;unfold Cz;simp only[e0,a,vp0,vp1,vp2,ab1,ab2,ab3,decide_true,if_true,true_and,ax];exact h
abbrev chk(b:Lt.Block):List (List UInt8):=b.Phis.map (·.Dst)++bj b
variable{α:Type}
theorem EV{β:Type}[Inhabited α][BEq β](g:α->List β)(d:β):∀(l:List α)(k:Nat),k<l.length->(g (l.getD k default)).count d<=(l.flatMap g).count d
 |[],_,h=>absurd h (alM _)
 |x::r,0,_=>by simp[akD]
 |x::r,k+1,h=>by
  have:=EV g d r k (ak3 h)
  simp[akD]at this⊢;omega
theorem PX{β:Type}[Inhabited α][BEq β](g:α->List β)(d:β):∀(l:List α)(i k:Nat),i<k->k<l.length->(g (l.getD i default)).count d+(g (l.getD k default)).count d<=(l.flatMap g).count d
 |[],_,_,_,h=>absurd h (alM _)
 |x::r,0,k+1,_,h=>by
  have:=EV g d r k (ak3 h)
  simp[akD]at this⊢;omega
 |x::r,i+1,k+1,hi,h=>by
  have:=PX g d r i k (ak3 hi) (ak3 h)
  simp[akD]at this⊢;omega
theorem X0{f:Lt.Func}{d:List UInt8}{k j:Nat}(hc:(bT f.Blocks).count d<=1)(hk:k<f.Blocks.length)(hj:j < (bkB f k).Code.length)(hd:((bkB f k).Code.getD j default).Dst=d)(hn:d≠[]) :
  d ∉ phB f k/\d ∉ dp (bkB f k) j/\∀i,i<f.Blocks.length->i≠k->d ∉ phB f i/\d ∉ bj (bkB f i):=by
 have hs:bj (bkB f k)=dp (bkB f k) j++(d::(((bkB f k).Code.drop (j+1)).map (·.Dst)).filter fun d=>!decide (d=[])):=by
  have e:bj (bkB f k)=dp (bkB f k) j++(((bkB f k).Code.drop j).map (·.Dst)).filter fun d=>!decide (d=[]):=by
   unfold bj dp;rw[<- ak9,<- aj1,aj8]
  rw[e,fN _ hj,aiZ,hd,List.filter_cons,if_pos (by simpa using hn)]
 have h1:(chk (bkB f k)).count d<=1:=ajJ (EV chk d f.Blocks k hk) hc
 have h3:(chk (bkB f k)).count d=(phB f k).count d+((dp (bkB f k) j).count d+(1+((((bkB f k).Code.drop (j+1)).map (·.Dst)).filter fun d=>!decide (d=[])).count d)):=by
  show(phB f k++bj (bkB f k)).count d=_
  rw[hs,akD,akD,List.count_cons];simp;omega
 refine⟨fun a=>?_,fun a=>?_,fun i hi c=>?_⟩
 ·have:=List.count_pos_iff.2 a;omega
 ·have:=List.count_pos_iff.2 a;omega
 have two:∀i k,i<k->k<f.Blocks.length->(chk (bkB f i)).count d+(chk (bkB f k)).count d<=1:=fun i k b hk=>ajJ (PX chk d f.Blocks i k b hk) hc
 have h4:(chk (bkB f i)).count d=0:=by
  rcases Nat.lt_or_gt_of_ne c with hl|hl
  ·have:=two i k hl hk;omega
  ·have:=two k i hl hi;omega
 have h5:=List.count_eq_zero.1 h4
 exact⟨fun a=>h5 (ak0 _ a),fun a=>h5 (akL _ a)⟩
variable{d:List UInt8}{f:Lt.Func}
theorem ZB{k:Nat}(j:Gd f.Blocks)(hk:k<f.Blocks.length)(g:toB f.Blocks k=[])(hp:d ∉ f.Params.map (·.Name))(ho:∀i,i<f.Blocks.length->i≠k->d ∉ phB f i/\d ∉ bj (bkB f i)):Bare f d k:=by
 have:∀i,Rc f.Blocks i->Bare f d i:=fun i h=>by
  induction h with
  |first _=>exact .first hp
  |next i k' _ hi b c ih=>
   have a:i≠k:=fun e=>by subst e;rw[g]at c;cases c
   exact .next i k' ih (ho i hi a).1 (ho i hi a).2 hi b c
 exact this k (j.re k hk)
theorem E3[Inhabited α](nm:α->List UInt8)(s:List UInt8):∀l:List α,(Lt.fnd nm s l).2=true->∃x∈l,nm x=s
 |[],h=>by cases h
 |x::r,h=>by
  have ih:=E3 nm s r
  unfold Lt.fnd at h
  grind
theorem zy:∀(l:List Lt.Block)(n:Nat),Lt.blocks l n=true->∀b∈l,Lt.block b=true
 |[],_,_,_,h=>by cases h
 |x::r,n,h,b,hb=>by
  have ih:=zy r
  unfold Lt.blocks at h
  grind
variable{p:Lt.Program}{x:Lt.Instr}
theorem Xg(h:bH p=true)(hf:f∈p.Funcs){b:Lt.Block}(hb:b∈f.Blocks)(hx:x∈b.Code):Lt.instr x=true:=by
 unfold bH at h;simp only[aiW]at h;have h2:=ajB.1 h.2.2.2 f hf
 unfold ay at h2;simp only[aiW]at h2;have h3:=zy _ _ h2.2 b hb
 unfold Lt.block at h3;simp only[aiW]at h3;exact ajB.1 h3.2.2 x hx
theorem WK(hi:Lt.instr x=true)(hv:qd p f x=true)(ho:nh p f=true)(hd:x.Dst≠[]):(bT f.Blocks).count x.Dst<=1:=by
 unfold qd tg at hv;simp only[aiW]at hv;have hk:=hv.1.1
 have a:lS f x=true:=by
  unfold oV at hk
  grind
 have c:(Lt.Of x.Op).1.Dst=true:=by
  unfold Lt.instr at hi;simp only[aiW]at hi
  grind
 have hr:(lK f x.Dst).2=true:=by
  unfold lS at a
  grind
 unfold nh at ho;simp only[aiW,ajB,decide_eq_true_eq]at ho;unfold lK KZ at hr;have k1:=E3 (fun v:Lt.Var=>v.Name) x.Dst f.Params
 have k2:=E3 (fun v:Lt.Var=>v.Name) x.Dst f.Vars
 by_cases hc:(Lt.fnd (fun v:Lt.Var=>v.Name) x.Dst f.Params).2=true
 ·obtain⟨v,b,e⟩:=k1 hc;have:=ho.2.1 v b
  rw[e]at this;omega
 ·rw[if_neg hc]at hr;obtain⟨v,b,e⟩:=k2 hr;have:=ho.1 v b
  rw[e]at this;omega
theorem X4(ho:nh p f=true)(hd:d∈bT f.Blocks):d ∉ f.Params.map (·.Name):=fun a=>by
 unfold nh at ho;simp only[aiW,ajB,decide_eq_true_eq]at ho;obtain⟨v,hv,rfl⟩:=ajK.1 a;have:=ho.2.1 v hv
 have:=List.count_pos_iff.2 hd
 omega
theorem Ov(b:Lt.Block){i:Nat}(hi:i<b.Code.length)(v:List UInt8):v∈dp b (i+1) ↔ v∈dp b i\/(v=(b.Code.getD i default).Dst/\v≠[]):=by
 unfold dp;rw[aB _ hi]
 grind
theorem BZ(p:Lt.Program)(hp:Yi p)(KK:Bool->Prop)(h:KK (Rm p)):oZ p KK:=by
 obtain⟨okP,hr⟩:=hp;have h:KK true:=h
 unfold oZ;dsimp only;intro J hJ;refine ifk (fun hc=>absurd hc (by decide)) (fun _=>⟨⟨okP,by decide⟩,ifk (fun hc=>hJ _ h) (fun hc=>?_)⟩);have hc:Lt.Few p 6000=true:=by simpa using hc
 obtain⟨hs,hu,hl⟩:=hr hc;refine⟨hs,hJ _ (ifk (fun _=>h) (fun d=>?_))⟩;have d:dq p=0:=by simpa using d
 obtain⟨h1,h2,h3,h5⟩:=(ad9 p).1 d;have e:=DZ h1
 have hq:oI (oy p)=(p,0,0):=N0 h1 okP hl
 have ht:nb p=(oy p,0):=by
  unfold nb;rw[if_pos h1,if_pos (by rw[<- e];exact hl),e]
 refine⟨okP,fun J3 T=>?_⟩;simp only[ht,hq,decide_true,d,Bool.not_true,ai8,if_false];refine⟨hs,T _ (ifk (fun hc=>by simp at hc) (fun _=>?_))⟩;refine cK p.Funcs (fun _=>True) (fun R i f r hi hx K ih _=>?_) (fun R _=>?_) trivial
 rotate_left
 ·intro _;rw[if_neg (by simp)];exact h
 intro hl;rw[if_pos (aX hi),Int.toNat_natCast,hx];obtain⟨g1,g2,g3,g4,g5,g6⟩:=h5 f K;obtain⟨q1,q2,q3,q4,q5,q6,q7⟩:=hs.2 f K;obtain⟨af,S⟩:=hu f K;have hg:Gd f.Blocks:=yx.1 g1
 have o:=yx.1 g6
 refine⟨⟨by omega,hi⟩,?_⟩;refine cK f.Vars (fun _=>True) (fun R7 j v r hj hv O V _=>?_) (fun R7 _=>?_) trivial
 ·intro P;rw[if_pos (aX hj),Int.toNat_natCast,hv];have B:FW f v.Name=1:=by
   unfold nh at g5;simp only[aiW,ajB,decide_eq_true_eq]at g5;exact g5.1 v O
  exact⟨⟨by omega,hj⟩,q3,ifk (fun hc=>by simp[B]at hc) (fun _=>V P trivial)⟩
 intro _;rw[if_neg (by simp)];refine⟨⟨⟨q4,hg,q5,q6⟩,by omega⟩,fun y⟨ae,Y⟩=>?_⟩;refine cK f.Blocks (fun _=>True) (fun R9 k b r hk hb m U _=>?_) (fun R9 _=>?_) trivial
 rotate_left
 ·intro _;rw[if_neg (by simp)];exact ih hl trivial
 intro L;rw[if_pos (aX hk),Int.toNat_natCast,hb];obtain⟨w1,w2⟩:=Y k hk;have c:bkB f k=b:=hb
 have W:=S b m
 refine⟨⟨by omega,by omega⟩,?_⟩;refine au _ b.Code.length (fun j v=>v.2=(j:Int)/\v.1.length<=xR f+j/\∀w,w∈v.1 ↔ (¬ Bare f w k\/w∈phB f k)\/w∈dp b j) (fun N j v hj⟨e,hn,hw⟩q=>?_) (fun N v⟨e,hn,hw⟩=>?_) _ ⟨rfl,w1,fun w=>by rw[w2 w];simp[dp]⟩
 rotate_left
 ·obtain⟨v1,v2⟩:=v;dsimp only at e;subst e;refine⟨⟨by omega,hk⟩,fun _=>?_⟩;rw[if_neg (by simp)];exact U L trivial
 obtain⟨set,v2⟩:=v;dsimp only at e hn hw⊢;subst e;refine⟨⟨by omega,hk⟩,fun aa=>?_⟩;rw[if_pos (aX hj),Int.toNat_natCast];have g:=aQ b.Code hj
 have A:=Ov b hj
 have l:=(o.1 k hk).1 j (by rw[c];exact hj)
 rw[c]at l;have a:=fun hc hd=>@X0 f (b.Code.getD j default).Dst k j hc hk (by rw[c];exact hj) (by rw[c]) hd
 rw[c]at a;generalize hxe:b.Code.getD j default=x at g A l a;intro ab s;refine⟨⟨by omega,hk⟩,⟨by omega,hj⟩,q7 b m x g,fun z hz=>?_⟩;refine cK z (fun _=>True) (fun M n u r I X Q E _=>?_) (fun M _=>?_) trivial
 ·intro H;rw[if_pos (aX I),Int.toNat_natCast,X];refine⟨⟨by omega,I⟩,ifk (fun hc=>?_) (fun _=>E H trivial)⟩;have t:=(hw u).2 (l u ((hz u).1 Q))
  simp[KX,t]at hc
 intro _;rw[if_neg (by simp)];refine ifk (fun hc=>?_) (fun hc=>s _ (q _ ⟨ac kQ1,by dsimp only;omega,fun w=>?_⟩))
 rotate_left
 ·have hc:x.Dst=[]:=by simpa using hc
  rw[hw w,A w,hc]
  grind
 have hd:x.Dst≠[]:=by simpa using hc
 intro Z D;have on:Z false:=D _ (by
  dsimp only;rw[if_neg (by simp)];refine⟨show set.length<=1000000 from by omega,fun ad⟨a1,a2⟩=>s _ (q _ ⟨ac kQ1,by dsimp only;omega,fun w=>?_⟩)⟩;dsimp only;rw[a2 w,hw w,A w]
  grind)
 refine ifk (fun d=>⟨⟨by omega,hk⟩,?_⟩) (fun _=>on);rw[decide_eq_false]
 ·exact on
 intro C;have C:toB f.Blocks k=[]:=by
  show(bkB f k).End.To=[]
  rw[c];exact aj5 kQ1
 have hv:qd p f x=true:=by
  unfold oF at g3;have:=ajB.1 g3 b m
  unfold BG at this;simp only[aiW]at this;exact ajB.1 this.1 x g
 have G:=WK (Xg h1 K m g) hv g5 hd
 obtain⟨n1,n2,n3⟩:=a G hd;have F:x.Dst∈bT f.Blocks:=by
  unfold bT bj;refine akB.2 ⟨b,m,akL _ (List.mem_filter.2 ⟨alI g,by simpa using hd⟩)⟩
 have t:x.Dst∈set:=by simpa[KX]using d
 rcases(hw x.Dst).1 t with(hb1|hb1)|hb1
 ·exact hb1 (ZB hg hk C (X4 g5 F) n3)
 ·exact n1 hb1
 ·exact n2 hb1
end Go.Am
end

section
namespace Go.Am
open Go Go.Proofs
set_option maxRecDepth 100000
section
def tS:List (Nat->Sp):=[(.sl · .bo)]
noncomputable def RR:Cb 17:=b0 ((ad IW (ad zI eZ)):Ev []) f17 (aN tS 0x101041 [0x80000000]) [] [.bo] (fun _=>JO )
def tW:An:=.s .l (.s (.j ⟨[1],[.loc 1],[],[.sl 29 .bo]⟩ .l (.c (.s .l .l) .l)) (.s .l (.s .l (.s (.j ⟨[1],[.loc 1],[],[.sl 52 .bo]⟩ .l (.c (.s .l .l) .l)) (.s (.s .l (.b (.lp ⟨[1],[.loc 1],[],[.sl 8 (.i .i64)]⟩ (.s (.s .l (.c .l .l)) (.s (.b (.s .l (.s (.s .l (.b (.lp ⟨[1,8,9],[.loc 1,.loc 9],[],[.sl 10 (.i .i64)]⟩ (.s (.s .l (.c .l .l)) (.s (.b (.s .l (.c (.s .l .l) .l))) .l))))) (.s .l (.s .l (.b (.lp ⟨[1,8,9,11],[.loc 1,.loc 9],[],[.sl 12 (.i .i64)]⟩ (.s (.s .l (.c .l .l)) (.s (.b (.s .l (.s .l (.b (.lp ⟨[1,8,9,11,12],[.loc 1,.loc 9],[],[.sl 13 (.sl .s),.sl 14 (.i .i64)]⟩ (.s (.s .l (.c .l .l)) (.j ⟨[1,8,9,11,12,14],[.loc 1,.loc 9],[],[.sl 13 (.sl .s)]⟩ (.b (.s .l (.s .l (.s (.s .l (.b (.lp ⟨[1,8,9,11,12,13,14,15,16],[.loc 1,.loc 15,.loc 9],[],[.sl 17 (.i .i64)]⟩ (.s (.s .l (.c .l .l)) (.s (.b (.s .l (.c (.s .l .l) .l))) .l))))) (.s .l (.c (.s (.j ⟨[1,8,9,11,12,13,14,15],[.loc 1,.loc 15,.loc 9],[],[.sl 146 .bo]⟩ .l (.c (.s .l .l) .l)) .l) .l)))))) .l))))))) .l))))))))) .l))))) (.s .l .l))))))
noncomputable abbrev e_ValidOnce:Ev []:=(ad ahM (ad ME (ad IW (ad RR (ad zI (ad Sa (ad ZT (ad R0 (ad Z1 (ad IP eZ))))))))))
theorem BJ(a:Lt.Program)(KK:(Bool)->Prop):oZ a KK=IH e_ValidOnce.en f4 tW [.st .Program] [.bo] a KK:=kQ0
theorem E1:En.ok e_ValidOnce.en:=e_ValidOnce.ok
end
end Go.Am
end

section
namespace Go.Am
open Go
def Bd(d:Nat):Int:=562949953421312+6001*((min d 10:Nat):Int)
theorem PO(d:Nat):562949953421312<=Bd d/\Bd d<=562949953621322:=by grind [Bd]
def Pc(d:Nat)(b:Int)(w:Nat)(r:Int):Prop:=(6000<r/\r<=Bd d)\/(r=b+(w:Int)/\r<=6000)
def short(s:List UInt8):Prop:=s.length<=140737488355328
variable{d:Nat}{α:Type}
theorem ly(a:List α->Int->Int)(s:Int->α->Int)(w:α->Nat)(h0:∀b,a [] b=b)(h1:∀x r b,a (x::r) b=if b<=6000 then a r (s b x)else b)(ok:α->Prop)
  (hs:∀b x,ok x->0<=b->b<=6000->Pc d b (w x) (s b x)):∀(l:List α)(b:Int),(∀x∈l,ok x)->0<=b->b<=Bd d->Pc d b (l.map w).sum (a l b)
 |[],b,_,h2,h3=>by
  grind [Pc]
 |x::r,b,c,h2,h3=>by
  rw[h1];by_cases hb:b<=6000
  ·rw[if_pos hb];have hx:=hs b x (c x (by simp)) h2 hb
   have e:=PO d
   have h4:0<=s b x/\s b x<=Bd d:=by grind [Pc]
   have ih:=ly a s w h0 h1 ok hs r (s b x) (fun y hy=>c y (by simp[hy])) h4.1 h4.2
   grind [Pc]
  grind [Pc]
variable{k:Nat}{n:Int}
theorem lJ(h1:0<=n)(h2:n<=1152921504606846976)(h3:k<=1152921504606846976):Lt.plus n k=n+(k:Int):=by
 grind [dt]
theorem lO(h1:0<=n)(h2:n<=4611686018427387904):i64.wrap n=n:=dt kQ1 kQ1
def Y1(v:Lt.Var):Nat:=v.Name.length+v.Type_.length
def rW(l:List Lt.Var):Nat:=l.length+(l.map Y1).sum
def Y0(a:Lt.Arg):Nat:=a.S.length
def vn(l:List Lt.Arg):Nat:=l.length+(l.map Y0).sum
def LF(b:Lt.Bind):Nat:=1+b.Name.length+b.A.S.length
def qe(f:Lt.Frame):Nat:=f.Func.length+f.Block.length+(f.Vars.map LF).sum
def LG(o:Lt.Virt):Nat:=o.Class.length+vn o.Vals
def i7(x:Lt.Instr):Nat:=1+x.Dst.length+x.Frames.length+x.Objs.length+x.Name.length+vn x.Args+(x.Frames.map qe).sum+(x.Objs.map LG).sum
def wIn(b:Lt.In):Nat:=1+b.Block.length+b.A.S.length
def yh(x:Lt.Phi):Nat:=1+x.Dst.length+(x.Ins.map wIn).sum
def wTo(t:List UInt8):Nat:=1+t.length
def dx(b:Lt.Block):Nat:=1+b.Name.length+b.End.A.S.length+(b.End.To.map wTo).sum+(b.Phis.map yh).sum+(b.Code.map i7).sum
def iD(f:Lt.Func):Nat:=1+f.Name.length+f.Result.length+rW f.Params+rW f.Vars+(f.Blocks.map dx).sum
def wX(c:Lt.Class):Nat:=c.Name.length+rW c.Fields
def ru(x:Lt.Extern):Nat:=1+x.Name.length
def xT(p:Lt.Program):Nat:=rW p.Globals+(p.Classes.map wX).sum+(p.Externs.map ru).sum+(p.Funcs.map iD).sum
def jN(v:Lt.Var):Prop:=short v.Name/\short v.Type_
def cZ(a:Lt.Arg):Prop:=short a.S
def YC(b:Lt.Bind):Prop:=short b.Name/\cZ b.A
def Oq(f:Lt.Frame):Prop:=short f.Func/\short f.Block/\∀b∈f.Vars,YC b
def l9(o:Lt.Virt):Prop:=short o.Class/\∀a∈o.Vals,cZ a
def gl(x:Lt.Instr):Prop:=short x.Dst/\short x.Name/\(∀a∈x.Args,cZ a)/\(∀f∈x.Frames,Oq f)/\∀o∈x.Objs,l9 o
def sIn(b:Lt.In):Prop:=short b.Block/\cZ b.A
def ma(x:Lt.Phi):Prop:=short x.Dst/\∀i∈x.Ins,sIn i
def dL(b:Lt.Block):Prop:=short b.Name/\cZ b.End.A/\(∀t∈b.End.To,short t)/\(∀x∈b.Phis,ma x)/\∀i∈b.Code,gl i
def gz(f:Lt.Func):Prop:=short f.Name/\short f.Result/\(∀v∈f.Params,jN v)/\(∀v∈f.Vars,jN v)/\∀b∈f.Blocks,dL b
def eG(c:Lt.Class):Prop:=short c.Name/\∀v∈c.Fields,jN v
def QJ(p:Lt.Program):Prop:=(∀c∈p.Classes,eG c)/\(∀v∈p.Globals,jN v)/\(∀e∈p.Externs,short e.Name)/\∀f∈p.Funcs,gz f
variable{r:Int}
theorem qc{b0:Int}{w0:Nat}(hd:d < 9)(h0:0<=b0)(h:Pc (d+1) b0 w0 n)(hk:Pc d 0 k r):Pc (d+1) b0 (w0+k) (Lt.upto 6000 n r):=by
 grind [Lt.upto,Pc,Bd,lO]
theorem FC{b0:Int}{w0:Nat}(h0:0<=b0)(h:Pc d b0 w0 n)(hk:k<=140737488355328):Pc d b0 (w0+k) (if n<=6000 then Lt.plus n k else n):=by
 grind [Pc,Bd,lJ]
theorem XE(hk:k<=140737488355328):Pc d 0 k (k:Int):=by grind [Pc,Bd]
theorem ZR(l:List Lt.Var)(b:Int)(h:∀v∈l,jN v)(h0:0<=b)(h1:b<=Bd d):Pc d b (l.map Y1).sum (zF 6000 l b):=by
 refine ly (zF 6000) (fun n v=>if Lt.plus n v.Name.length<=6000 then Lt.plus (Lt.plus n v.Name.length) v.Type_.length else Lt.plus n v.Name.length) Y1 (fun _=>rfl) (fun _ _ _=>rfl) jN (fun b x hx h0 h1=>?_) l b h h0 h1;have hn:Pc d b x.Name.length (Lt.plus b x.Name.length):=by
  have:=hx.1;grind [short,Pc,Bd,lJ]
 exact FC h0 hn hx.2
theorem lz{d:Nat}(l:List Lt.Var)(h:∀v∈l,jN v):Pc d 0 (rW l) (di l 6000):=by
 unfold di rW;split
 ·grind [lO,Pc,Bd]
 ·have:=ZR (d:=d) l (l.length:Int) h kQ1 (by have:=PO d;omega)
  grind [Pc]
theorem ZN(l:List Lt.Arg)(b:Int)(h:∀v∈l,cZ v)(h0:0<=b)(h1:b<=Bd d):Pc d b (l.map Y0).sum (zE 6000 l b):=by
 refine ly (zE 6000) (fun n v=>Lt.plus n v.S.length) Y0 (fun _=>rfl) (fun _ _ _=>rfl) cZ (fun b x hx h0 h1=>?_) l b h h0 h1
 grind [cZ,short,Pc,Bd,Y0,lJ]
theorem xv{d:Nat}(l:List Lt.Arg)(h:∀v∈l,cZ v):Pc d 0 (vn l) (fM l 6000):=by
 unfold fM vn;split
 ·grind [lO,Pc,Bd]
 ·have:=ZN (d:=d) l (l.length:Int) h kQ1 (by have:=PO d;omega)
  grind [Pc]
variable{b:Int}
theorem KG(h0:0<=b)(h1:b<=6000)(hk:k<=140737488355328):Pc d b (1+k) (Lt.plus (i64.wrap (b+1)) k):=by
 grind [lO,Pc,Bd]
theorem VX(l:List Lt.Bind)(b:Int)(h:∀v∈l,YC v)(h0:0<=b)(h1:b<=Bd d):Pc d b (l.map LF).sum (pi 6000 l b):=by
 refine ly (pi 6000) (fun n b=>if Lt.plus (i64.wrap (n+1)) b.Name.length<=6000 then Lt.plus (Lt.plus (i64.wrap (n+1)) b.Name.length) b.A.S.length else Lt.plus (i64.wrap (n+1)) b.Name.length) LF (fun _=>rfl) (fun _ _ _=>rfl) YC (fun b x hx h0 h1=>?_) l b h h0 h1;exact FC h0 (KG h0 h1 hx.1) hx.2
theorem aeY(l:List Lt.In)(b:Int)(h:∀v∈l,sIn v)(h0:0<=b)(h1:b<=Bd d):Pc d b (l.map wIn).sum (IK 6000 l b):=by
 refine ly (IK 6000) (fun n b=>if Lt.plus (i64.wrap (n+1)) b.Block.length<=6000 then Lt.plus (Lt.plus (i64.wrap (n+1)) b.Block.length) b.A.S.length else Lt.plus (i64.wrap (n+1)) b.Block.length) wIn (fun _=>rfl) (fun _ _ _=>rfl) sIn (fun b x hx h0 h1=>?_) l b h h0 h1;exact FC h0 (KG h0 h1 hx.1) hx.2
theorem ja{w w':Nat}(h0:0<=b)(h:Pc d b w n)(h':0<=n->n<=Bd d->Pc d n w' r):Pc d b (w+w') r:=by
 have a:=PO d
 grind [Pc]
theorem N5(h0:0<=b)(h1:b<=6000)(hk:k<=140737488355328):Pc d b k (Lt.plus b k):=by
 grind [lJ,Pc,Bd]
theorem RJ(l:List Lt.Frame)(b:Int)(h:∀v∈l,Oq v)(h0:0<=b)(h1:b<=Bd d):Pc d b (l.map qe).sum (lq 6000 l b):=by
 refine ly (lq 6000) (fun n f=>pi 6000 f.Vars (if Lt.plus n f.Func.length<=6000 then Lt.plus (Lt.plus n f.Func.length) f.Block.length else Lt.plus n f.Func.length)) qe (fun _=>rfl) (fun _ _ _=>rfl) Oq (fun b x hx h0 h1=>?_) l b h h0 h1;exact ja h0 (FC h0 (N5 h0 h1 hx.1) hx.2.1) (VX x.Vars _ hx.2.2)
theorem ZP(hd:d < 9)(l:List Lt.Virt)(b:Int)(h:∀v∈l,l9 v)(h0:0<=b)(h1:b<=Bd (d+1)):Pc (d+1) b (l.map LG).sum (t7 6000 l b):=by
 refine ly (t7 6000) (fun n o=>if Lt.plus n o.Class.length<=6000 then i64.wrap (Lt.plus n o.Class.length+fM o.Vals 6000)else Lt.plus n o.Class.length) LG (fun _=>rfl) (fun _ _ _=>rfl) l9 (fun b x hx h0 h1=>?_) l b h h0 h1;exact qc hd h0 (N5 h0 h1 hx.1) (xv _ hx.2)
theorem ahL(l:List (List UInt8))(b:Int)(h:∀v∈l,short v)(h0:0<=b)(h1:b<=Bd d):Pc d b (l.map wTo).sum (Lt.cTo 6000 l b):=by
 refine ly (Lt.cTo 6000) (fun n t=>Lt.plus (i64.wrap (n+1)) t.length) wTo (fun _=>rfl) (fun _ _ _=>rfl) short (fun b x hx h0 h1=>?_) l b h h0 h1;exact KG h0 h1 hx
theorem ZQ(l:List Lt.Phi)(b:Int)(h:∀v∈l,ma v)(h0:0<=b)(h1:b<=Bd d):Pc d b (l.map yh).sum (t8 6000 l b):=by
 refine ly (t8 6000) (fun n x=>IK 6000 x.Ins (Lt.plus (i64.wrap (n+1)) x.Dst.length)) yh (fun _=>rfl) (fun _ _ _=>rfl) ma (fun b x hx h0 h1=>?_) l b h h0 h1;exact ja h0 (KG h0 h1 hx.1) (aeY x.Ins _ hx.2)
theorem VH{w:Nat}(hd:d < 9)(h0:0<=b)(hn:n=b+(w:Int))(h1:n<=6000)(hk:Pc d 0 k r):Pc (d+1) b (w+k) (i64.wrap (n+r)):=by
 grind [Pc,Bd,lO]
theorem EY(x:Lt.Instr)(h:gl x):Pc 1 0 (i7 x) (gJ x 6000):=by
 obtain⟨h1,h2,h3,h4,h5⟩:=h;unfold short at h1 h2;unfold gJ;split
 ·grind [lO,Pc,Bd]
 ·rename_i hc;simp only[aj6,decide_eq_true_eq,not_or]at hc;have e:Lt.plus (Lt.plus (Lt.plus 1 x.Dst.length) x.Frames.length) x.Objs.length=1+(x.Dst.length:Int)+x.Frames.length+x.Objs.length:=by
   have f:=lJ (n:=1) (k:=x.Dst.length) kQ1 kQ1 kQ1
   grind [lJ]
  have d:Pc 1 0 (1+x.Dst.length+x.Frames.length+x.Objs.length) (Lt.plus (Lt.plus (Lt.plus 1 x.Dst.length) x.Frames.length) x.Objs.length):=by
   grind [Pc,Bd]
  have b:=qc kQ1 kQ1 d (XE h2)
  have c:=qc kQ1 kQ1 b (xv x.Args h3)
  have a:=ja kQ1 c (RJ x.Frames _ h4)
  exact ja kQ1 a (ZP kQ1 x.Objs _ h5)
theorem ZO(l:List Lt.Instr)(b:Int)(h:∀v∈l,gl v)(h0:0<=b)(h1:b<=Bd 2):Pc 2 b (l.map i7).sum (rK 6000 l b):=by
 refine ly (rK 6000) (fun n x=>i64.wrap (n+gJ x 6000)) i7 (fun _=>rfl) (fun _ _ _=>rfl) gl (fun b x hx h0 h1=>?_) l b h h0 h1;have:=VH (b:=b) (w:=0) (n:=b) kQ1 h0 kQ1 h1 (EY x hx)
 grind
theorem EX(x:Lt.Block)(h:dL x):Pc 2 0 (dx x) (gI x 6000):=by
 obtain⟨h1,h2,h3,h4,h5⟩:=h;unfold cZ at h2;unfold short at h1 h2;unfold gI;split
 ·grind [lO,Pc,Bd]
 ·have d:Pc 2 0 (1+x.Name.length) (Lt.plus 1 x.Name.length):=by
   rw[lJ kQ1 kQ1 kQ1];grind [Pc,Bd]
  have c:=qc kQ1 kQ1 d (XE h2)
  have b:=ja kQ1 c (ahL x.End.To _ h3)
  have a:=ja kQ1 b (ZQ x.Phis _ h4)
  exact ja kQ1 a (ZO x.Code _ h5)
theorem RG(l:List Lt.Block)(b:Int)(h:∀v∈l,dL v)(h0:0<=b)(h1:b<=Bd 3):Pc 3 b (l.map dx).sum (nC 6000 l b):=by
 refine ly (nC 6000) (fun n x=>i64.wrap (n+gI x 6000)) dx (fun _=>rfl) (fun _ _ _=>rfl) dL (fun b x hx h0 h1=>?_) l b h h0 h1;have:=VH (b:=b) (w:=0) (n:=b) kQ1 h0 kQ1 h1 (EX x hx)
 grind
theorem Q1(f:Lt.Func)(h:gz f):Pc 3 0 (iD f) (nr f 6000):=by
 obtain⟨h1,h2,h3,h4,h5⟩:=h;unfold short at h1 h2;unfold nr;split
 ·grind [lO,Pc,Bd]
 ·have d:Pc 3 0 (1+f.Name.length) (Lt.plus 1 f.Name.length):=by
   rw[lJ kQ1 kQ1 kQ1];grind [Pc,Bd]
  have c:=qc kQ1 kQ1 d (XE h2)
  have b:=qc kQ1 kQ1 c (lz f.Params h3)
  have a:=qc kQ1 kQ1 b (lz f.Vars h4)
  exact ja kQ1 a (RG f.Blocks _ h5)
theorem VY(l:List Lt.Func)(b:Int)(h:∀v∈l,gz v)(h0:0<=b)(h1:b<=Bd 4):Pc 4 b (l.map iD).sum (nD 6000 l b):=by
 refine ly (nD 6000) (fun n x=>i64.wrap (n+nr x 6000)) iD (fun _=>rfl) (fun _ _ _=>rfl) gz (fun b x hx h0 h1=>?_) l b h h0 h1;have:=VH (b:=b) (w:=0) (n:=b) kQ1 h0 kQ1 h1 (Q1 x hx)
 grind
theorem Mx(hd:d < 9)(l:List Lt.Class)(b:Int)(h:∀v∈l,eG v)(h0:0<=b)(h1:b<=Bd (d+1)):Pc (d+1) b (l.map wX).sum (kp 6000 l b):=by
 refine ly (kp 6000) (fun n c=>if Lt.plus n c.Name.length<=6000 then i64.wrap (Lt.plus n c.Name.length+di c.Fields 6000)else Lt.plus n c.Name.length) wX (fun _=>rfl) (fun _ _ _=>rfl) eG (fun b x hx h0 h1=>?_) l b h h0 h1;exact qc hd h0 (N5 h0 h1 hx.1) (lz _ hx.2)
theorem My(l:List Lt.Extern)(b:Int)(h:∀v∈l,short v.Name)(h0:0<=b)(h1:b<=Bd d):Pc d b (l.map ru).sum (js 6000 l b):=by
 refine ly (js 6000) (fun n t=>Lt.plus (i64.wrap (n+1)) t.Name.length) ru (fun _=>rfl) (fun _ _ _=>rfl) (fun v=>short v.Name) (fun b x hx h0 h1=>?_) l b h h0 h1;exact KG h0 h1 hx
variable{p:Lt.Program}
theorem adE(h:QJ p)(hf:Lt.Few p 6000=true):xT p<=6000/\p.Classes.length<=50:=by
 obtain⟨h1,h2,h3,h4⟩:=h;unfold Lt.Few at hf;split at hf
 ·cases hf
 ·rename_i hc;simp only[aj6,decide_eq_true_eq,not_or]at hc;have b:=lz (d:=4) p.Globals h2
  have a:=ja kQ1 b (Mx (d:=3) kQ1 p.Classes _ h1)
  have c:=ja kQ1 a (My p.Externs _ h3)
  grind [VY,Pc,Bd,xT]
theorem jZ(w:α->Nat):∀(l:List α)(x:α),x∈l->w x<=(l.map w).sum
 |y::l,x,h=>by
  rw[aiZ,List.sum_cons];rcases ai7.1 h with rfl|h
  ·omega
  ·have:=jZ w l x h;omega
theorem iC(w:α->Nat)(h:∀x,1<=w x):∀l:List α,l.length<=(l.map w).sum
 |[]=>ajW _
 |y::l=>by
  have:=iC w h l
  grind
theorem Gg(g w:α->Nat)(h:∀x,g x<=w x):∀l:List α,(l.map g).sum<=(l.map w).sum
 |[]=>ai0 _
 |y::l=>by
  have:=Gg g w h l
  grind
theorem agQ(h:xT p<=6000):TV p/\p.Funcs.length<=1000000:=by
 unfold xT at h;have d:=iC iD (fun f=>by grind [iD]) p.Funcs
 have hf:∀f∈p.Funcs,iD f<=6000:=fun f hf=>by
  grind [jZ]
 refine⟨⟨fun f c=>?_,fun f c=>?_⟩,by omega⟩
 ·grind [iD,rW]
 ·have h1:=hf f c
  unfold iD rW at h1;have e:=iC dx (fun b=>by grind [dx]) f.Blocks
  have hb:∀b∈f.Blocks,dx b<=6000:=fun b hb=>by
   grind [jZ]
  have hi:∀b∈f.Blocks,∀x∈b.Code,i7 x<=6000:=fun b a x hx=>by
   grind [jZ,dx]
  refine⟨fun b a x hx=>?_,⟨by omega,fun b a=>?_⟩,by omega,fun b a=>?_,fun b a x hx=>?_⟩
  ·grind [i7,vn]
  ·grind [dx,iC,wTo]
  ·grind [dx,iC,yh,i7]
  ·have h2:=hi b a x hx
   unfold i7 vn at h2;have h3:=Gg (fun f:Lt.Frame=>f.Vars.length) qe (fun f=>by
    grind [iC,LF,qe]) x.Frames
   have h4:=Gg (fun o:Lt.Virt=>o.Vals.length) LG (fun o=>by grind [LG,vn]) x.Objs
   grind [fV,xS]
theorem rM{β:Type}(g:α->List β)(w:α->Nat)(k:Nat):∀(l:List α),(∀x∈l,(g x).length<=k*w x)->(l.flatMap g).length<=k*(l.map w).sum
 |[],_=>by simp
 |x::r,h=>by
  have h1:=h x (by simp)
  have h2:=rM g w k r (fun y hy=>h y (by simp[hy]))
  grind [Nat.mul_add]
theorem acS(w:α->Nat):∀(l:List α),(l.map fun x=>1+w x).sum=l.length+(l.map w).sum
 |[]=>by simp
 |x::r=>by
  have:=acS w r
  grind
def lw(ws:List (List UInt8)):Nat:=(ws.map fun w=>w.length+1).sum
theorem qM(a b:List (List UInt8)):lw (a++b)=lw a+lw b:=by simp[lw]
theorem fS(a:List UInt8)(b:List (List UInt8)):lw (a::b)=a.length+1+lw b:=by rfl
theorem oh:lw []=0:=rfl
theorem adY:∀(ws:List (List UInt8))(b:Bool),(Lt.jw b ws).length<=lw ws
 |[],_=>by simp[Lt.jw]
 |w::r,b=>by
  have:=adY r true
  grind [Lt.jw,fS]
theorem lZ(ws:List (List UInt8)):(Lt.lnT ws).length<=lw ws+1:=by
 grind [adY,Lt.lnT]
theorem uS(h:Lt.inR n):(Ck n).length<=20:=gQ h
theorem wH{a:Lt.Arg}(h:a.ok):(ic a).length<=a.S.length+25:=by
 have h1:=uS h
 grind [oU,Ak,ic]
theorem afR(n:Nat):(gw.getD n default).length<=10:=by
 have h:∀w∈gw,w.length<=10:=by decide
 rw[List.getD];cases hn:gw[n]? with
 |none=>simp;exact ajW _
 |some w=>
  grind
theorem ab7(op:Int):(Lt.rOf op).1.Word.length<=10:=by
 grind [Lt.rOf,afR]
theorem s5(first:List UInt8)(hf:first.length<=6)(l:List Lt.Var):(wE first l).length<=20*rW l:=by
 have:=rM (fun v:Lt.Var=>Lt.lnT [first,v.Name,v.Type_]) (fun v=>1+Y1 v) 20 l (fun v _=>by
  grind [lZ,fS,oh,Y1])
 rw[acS]at this;exact this
variable{l:List Lt.Arg}
theorem Em(h:sk l):lw (l.map ic)<=30*vn l:=by
 induction l with
 |nil=>simp[lw]
 |cons a r ih=>
  have h1:=ih (fun x hx=>h x (ajM _ hx))
  have h2:=wH (h a (by simp))
  grind [vn,fS,Y0]
theorem IF(n:α->List UInt8)(a:α->Lt.Arg)(l:List α)(h:∀b∈l,(a b).ok):lw (l.flatMap fun b=>[n b,ic (a b)])<=30*(l.map fun b=>1+(n b).length+(a b).S.length).sum:=by
 induction l<;>grind [wH,fS,oh]
theorem SJ{f:Lt.Frame}(h:f.ok)(hn:Lt.inR f.At):(Lt.lnT (ox f)).length<=40*(1+qe f):=by
 have h1:=lZ (ox f)
 have h2:=IF (fun b:Lt.Bind=>b.Name) (fun b=>b.A) f.Vars (fun b hb=>h.2 b hb)
 have h3:=uS hn
 simp only[ox,qM,fS,oh,ai1,ai6]at h1;unfold qe;have:(f.Vars.map LF).sum=(f.Vars.map fun b=>1+b.Name.length+b.A.S.length).sum:=rfl
 grind [ox]
theorem YZ{o:Lt.Virt}(h:o.ok):(Lt.lnT (wG o)).length<=40*(1+LG o):=by
 have h1:=lZ (wG o)
 have h2:=Em (l:=o.Vals) h
 grind [wG,fS,LG]
theorem OL:lw ((l.take 1).map ic)+lw ((l.drop 1).map ic)=lw (l.map ic):=by
 grind [qM,aj8]
theorem WF{x:Lt.Instr}(h:x.ok)(hn:∀f∈x.Frames,Lt.inR f.At):(wC x).length<=40*i7 x:=by
 obtain⟨a,okF,okO⟩:=h;have h1:=lZ (Bi x)
 have h2:=Em a
 have h3:=ab7 x.Op
 have h4:=rM (fun f=>Lt.lnT (ox f)) (fun f=>1+qe f) 40 x.Frames (fun f hf=>SJ (okF f hf) (hn f hf))
 have h5:=rM (fun o=>Lt.lnT (wG o)) (fun o=>1+LG o) 40 x.Objs (fun o ho=>YZ (okO o ho))
 rw[acS]at h4 h5;have b:lw (K2 x)<=x.Dst.length+20:=by
  grind [K2,fS,oh]
 grind [Bi,OL,qM,fS,wC,i7]
theorem agS(l:List (List UInt8)):lw l=(l.map wTo).sum:=by
 grind [lw,wTo,ajG]
theorem S4(n:Nat):(([[],[106,117,109,112],[98,114,97,110,99,104],[114,101,116],[116,114,97,112]]:List (List UInt8)).getD n default).length<=10:=by
 match n with
 |0=>decide
 |1=>decide
 |2=>decide
 |3=>decide
 |4=>decide
 |n+5=>simp;exact ajW _
theorem aaI{t:Lt.Term}(h:t.ok):(K0 t).length<=70+t.A.S.length+(t.To.map wTo).sum:=by
 unfold K0;split
 ·simp
 ·have h1:=lZ (QB t)
  have h2:=wH h.1
  have h3:=uS h.2
  have h4:=S4 t.Kind.toNat
  have h5:=agS t.To
  unfold QB at h1⊢
  grind [lw]
theorem abX{x:Lt.Phi}(h:x.ok):(Lt.lnT (Bh x)).length<=40*yh x:=by
 have h1:=lZ (Bh x)
 have h2:=IF (fun b:Lt.In=>b.Block) (fun b=>b.A) x.Ins (fun b hb=>h.2 b hb)
 simp only[Bh,qM,fS,oh,ai1,ai6]at h1;unfold yh;have:(x.Ins.map wIn).sum=(x.Ins.map fun b=>1+b.Block.length+b.A.S.length).sum:=rfl
 grind [Bh]
theorem RA{b:Lt.Block}(h:b.ok)(hn:∀i∈b.Code,∀f∈i.Frames,Lt.inR f.At):(rh b).length<=100*dx b:=by
 have h1:=lZ [[98,108,111,99,107],b.Name]
 simp only[fS,oh,ai1,ai6]at h1;have h2:=rM (fun x=>Lt.lnT (Bh x)) yh 40 b.Phis (fun x hx=>abX (h.1 x hx))
 have h3:=rM wC i7 40 b.Code (fun x hx=>WF (h.2.1 x hx) (hn x hx))
 have h4:=aaI h.2.2
 grind [rh,dx]
variable{f:Lt.Func}
theorem W2(h:f.ok)(hn:∀b∈f.Blocks,∀i∈b.Code,∀r∈i.Frames,Lt.inR r.At):(wD f).length<=100*iD f:=by
 have h1:=lZ [[102,117,110,99],f.Name,f.Result]
 simp only[fS,oh,ai1,ai6]at h1;have h2:=rM rh dx 100 f.Blocks (fun x hx=>RA (h x hx) (hn x hx))
 grind [s5,wD,iD]
theorem Sw(c:Lt.Class):(ri c).length<=20*(1+wX c):=by
 grind [lZ,fS,oh,s5,ri,wX]
theorem MP{c:Lt.Extern}(h:Lt.inR c.N):(pX c).length<=40*ru c:=by
 grind [lZ,uS,fS,oh,ai1,pX,ru]
theorem Vh(hs:QJ p)(h:p.ok)(he:∀e∈p.Externs,Lt.inR e.N)(hn:∀f∈p.Funcs,∀b∈f.Blocks,∀i∈b.Code,∀r∈i.Frames,Lt.inR r.At)(hf:Lt.Few p 6000=true):(oy p).length<=4194304:=by
 obtain⟨hw,hc⟩:=adE hs hf;have h1:=rM ri (fun c=>1+wX c) 20 p.Classes (fun c _=>Sw c)
 rw[acS]at h1;have h2:=rM pX ru 40 p.Externs (fun x hx=>MP (he x hx))
 have h3:=rM wD iD 100 p.Funcs (fun x hx=>W2 (h x hx) (hn x hx))
 have h4:=s5 [103,108,111,98,97,108] (by decide) p.Globals
 have h5:(if p.SSA=true then Lt.lnT [[115,115,97]]else []).length<=10:=by split<;>decide
 unfold xT at hw;unfold oy;simp only[ai3];omega
theorem acY(h:xT p<=6000):bN p:=by
 obtain⟨⟨h1,h2⟩,_⟩:=agQ h;refine⟨h1,fun f i=>?_⟩;obtain⟨a,b,c,d,e⟩:=h2 f i;have hf:iD f<=6000:=by unfold xT at h;have:=jZ iD p.Funcs f i;omega
 have g:f.Blocks.length<=6000:=by
  have:=iC dx (fun b=>by unfold dx;omega) f.Blocks
  unfold iD at hf;omega
 refine⟨a,⟨g,fun b' hb=>?_⟩,⟨by omega,d⟩,b,c,d,e⟩;have h3:dx b'<=6000:=by have:=jZ dx f.Blocks b' hb;unfold iD at hf;omega
 have h4:=iC wTo (fun t=>by unfold wTo;omega) b'.End.To
 unfold dx at h3;refine⟨by omega,(d b' hb).1,fun x hx=>?_⟩;have h5:=jZ yh b'.Phis x hx
 have h6:=iC wIn (fun t=>by unfold wIn;omega) x.Ins
 have h7:x.Ins.length<=yh x:=by unfold yh;omega
 omega
theorem acW(hf:iD f<=6000):xR f<=100000/\∀b∈f.Blocks,b.Code.length<=100000:=by
 have hb:∀b:Lt.Block,b.Phis.length+b.Code.length<=dx b:=fun b=>by
  have h1:=iC yh (fun x=>by unfold yh;omega) b.Phis
  have h2:=iC i7 (fun x=>by unfold i7;omega) b.Code
  unfold dx;omega
 have h3:=Gg (fun b:Lt.Block=>b.Phis.length+b.Code.length) dx hb f.Blocks
 have e:(f.Blocks.flatMap fun b=>b.Phis.map (·.Dst)++b.Code.map (·.Dst)).length=(f.Blocks.map fun b=>b.Phis.length+b.Code.length).sum:=by
  rw[List.length_flatMap];simp
 unfold iD rW at hf;refine⟨?_,fun b a=>?_⟩
 ·unfold xR;rw[ai3,ai2,e];omega
 ·have h4:=jZ dx f.Blocks b a
  have:=hb b;omega
theorem agE(hs:QJ p)(h:p.ok)(he:∀e∈p.Externs,Lt.inR e.N)(hn:∀f∈p.Funcs,∀b∈f.Blocks,∀i∈b.Code,∀r∈i.Frames,Lt.inR r.At):Yi p:=
 ⟨h,fun hf=>by
  have hw:=(adE hs hf).1
  refine⟨acY hw,fun f a=>acW ?_,Vh hs h he hn hf⟩;have h4:=jZ iD p.Funcs f a
  unfold xT at hw;omega⟩
end Go.Am
end
