/-
  Part 23: AmJoinG · AmKD6 · AmNice47 · AmG47 · AmL47 · AmKSo · AmFew6a · AmFew6 · AmFew41 · AmFew42.
-/
import Derived.Test.YtgpedlcblhiklaaGreatDoorSo22
import Derived.Lib.Builder
set_option linter.unusedSimpArgs false
set_option linter.unusedVariables false
set_option linter.unusedSectionVars false
set_option linter.unnecessarySimpa false
open Lt
open Go.Proofs.Tryz
open Go.IntKind (i64)
section
namespace Go.Proofs
open Go Go.RowKit
def Wd(w:World)(v:Value)(ws:List (List UInt8)):Prop:=∃a c,v=.slice a ws.length c/\ws.length<=4611686018427387904/\∀j,j<ws.length->∃b o,a=some ⟨b,o,none⟩/\w.cell? ⟨b,o+j,none⟩=some (.string ⟨(ws.getD j []).toArray⟩)
def Lsm(w:World)(v:Value)(ls:List Lt.Line):Prop:=∃a c,v=.slice a ls.length c/\ls.length<=4611686018427387904/\∀i,i<ls.length->∃b o u,a=some ⟨b,o,none⟩/\w.cell? ⟨b,o+i*2,none⟩=some (.int .i64 (ls.getD i default).N)/\w.cell? ⟨b,o+i*2+1,none⟩=some u/\Wd w u (ls.getD i default).Words
variable{b:Nat}{w:World}{y:Value}
theorem zB{w':World}(h:Below w.heap.size w w'){o:Nat}(hc:w.cell? ⟨b,o,none⟩=some y):w'.cell? ⟨b,o,none⟩=some y:=by
 have:=h.block b (World.block_lt_of_cell? _ _ hc)
 unfold World.cell? at hc⊢;rw[this];exact hc
abbrev bl(B b:Nat)(l:List UInt8)(w:World):Prop:=Lib.IsBuilder 158 5 B b (Lib.byteCells l) w
variable{B:Nat}{l:List UInt8}
theorem Uv{o:Obj}(h:bl B b l w):bl B b l (w.alloc o):=by
 have key:∀p,Lib.BuilderAt 158 5 B b p (Lib.byteCells l) w->Lib.BuilderAt 158 5 B b p (Lib.byteCells l) (w.alloc o):=fun p h=>by
  have d:=h.lt
  obtain⟨e,v,hb,a,c⟩:=h;exact⟨e,v,by rw[Lib.alloc_old w o b d];exact hb,a.alloc o,c⟩
 exact h.imp (key _) (key _)
def tI(st:Act)(k:Nat):Nat:=match st.tmps.getD k undef with
 |.int _ z=>z.toNat
 |_=>0
theorem wB{c:UInt8}(h:bl B b l w)(hl:l.length+1<=140737488355328)(a:B<=w.heap.size):Calls prog 83 #[.pointer (some ⟨b,0,none⟩),.int .u8 c.toNat] w fun e w'=>e=.returned .nilIface/\bl B b (l++[c]) w'/\Below B w w':=
 (Tryz.bldWriteByte B b _ _ w h (by simpa[Lib.byteCells]using hl) a).mono (by
  rintro e w' ⟨rfl,h,k⟩
  exact⟨rfl,.inr (by simpa[Lib.byteCells]using h),k⟩)
theorem wS{s:List UInt8}(h:bl B b l w)(hl:l.length+s.length<=140737488355328)(a:B<=w.heap.size):Calls prog 84 #[.pointer (some ⟨b,0,none⟩),.string ⟨s.toArray⟩] w fun e w'=>(∃v,e=.returned v)/\bl B b (l++s) w'/\Below B w w':=
 (Tryz.bldWriteString B b _ _ w h (by simpa[Lib.byteCells,ByteArray.size]using hl) a).mono (by
  rintro e w' ⟨rfl,h,k⟩
  exact⟨⟨_,rfl⟩,.inr (by simpa[Lib.byteCells,Lib.strCells]using h),k⟩)
theorem Mg:∀(x y:List (List UInt8))(b:Bool),Lt.jw b (x++y)=Lt.jw b x++Lt.jw (b||!x.isEmpty) y
 |[],y,b=>by simp[Lt.jw]
 |w::r,y,b=>by simp[Lt.jw,Mg r y]
variable{ws:List (List UInt8)}
theorem EG{j:Nat}(h:j<ws.length):Lt.jw false (ws.take (j+1))=Lt.jw false (ws.take j)++((if 0<j then [32]else [])++ws.getD j []):=by
 rw[List.take_add_one,Mg,List.getD,af1 h];by_cases h0:0<j
 ·rw[show((ws.take j).isEmpty)=false by cases j<;>cases ws<;>simp_all];simp[h0,Lt.jw]
 ·obtain rfl:j=0:=by omega
  simp[Lt.jw]
theorem acW(ws:List (List UInt8))(j:Nat):(Lt.jw false (ws.take j)).length<=(Lt.jw false ws).length:=by
 have:=Mg (ws.take j) (ws.drop j) false
 rw[ahE]at this;rw[this];simp
theorem cx(x y:List Lt.Line):bv (x++y)=bv x++bv y:=by simp[bv]
variable{ls:List Lt.Line}
theorem Af{i:Nat}(h:i<ls.length):bv (ls.take (i+1))=bv (ls.take i)++(Lt.jw false (ls.getD i default).Words++[10]):=by
 rw[List.take_add_one,cx,List.getD,af1 h];simp[bv]
theorem Rv(ls:List Lt.Line)(i:Nat):(bv (ls.take i)).length<=(bv ls).length:=by
 have:=cx (ls.take i) (ls.drop i)
 rw[ahE]at this;rw[this];simp
set_option maxRecDepth 100000 in
set_option maxHeartbeats 4000000 in
theorem VQ{v:Value}(hv:Lsm w v ls)(hl:(bv ls).length<=140737488355328):Calls prog 41 #[v] w fun e w'=>e=.returned (.string ⟨(bv ls).toArray⟩)/\Below w.heap.size w w':=by
 obtain⟨a,c,rfl,S,hv⟩:=hv
 go_enter func41,Tryz.ntmps41
 go_wp2
 rename_i K W;refine wp_loop (fun st w'=>∃(i:Nat)(D L I G F x h B p E H J r n q l t s k m y f g A z:Value),st=⟨#[.slice a ls.length c,D,.string ⟨#[]⟩,.pointer (some ⟨w.heap.size,0,none⟩),L,I,G,F,.slice a ls.length c,.int .i64 ls.length,.int .i64 i,x,h,B,p,E,H,J,r,n,q,l,t,s,k,m,y,f,g,A,z],[]⟩/\i<=ls.length/\bl w.heap.size w.heap.size (bv (ls.take i)) w'/\Below w.heap.size w w') (fun st _=>ls.length-tI st 10) ?_ ?_
 ·exact⟨0,_,_,_,_,_,_,_,_,_,_,_,_,_,_,_,_,_,_,_,_,_,_,_,_,_, rfl,agW _,Lib.fresh_isBuilder _ _ w,(Below.refl _ w).alloc (af2 _) _⟩
 rintro st w' ⟨i,D,L,I,G,F,x,h,B,p,E,H,J,r,n,q,l,t,s,k,m,y,f,g,A,z,rfl,h1,h2,h3⟩
 have C:=Rv ls (i+1)
 by_cases hi:i<ls.length
 ·obtain⟨b,o,u,rfl,Q,c2,T,k2,rfl,M,hw⟩:=hv i hi;have Q:=zB h3 Q
  have c2:=zB h3 c2
  rw[Af hi]at C
  go_wp2
  generalize hws:(ls[i]).Words=ws at *;rename_i X U;refine wp_loop (fun st w2=>∃(j:Nat)(D L I G F x h B p r n q l t s k m y f g A z:Value),st=⟨#[.slice (some ⟨b,o,none⟩) ls.length c,D,.string ⟨#[]⟩,.pointer (some ⟨w.heap.size,0,none⟩),L,I,G,F,.slice (some ⟨b,o,none⟩) ls.length c,.int .i64 ls.length,.int .i64 i,x,h,B,p,.slice T ws.length k2,.int .i64 ws.length,.int .i64 j,r,n,q,l,t,s,k,m,y,f,g,A,z],[]⟩/\j<=ws.length/\bl w.heap.size w.heap.size (bv (ls.take i)++Lt.jw false (ws.take j)) w2/\Below w.heap.size w w2) (fun st _=>ws.length-tI st 17) ?_ ?_
  ·exact⟨0,_,_,_,_,_,_,_,_,_,_,_,_,_,_,_,_,_,_,_,_,_,_, rfl,agW _,by simpa[Lt.jw]using Uv h2,h3.alloc h3.size _⟩
  rintro st w2 ⟨j,D,L,I,G,F,x,h,B,p,r,n,q,l,t,s,k,m,y,f,g,A,z,rfl,g1,g2,g3⟩
  by_cases hj:j<ws.length
  ·have d:=acW ws (j+1)
   obtain⟨b2,o2,rfl,N⟩:=hw j (by simp[hi,hws,hj]);have N:=zB g3 N
   simp[hi,hws]at N C;rw[EG hj]at d;have gB:=g3.size
   have P:ws.getD j []=ws[j]:=by rw[List.getD,af1 hj];rfl
   rw[P,af6,af6]at d;simp[hi,hws]at M
   go_wp2_with (go_at_call 83;refine(wB (c:=32) g2 (by rw[af6];omega) gB).mono ?_;rintro e w3 ⟨rfl,O,q2⟩;have R:=(g3.trans q2).size)
   ·rw[if_pos ‹_›]at d;refine(wS O (by simp only[af6,agT]at d⊢;omega) R).mono ?_;rintro e V ⟨⟨v,rfl⟩,r1,r2⟩
    go_wp2
    try rw[show wrap64 ((j:Int)+1)=((j+1:Nat):Int)by unfold wrap64;omega]
    refine⟨⟨j+1,_,_,_,_,_,_,_,_,_,_,_,_,_,_,_,_,_,_,_,_,_,_, rfl,hj,?_,(g3.trans q2).trans r2⟩,Nat.sub_lt_sub_left hj (aiC j)⟩;rw[EG hj,P,if_pos ‹_›];simpa only[agN]using r1
   ·rw[if_neg ‹_›]at d;refine(wS g2 (by simp only[af6,agB]at d⊢;omega) gB).mono ?_;rintro e V ⟨⟨v,rfl⟩,r1,r2⟩
    go_wp2
    try rw[show wrap64 ((j:Int)+1)=((j+1:Nat):Int)by unfold wrap64;omega]
    refine⟨⟨j+1,_,_,_,_,_,_,_,_,_,_,_,_,_,_,_,_,_,_,_,_,_,_, rfl,hj,?_,g3.trans r2⟩,Nat.sub_lt_sub_left hj (aiC j)⟩;rw[EG hj,P,if_neg ‹_›,agZ];simpa only[agN]using r1
  ·obtain rfl:j=ws.length:=by omega
   simp[hi,hws]at C;rw[agV]at g2;have gB:=g3.size
   go_wp2_with (go_at_call 83;refine(wB (c:=10) g2 (by rw[af6];omega) gB).mono ?_;rintro e w3 ⟨rfl,O,q2⟩;have R:=(g3.trans q2).size)
   refine⟨⟨i+1,_,_,_,_,_,_,_,_,_,_,_,_,_,_,_,_,_,_,_,_,_,_,_,_,_, rfl,hi,?_,g3.trans q2⟩,Nat.sub_lt_sub_left hi (aiC i)⟩;rw[Af hi];simpa[hi,hws]using O
 ·obtain rfl:i=ls.length:=by omega
  rw[agV]at h2;have gB:=h3.size
  go_wp2_with (go_at_call 85;refine(Tryz.Builder_String_any _ _ _ _ h2 gB).mono ?_;rintro e w3 ⟨rfl,q2⟩)
  go_ret
  exact⟨rfl,h3.trans q2⟩
end Go.Proofs
namespace Go.Am
open Go Go.RowKit Go.Proofs
theorem ad3{w:World}{y:Value}{ws:List (List UInt8)}{H:FH}(d:∀b o y,H b o=some y->RdV w b o y){m:Nat}(h:FD H m (.li (ws.map fun s=>[D.str s])) y):Wd w y ws:=by
 cases m with
 |zero=>exact h.elim
 |succ m=>
  obtain⟨a,c,rfl,h1,h2,h3⟩:=j8.1 h;rw[af7]at h1 h2⊢;refine⟨a,c,rfl,by unfold BIG at h2;omega,fun j hj=>?_⟩;rcases h3 with h3|⟨b,o,e,rfl,h3⟩
  ·cases ws<;>simp_all
  ·obtain⟨h4,h5⟩:=h3 j (by simpa using hj);simp only[List.getD,af5,af1 hj,Option.map_some,ahG,agT]at h4 h5;subst h4;obtain⟨y,h6,h7⟩:=h5 0 (by decide);refine⟨b,o,rfl,?_⟩;have h7:FD H m (.str ws[j]) y:=h7
   have h8:y=.string ⟨ws[j].toArray⟩:=by cases m<;>exact h7.1
   rw[List.getD,af1 hj];have:=d _ _ _ h6
   simpa[RdV,h8]using this
theorem abD{w:World}{y:Value}{ls:List Lt.Line}{H:FH}(d:∀b o y,H b o=some y->RdV w b o y){m:Nat}(h:FD H m (.li (ls.map Lt.Line.enc)) y):Lsm w y ls:=by
 cases m with
 |zero=>exact h.elim
 |succ m=>
  obtain⟨a,c,rfl,h1,h2,h3⟩:=j8.1 h;rw[af7]at h1 h2⊢;refine⟨a,c,rfl,by unfold BIG at h2;omega,fun j hj=>?_⟩;rcases h3 with h3|⟨b,o,e,rfl,h3⟩
  ·cases ls<;>simp_all
  ·obtain⟨h4,h5⟩:=h3 j (by simpa using hj);simp only[List.getD,af5,af1 hj,Option.map_some,ahG]at h4 h5;obtain rfl:2=e:=h4;obtain⟨y,h6,h7⟩:=h5 0 (by decide);obtain⟨u,h8,h9⟩:=h5 1 (by decide);have h7:FD H m (.int .i64 ls[j].N) y:=h7
   have h7:y=.int .i64 ls[j].N:=by cases m<;>exact h7.1
   have h9:FD H m (.li (ls[j].Words.map fun s=>[D.str s])) u:=h9
   rw[List.getD,af1 hj];refine⟨b,o,u,rfl,?_,?_,ad3 d h9⟩
   ·have:=d _ _ _ h6
    simpa[RdV,h7]using this
   ·have:=d _ _ _ h8
    simpa[RdV]using this
theorem Yi:Cont prog 41 (xr [.sl (.st .Line)] [.s] (fun x=>Ps x) (fun x=>Lt.Join x)):=iw (gf (fn:=f41) kQ0 kQ0 kQ0) (fun ls args w H γ hp hl g i a=>by
 obtain⟨u,rfl⟩:∃u,args=[u]:=List.length_eq_one_iff.1 hl
 obtain⟨u',h0,h1⟩:=g 0 _ rfl;obtain rfl:u=u':=by simpa using h0
 have h1:AR w H γ [] (.one (.c (.d (.li (ls.map Lt.Line.enc))))) u:=h1
 obtain⟨_,m,h1⟩:=h1;refine(VQ (abD a h1) hp).mono ?_;rintro e w' ⟨rfl,f⟩
 refine⟨_,H,rfl,f,fun _ _ _ h=>h,fun b o h1 h2=>absurd h2 h1,fun b o x l c h1 h2=>by(rw[h2]at h1;cases h1),fun b o y h=>(a b o y h).frame (f.block b (a b o y h).lt),?_⟩;exact(FP (l:=Lt.Join ls) (ahK hp (by decide)):AR w' H γ [] _ _))
end Go.Am
end

section
namespace Go.Am
open Go Go.Proofs
set_option maxRecDepth 100000
def eU:Ut:=[(69,(.st .Class)),(61,(.st .Var)),(71,(.st .Extern)),(40,(.st .Func)),(51,(.st .Block)),(133,(.st .Phi)),(57,(.st .Instr)),(9,.s),(46,(.st .Arg)),(141,(.st .Frame)),(145,(.st .Virt)),(47,(.sl .s)),(75,(.st .Asked)),(96,(.st .Line)),(4,.bo),(119,(.mp .s .bo)),(77,.fn),(151,(.st .In)),(143,(.st .Bind)),(5,.b8),(3,(.i .i64)),(172,(.sl (.i .i64))),(265,(.st .step))]
def eS:List (TypeId×List Sh):=[(27,[.fr,.ow [.fr,.ow [.fr,.fr]],.ow [.fr,.fr],.ow [.fr,.fr],.ow [.fr,.fr,.ow [.fr,.fr],.ow [.fr,.fr],.ow [.fr,.ow [.fr,.fr],.ow [.fr,.fr,.fr,.fr,.ow [.fr,.fr,.fr,.fr],.ow [.fr,.fr]],.fr,.fr,.fr,.fr,.fr,.fr]]]),(40,[.fr,.fr,.ow [.fr,.fr],.ow [.fr,.fr],.ow [.fr,.ow [.fr,.fr],.ow [.fr,.fr,.fr,.fr,.ow [.fr,.fr,.fr,.fr],.ow [.fr,.fr]],.fr,.fr,.fr,.fr,.fr,.fr]]),(51,[.fr,.ow [.fr,.fr],.ow [.fr,.fr,.fr,.fr,.ow [.fr,.fr,.fr,.fr],.ow [.fr,.fr]],.fr,.fr,.fr,.fr,.fr,.fr]),(57,[.fr,.fr,.fr,.fr,.ow [.fr,.fr,.fr,.fr],.ow [.fr,.fr]]),(69,[.fr,.ow [.fr,.fr]]),(90,[.fr,.ow [.fr,.ow [.fr,.fr]],.ow [.fr,.fr],.ow [.fr,.fr],.ow [.fr,.fr,.ow [.fr,.fr],.ow [.fr,.fr],.ow [.fr,.ow [.fr,.fr],.ow [.fr,.fr,.fr,.fr,.ow [.fr,.fr,.fr,.fr],.ow [.fr,.fr]],.fr,.fr,.fr,.fr,.fr,.fr]],.fr,.fr,.fr,.fr]),(91,[.fr,.ow [.fr,.ow [.fr,.fr]],.ow [.fr,.fr],.ow [.fr,.fr],.ow [.fr,.fr,.ow [.fr,.fr],.ow [.fr,.fr],.ow [.fr,.ow [.fr,.fr],.ow [.fr,.fr,.fr,.fr,.ow [.fr,.fr,.fr,.fr],.ow [.fr,.fr]],.fr,.fr,.fr,.fr,.fr,.fr]],.fr,.fr,.fr,.fr]),(123,[.fr,.ow [.fr,.ow [.fr,.fr]],.ow [.fr,.fr],.ow [.fr,.fr],.ow [.fr,.fr,.ow [.fr,.fr],.ow [.fr,.fr],.ow [.fr,.ow [.fr,.fr],.ow [.fr,.fr,.fr,.fr,.ow [.fr,.fr,.fr,.fr],.ow [.fr,.fr]],.fr,.fr,.fr,.fr,.fr,.fr]],.fr,.fr,.fr,.fr,.ow [.fr,.fr,.fr,.fr],.ow [.fr,.fr],.fr,.fr]),(124,[.fr,.ow [.fr,.ow [.fr,.fr]],.ow [.fr,.fr],.ow [.fr,.fr],.ow [.fr,.fr,.ow [.fr,.fr],.ow [.fr,.fr],.ow [.fr,.ow [.fr,.fr],.ow [.fr,.fr,.fr,.fr,.ow [.fr,.fr,.fr,.fr],.ow [.fr,.fr]],.fr,.fr,.fr,.fr,.fr,.fr]],.fr,.fr,.fr,.fr,.ow [.fr,.fr,.fr,.fr],.ow [.fr,.fr],.fr,.fr])]
variable{P:Program}{f:Nat}{u:Ut}{α:Type}
section
structure Ev (sh:List (TypeId×List Sh)) where
 cs:CTt
 ok:En.ok ⟨prog,eU,cs,sh,noP⟩
structure Cb (f:Nat) where
 C:CKt
 ok:Cont prog f C
structure Kb (f:Nat) where
 C:CKt
 ok:ContC prog f C
noncomputable abbrev Ev.en{sh:List (TypeId×List Sh)}(E:Ev sh):En:=⟨prog,eU,E.cs,sh,noP⟩
theorem En.ok0{sh:List (TypeId×List Sh)}{pk:PKt}:En.ok ⟨P,u,[],sh,pk⟩:=fun _ h=>by cases h
theorem En.okc{sh:List (TypeId×List Sh)}{pk:PKt}{C:CKt}{cs:CTt}(h:Cont P f C)(hs:En.ok ⟨P,u,cs,sh,pk⟩)(hf:Nat.blt f 1000000=true):En.ok ⟨P,u,(f,C)::cs,sh,pk⟩:=by
 intro x hx;rcases agC.1 hx with rfl|hx
 ·exact⟨fun _=>h,fun hb=>absurd hb (Nat.not_le.2 (agD hf))⟩
 ·exact hs x hx
theorem En.okk{sh:List (TypeId×List Sh)}{pk:PKt}{C:CKt}{cs:CTt}(h:ContC P f C)(hs:En.ok ⟨P,u,cs,sh,pk⟩):En.ok ⟨P,u,(f,C)::cs,sh,pk⟩:=by
 intro x hx;rcases agC.1 hx with rfl|hx
 ·exact⟨fun hb=>absurd h.big (Nat.not_le.2 (agD hb)),fun _=>h⟩
 ·exact hs x hx
theorem mixed:prog.follows .mixedOrders=true:=kQ0
def okF(n:Nat)(fn:Func):Bool:=fn.name != "runtime.NumGoroutine" && (fn.body.isSome&&(Nat.ble n fn.ntmps&&jI fn.ntmps (fn.body.getD .skip)))
theorem dq{n:Nat}{fn:Func}(h:okF n fn=true):(fn.name == "runtime.NumGoroutine")=false/\fn.body.isSome=true/\Nat.ble n fn.ntmps=true/\jI fn.ntmps (fn.body.getD .skip)=true:=by
 unfold okF at h;simp only[afZ,bne,agS]at h;exact h
def aE:Nat->Nat->List Sg->(An->Nat->List Sg->An)->An
 |0,n,l,κ=>κ .l n l
 |k+1,n,l,κ=>match n % 8 with
  |0=>κ .l (n / 8) l
  |1=>aE k (n / 8) l fun a n l=>aE k n l fun b n l=>κ (.s a b) n l
  |2=>aE k (n / 8) l fun a n l=>aE k n l fun b n l=>κ (.c a b) n l
  |3=>aE k (n / 8) l fun a n l=>κ (.b a) n l
  |4=>match l with
   |g::l=>aE k (n / 8) l fun a n l=>aE k n l fun b n l=>κ (.j g a b) n l
   |[]=>.l
  |5=>match l with
   |g::l=>aE k (n / 8) l fun a n l=>κ (.lp g a) n l
   |[]=>.l
  |_=>aE k (n / 64) l fun a m l=>κ (.un (n / 8 % 8) a) m l
def aD(n:Nat)(l:List Sg):An:=aE 200 n l fun a _ _=>a
def dg:Nat->Nat->List Nat
 |0,_=>[]
 |k+1,n=>n % 64::dg k (n / 64)
def pk:List Nat->Nat->(Nat->α)->(Nat->α)->α
 |[],n,_,d=>d n
 |x::_,0,κ,_=>κ x
 |_::l,n+1,κ,d=>pk l n κ d
def d64:List Nat:=[0,1,2,3,4,5,6,7,8,9,10,11,12,13,14,15,16,17,18,19,20,21,22,23,24,25,26,27,28,29,30,31,32,33,34,35,36,37,38,39,40,41,42,43,44,45,46,47,48,49,50,51,52,53,54,55,56,57,58,59,60,61,62,63]
def d55:List Nat:=d64.take 55
def tN(l:List Nat)(κ:Nat->List Nat->α):α:=match l with
 |a::r=>pk d55 a (fun a=>κ a r) fun a=>match r with
  |b::r=>match a,r with
   |1,c::r=>κ (b+64*c) r
   |_,r=>pk [900000,0,100064,1000,2000,100000,100128,100192,800000] a (fun e=>pk d64 b (fun b=>κ (e+b) r) fun _=>κ 0 r) fun _=>κ 0 r
  |_=>κ 0 []
 |_=>κ 0 []
def tL:Nat->List Nat->(List Nat->List Nat->α)->α
 |0,l,κ=>κ [] l
 |k+1,l,κ=>tN l fun a r=>tL k r fun x r=>κ (a::x) r
def tC(l:List Nat)(κ:List Nat->List Nat->α):α:=tN l fun k r=>tL k r κ
def g3:List Nat->List (Nat×Nm×Nat)
 |a::b::c::r=>(a,.loc b,c)::g3 r
 |_=>[]
def g2(t:List (Nat->Sp)):List Nat->List Sp
 |a::b::r=>t.getD a (fun k=>.sl k .bo) b::g2 t r
 |_=>[]
def aN(t:List (Nat->Sp))(n:Nat)(l:List Nat):An:=aD n (l.map fun n=>tC (dg 400 n) fun ks r=>tC r fun g r=>tC r fun l r=>tC r fun o r=>tC r fun p r=>tC r fun q _=>⟨ks,g.map .gh++(l.map .loc++o.map .out),g3 p,g2 t q⟩)
abbrev uI:U:=.i .i64
variable {sh:List (TypeId×List Sh)}
noncomputable def eZ:Ev sh:=⟨[],En.ok0⟩
noncomputable def ad(c:Cb f)(E:Ev sh)(hf:Nat.blt f 1000000=true:=by rfl):Ev sh:=⟨(f,c.C)::E.cs,En.okc c.ok E.ok hf⟩
noncomputable def ak(c:Kb f)(E:Ev sh):Ev sh:=⟨(f,c.C)::E.cs,En.okk c.ok E.ok⟩
noncomputable def bA(c:Cb f):Cb f:=⟨apT c.C,XH c.ok⟩
noncomputable def bS(t:Nat)(c d:Cb f):Cb f:=⟨ZN t c.C d.C,Tl c.ok d.ok⟩
noncomputable def bI(E:Ev sh)(f:Nat)(fn:Func)(an:An)(hf:prog.funcs[f]? = some fn:=by kernel_rfl)(hb:(okF 0 fn&&Nat.ble fn.ntmps 100000)=true:=by kernel_rfl):Cb f:=
 have h:=dq ((afZ _ _).mp hb).1
 ⟨YV E.en fn an,Ti E.ok mixed hf h.1 h.2.1 h.2.2.2 ((afZ _ _).mp hb).2⟩
noncomputable def bK(E:Ev sh)(f:Nat)(fn:Func)(an:An)(hf:prog.funcs[f]? = some fn:=by kernel_rfl)(hb:(okF 0 fn&&Nat.ble fn.ntmps 100000)=true:=by kernel_rfl):Kb (f+1000000):=
 have h:=dq ((afZ _ _).mp hb).1
 ⟨YU E.en fn an,Th E.ok mixed hf h.1 h.2.1 h.2.2.2 ((afZ _ _).mp hb).2⟩
noncomputable def b0(E:Ev sh)(fn:Func)(an:An)(ps rs:List U){F:Fl ps->Fl rs}{G:Fl ps->(Fl rs->Prop)->Prop}(a:∀x,∀KK:Fl rs->Prop,KK (F x)->G x KK)(hw:∀x KK KP,G x KK=vm E.en fn an ps rs x KK KP:=by intros;kernel_rfl)(hf:prog.funcs[f]? = some fn:=by kernel_rfl)(hb:okF ps.length fn=true:=by kernel_rfl):Cb f:=
 ⟨AU ps rs F,sY E.ok mixed hf (dq hb).1 (dq hb).2.1 (fun _ _ _ _ h h'=>h _ h') (dq hb).2.2.1 (dq hb).2.2.2 fun x KK KP h=>hw x KK KP ▸ a x KK h⟩
noncomputable def b8(E:Ev sh)(fn:Func)(an:An)(ps rs:List U){pre:Fl ps->Prop}{post:Fl ps->Fl rs->Prop}{G:Fl ps->(Fl rs->Prop)->Prop}(a:∀x,pre x->∀KK:Fl rs->Prop,(∀y,post x y->KK y)->G x KK)(hw:∀x KK KP,G x KK=vm E.en fn an ps rs x KK KP:=by intros;kernel_rfl)(hf:prog.funcs[f]? = some fn:=by kernel_rfl)(hb:okF ps.length fn=true:=by kernel_rfl):Cb f:=
 ⟨aa4 ps rs pre post,sY E.ok mixed hf (dq hb).1 (dq hb).2.1 (fun _ _ _ _ h h'=>⟨h'.1,fun y hy=>h y (h'.2 y hy)⟩) (dq hb).2.2.1 (dq hb).2.2.2 fun x KK KP h=>hw x KK KP ▸ a x h.1 KK h.2⟩
noncomputable def b1(E:Ev sh)(fn:Func)(an:An)(ps rs:List U){pre:Fl ps->Prop}{F:Fl ps->Fl rs}{G:Fl ps->(Fl rs->Prop)->Prop}(a:∀x,pre x->∀KK:Fl rs->Prop,KK (F x)->G x KK)(hw:∀x KK KP,G x KK=vm E.en fn an ps rs x KK KP:=by intros;kernel_rfl)(hf:prog.funcs[f]? = some fn:=by kernel_rfl)(hb:okF ps.length fn=true:=by kernel_rfl):Cb f:=
 ⟨xr ps rs pre F,sY E.ok mixed hf (dq hb).1 (dq hb).2.1 (fun _ _ _ _ h h'=>⟨h'.1,h _ h'.2⟩) (dq hb).2.2.1 (dq hb).2.2.2 fun x KK KP h=>hw x KK KP ▸ a x h.1 KK h.2⟩
theorem Vl{r:Except Value α}{K K':α->Prop}{KP:Value->Prop}(h:∀y,K y->K' y)(hq:exQ r K KP):exQ r K' KP:=by
 cases r with
 |ok a=>exact h _ hq
 |error v=>exact hq
noncomputable def b4(E:Ev sh)(fn:Func)(an:An)(ps rs:List U){pre:Fl ps->Prop}{F:Fl ps->Except Value (Fl rs)}{G:Fl ps->(Fl rs->Prop)->(Value->Prop)->Prop}(a:∀x,pre x->∀(KK:Fl rs->Prop) (KP:Value->Prop),exQ (F x) KK KP->G x KK KP)(hw:∀x KK KP,G x KK KP=vm E.en fn an ps rs x KK KP:=by intros;kernel_rfl)(hf:prog.funcs[f]? = some fn:=by kernel_rfl)(hb:okF ps.length fn=true:=by kernel_rfl):Cb f:=
 ⟨adA ps rs pre F,sY E.ok mixed hf (dq hb).1 (dq hb).2.1 (fun _ _ _ _ h h'=>⟨h'.1,Vl h h'.2⟩) (dq hb).2.2.1 (dq hb).2.2.2 fun x KK KP h=>hw x KK KP ▸ a x h.1 KK KP h.2⟩
noncomputable def b5(E:Ev sh)(fn:Func)(an:An)(a:List Sh)(u:U)(ps rs:List U){pre:El u->Fl ps->Prop}{F:El u->Fl ps->Except Value (Fl rs)×El u}{G:El u->Fl ps->(Fl rs×El u->Prop)->(Value->El u->Prop)->Prop}(b:∀x y,pre x y->∀(KK:Fl rs×El u->Prop) (KP:Value->El u->Prop),exP (F x y) (fun z x'=>KK (z,x')) KP->G x y KK KP)(hw:∀x y KK KP,G x y KK KP=xX E.en fn an a u ps rs x y KK KP:=by intros;kernel_rfl)(hf:prog.funcs[f]? = some fn:=by kernel_rfl)(hb:okF (ps.length+1) fn=true:=by kernel_rfl):Cb f:=
 ⟨JY a u ps rs pre F,Cc E.ok mixed hf (dq hb).1 (dq hb).2.1 (dq hb).2.2.1 (dq hb).2.2.2 fun x y hp KK KP h=>hw x y KK KP ▸ b x y hp KK KP h⟩
def rgI:Code->Nat
 |.region id _ _=>id
 |_=>0
def rgO(c:Code)(i:Nat):Oper:=match c with
 |.region _ l _=>l.getD i default
 |_=>default
noncomputable def b6(E:Ev sh)(fn:Func)(an:An)(ps rs:List U){pre:Fl ps->Prop}{F:Fl ps->Fl rs}{G:Fl ps->(Fl rs->Prop)->Prop}(a:∀x,pre x->∀KK:Fl rs->Prop,KK (F x)->G x KK)(hw:∀x KK,G x KK=GZ E.en fn an ps rs x KK:=by intros;kernel_rfl)(hf:prog.funcs[f]? = some fn:=by kernel_rfl)(hb:okF ps.length fn=true:=by kernel_rfl):Cb f:=
 ⟨V9 ps rs pre F,PS E.ok mixed hf (dq hb).1 (dq hb).2.1 (dq hb).2.2.1 (dq hb).2.2.2 fun x hp KK h=>hw x KK ▸ a x hp KK h⟩
noncomputable def b2(E:Ev sh)(fn:Func)(an:An)(a:List Sh)(u:U)(ps rs:List U){pre:El u->Fl ps->Prop}{F:El u->Fl ps->Fl rs×El u}{G:El u->Fl ps->(Fl rs×El u->Prop)->Prop}(b:∀x y,pre x y->∀KK:Fl rs×El u->Prop,KK (F x y)->G x y KK)(hw:∀x y KK KP,G x y KK=xX E.en fn an a u ps rs x y KK KP:=by intros;kernel_rfl)(hf:prog.funcs[f]? = some fn:=by kernel_rfl)(hb:okF (ps.length+1) fn=true:=by kernel_rfl):Cb f:=
 ⟨JY a u ps rs pre fun x y=>(.ok (F x y).1,(F x y).2),Cc E.ok mixed hf (dq hb).1 (dq hb).2.1 (dq hb).2.2.1 (dq hb).2.2.2 fun x y hp KK KP h=>hw x y KK KP ▸ b x y hp KK h⟩
def tA:List (Nat->Sp):=[(.sl · .bo),(.sl · uI),fun k=>.mp (.gh k) .s .bo,(.ow · [.fr,.fr] (.st .Var)),(.ow · [.fr] .bo),(.ow · [.fr] uI),fun k=>.rt (.loc k) [.fr,.fr,.fr,.fr,.fr,.fr,.fr,.fr,.fr] (.st .Block),fun k=>.mp (.gh k) .s uI,fun k=>.rt (.loc k) [.fr,.fr] (.st .Var),fun k=>.rt (.loc k) [.fr,.fr,.fr,.fr,.fr,.fr,.fr,.fr,.fr,.fr,.fr,.fr,.ow []] (.st .asked),fun k=>.rt (.loc k) [.fr,.fr,.fr,.fr,.fr,.fr,.fr,.fr,.fr,.fr,.fr,.fr,.ow [.fr]] (.st .asked),(.ow · [.ow [.fr]] (.sl uI)),fun k=>.gw (.gh k) [.fr] uI,(.ow · [.fr,.fr] (.st .step)),fun k=>.it (.gh k) .s .bo,(.ow · [.fr] (.mp .s .bo)),(.sl · (.mp .s .bo)),fun k=>.mp (.gh k) .s (.mp .s .bo),(.ow · [.fr] .s),(.ow · [.fr,.fr] (.st .Line)),(.sl · (.i .u64)),(.ow · [.fr,.fr,.fr] (.st .Arg)),(.sl · (.sl .s)),fun k=>.rt (.loc k) [.fr,.fr,.fr,.ow [],.ow [],.ow []] (.st .Instr),fun k=>.rt (.loc k) [.fr,.fr,.fr,.fr,.ow [],.ow []] (.st .Instr),fun k=>.rt (.out k) [.fr,.ow [.fr,.ow [.fr,.fr]],.ow [.fr,.fr],.ow [.fr,.fr],.ow [.fr,.fr,.ow [.fr,.fr],.ow [.fr,.fr],.ow [.fr,.ow [.fr,.fr],.ow [.fr,.fr,.fr,.fr,.ow [.fr,.fr,.fr,.fr],.ow [.fr,.fr]],.fr,.fr,.fr,.fr,.fr,.fr]],.fr,.fr,.fr,.fr] (.st .Reader),fun k=>.rt (.loc k) [.fr,.fr] (.st .Extern),fun k=>.rt (.loc k) [.fr,.fr,.ow [],.ow [],.ow []] (.st .Func),fun k=>.rt (.loc k) [.fr,.ow [.fr,.fr,.fr,.fr]] (.st .Phi),fun k=>.rt (.loc k) [.fr,.fr,.fr,.ow []] (.st .Frame),fun k=>.rt (.loc k) [.fr,.fr,.fr,.ow [.fr,.fr,.fr,.fr]] (.st .Frame),fun k=>.rt (.loc k) [.fr,.fr] (.st .Virt),fun k=>.rt (.loc k) [.fr,.fr,.fr,.fr,.ow [.fr],.fr] (.st .Term),fun k=>.rt (.loc k) [.fr,.ow [],.ow [],.ow [],.ow []] (.st .Program),fun k=>.rt (.loc k) [.fr] uI,fun k=>.rt (.out k) [.ow [.fr,.fr]] (.st .Sheet),(.ow · [.fr] .b8),fun k=>.rt (.loc k) [.ow [.fr,.fr]] (.st .Sheet)]
abbrev eO:List (TypeId×List Sh):=[(7000000,[])]
abbrev eP:List (TypeId×List Sh):=[(172,[.ow [.fr]])]
abbrev eR:List (TypeId×List Sh):=[(3000035,[])]
abbrev eW:List (TypeId×List Sh):=[(3000053,[])]
noncomputable def QI:Cb 166:=⟨_,LN⟩
noncomputable def LL:Cb 86:=⟨_,UJ⟩
noncomputable def UF:Cb 87:=⟨_,ab3⟩
noncomputable def QD:Cb 238:=⟨_,Yn⟩
noncomputable def LK:Cb 239:=⟨_,UI⟩
noncomputable def Ef:Cb 89:=⟨_,LV⟩
noncomputable def ac:Cb 157:=⟨_,UR⟩
noncomputable def tH:Cb 79:=⟨_,QJ⟩
noncomputable def ab0:Cb 41:=⟨_,Yi⟩
noncomputable def UP:Cb 127:=b0 (eZ:Ev []) f127 (aN tA 0x101 [0x80080000000]) [.b8] [.bo] Mv
noncomputable def ab4:Cb 128:=b0 (eZ:Ev []) f128 (aN tA 0x101 [0x80080000000]) [.s] [.bo] VV
noncomputable def If:Cb 129:=b0 (eZ:Ev []) f129 (aN tA 0x41 []) [.b8] [.bo] BV
noncomputable def iD:Cb 77:=b0 ((ad UP (ad ab4 (ad If eZ))):Ev []) f77 (aN tA 0x80014202c8088358240050841 [0x14002000000001,0x5c1080000016002,0x250020000005d6003]) [.s] [.bo] VS
noncomputable def UM:Cb 126:=b0 ((ad iD eZ):Ev []) f126 (aN tA 0x101 [0x80080000000]) [.s] [.bo] VW
noncomputable def OQ:Cb 76:=b0 ((ad iD (ad UM eZ)):Ev []) f76 (aN tA 0x80014202c8088358240050241 [0x34108000000c2c2,0x1a00200000034c2c3]) [.sl (.st .Var),uI] [.bo] (fun x=>RN x.1 x.2)
noncomputable def Ee:Cb 183:=b0 (eZ:Ev []) f183 (aN tA 0x40050841 [0xa002000000001]) [uI] [uI] Ry
noncomputable def xd:Cb 132:=b0 ((ad iD (ad Ee eZ)):Ev []) f132 (aN tA 0x802204028102204028100a058241 [0x80080000000,0x80080000000]) [.st .Arg] [.bo] BW
noncomputable def nj:Cb 214:=b0 ((ad xd eZ):Ev []) f214 (aN tA 0x80014202c8088358241 [0x9042000000207043,0x600080000009207044]) [.sl (.st .Arg),.bo] [.bo] (fun x=>EO x.1 x.2)
noncomputable def QK:Cb 180:=b0 ((ad iD (ad nj eZ)):Ev []) f180 (aN tA 0x4005020440811020440b0482080014082c8088358241 [0x281080001040248043,0x80080000000,0x80080000000,0x80080000000]) [.st .Term] [.bo] Jf
noncomputable def aeK:Cb 181:=b0 ((ad iD (ad nj eZ)):Ev []) f181 (aN tA 0x80014202c8088358240050841 [0x500080001040041,0x601080000017582,0x26002000000617583]) [.st .Phi] [.bo] Y6
noncomputable def aeJ:Cb 168:=b0 (eZ:Ev []) f168 (aN tA 0x20000a04120204b80204d609041 [0x6045041046000000001,0x141041100000006002]) [.s,uI] [.s] (fun x=>Y5 x.1 x.2)
noncomputable def UB:Cb 108:=b0 ((ad aeJ eZ):Ev []) f108 (aN tA 0x4005020140805020140805020140805020140805020140b04800a100284641 [0x4002000081002002,0xe002000081002002]) [uI] [.st .Form,.bo] acY
noncomputable def Ym:Cb 215:=b0 ((ad iD (ad nj eZ)):Ev []) f215 (aN tA 0x80014202c8088358240050841 [0x780080001040041,0x881080000021802,0x300020000008a1803]) [.st .Frame] [.bo] RD
noncomputable def Yo:Cb 182:=b0 ((ad iD (ad UB (ad nj (ad Ym eZ)))):Ev []) f182 (aN tA 0x4000a101640441ac120005020b20220d609001421001421001421041 [0xd00080003042003042,0x54e00080001040041,0x5ce00080001040041,0x6ae01080001040069e01a38043,0x75e01080000001d38073e02,0x2238002000000075e01d38073e03]) [.st .Instr] [.bo] RE
noncomputable def Yl:Cb 130:=b0 ((ad iD (ad QK (ad aeK (ad Yo eZ)))):Ev []) f130 (aN tA 0x100028105901106b0480014082c8088358240050841 [0x400080001040041,0x5010800010404d2043,0x7c108000001e742]) [.st .Block] [.bo] RB
noncomputable def zu:Cb 78:=b0 ((ad OQ (ad iD (ad UM (ad Yl eZ)))):Ev []) f78 (aN tA 0x800142020028420b20220d609040050841 [0x9c0080001040041,0xac10c110000002aa42,0x38e00080005040aeaa450c5,0x48e0008000002baa90c4]) [.st .Func] [.bo] vR
noncomputable def xb:Cb 28:=b0 ((ad OQ (ad iD (ad zu eZ))):Ev []) f28 (aN tA 0x20005020b20220d60900028405901106b0480014202c8088358240050841 [0x780080001040041,0x881080001040860043,0x2f002000041022860044,0xd01080001040cf2043,0x1178002000041034cf2044,0x4ae01080000001278048e02]) [.st .Program] [.bo] BS
noncomputable def QE:Cb 29:=b0 (eZ:Ev []) f29 (aN tA 0x2000014202c808835820028120b20220d6082c8088358241 [0x3010800010402ca043,0x1304200004101244c2ca046,0x78108000104075c4d244c2ca049,0x2b00200004101e75c4d244c2ca04a]) [.st .Program] [.bo] Ja
noncomputable def G5:Cb 14:=b1 (eZ:Ev []) f14 (aN tA 0x800b20220d609041 [0x2410c11000000081c2]) [.st .Func] [uI] Mn
noncomputable def LM:Cb 31:=b1 ((ad G5 eZ):Ev []) f31 (aN tA 0x80014202c8088358241 [0x201080000007182,0x1e002000000207183]) [.st .Program] [.bo] EK
noncomputable def zw:Cb 96:=b0 ((ad (bA (bI ((ad (bA (bI (eZ:Ev []) 49 f49 (aN tA 0x41 []))) eZ):Ev []) 159 f159 (aN tA 0x2080014082c8088358241 [0x34108000613a0ba0c023c1fc1bc17c13c0bc07c03c30b18204d]))) eZ):Ev []) f96 (aN tA 0x41 []) [.st .Program,.s] [.st .Class,.bo] (fun x=>Mz x.1 x.2)
noncomputable def Ie:Cb 55:=b0 ((ad zw eZ):Ev []) f55 (aN tA 0x4041 [0x100080000000]) [.st .Program,.s] [.bo] (fun x=>MD x.1 x.2)
noncomputable def Ia:Cb 54:=b0 ((ad Ie (ad (bA (bI ((ad (bS 17 (bA (bI (eZ:Ev []) 95 f95 (aN tA 0x41 []))) (bA (bI (eZ:Ev []) 95 f95 (aN tA 0x41 [])))) eZ):Ev []) 94 f94 (aN tA 0x800028120b20220d609041 [0x2022c1100002e81013f0af09f08f07f02f01f0a24504b]))) eZ)):Ev []) f54 (aN tA 0x80014082c8088358241 [0x90420000810081c2044]) [.st .Program,.sl (.st .Var)] [.bo] (fun x=>BT x.1 x.2)
noncomputable def Ib:Cb 11:=b1 ((ad (bA (bI ((ad (bS 17 (bA (bI (eZ:Ev []) 49 f49 (aN tA 0x41 []))) (bA (bI (eZ:Ev []) 49 f49 (aN tA 0x41 [])))) eZ):Ev []) 48 f48 (aN tA 0x800028120b20220d609041 [0x2022c1100001e81009f08f02f01f00f0a245049]))) (ad (bA (bI ((ad (bS 17 (bA (bI (eZ:Ev []) 51 f51 (aN tA 0x41 []))) (bA (bI (eZ:Ev []) 51 f51 (aN tA 0x41 [])))) eZ):Ev []) 50 f50 (aN tA 0x800028120b20220d609041 [0x2022c1100001ec100ef0df0cf0bf0af09f08f02f01f00f0a24504e]))) (ad (bA (bI ((ad (bS 17 (bA (bI (eZ:Ev []) 53 f53 (aN tA 0x41 []))) (bA (bI (eZ:Ev []) 53 f53 (aN tA 0x41 [])))) eZ):Ev []) 52 f52 (aN tA 0x800028120b20220d609041 [0x2022c1100001e81014f13f12f11f10f0ff0ef0df0cf0bf0af09f08f02f01f00f0a245054]))) (ad Ia (ad Ie eZ))))):Ev []) f11 (aN tA 0x4000a10405901106b0480014082c8088358240050841 [0x780080001040041,0x881080001040860043,0xbc1080001040bad043,0x70c2000181080beeb46045,0x113800200004102fbad044]) [.st .Program] [.bo] MB
noncomputable def CS:Cb 12:=b1 ((ad (bA (bI (eZ:Ev []) 56 f56 (aN tA 0x20000a04120b20220d609041 [0xc1d004400007a04033c2bc27c23c1fc0bc07c03c3ce10b]))) (ad (bA (bI (eZ:Ev []) 57 f57 (aN tA 0x400002840482c80883582082c8088358241 [0xf04200007b04ce8153c4fc4bc47c43c3fc3bc37c33c2fc2bc27c23c1fc13c0fc0bc07c03c38d056,0x1309804400007b04ce8153c4fc4bc47c43c3fc3bc37c33c2fc2bc27c23c1fc13c0fc0bc07c03c5d63ce34705a,0xb00080001ec14cce8253c4fc4bc47c43c3fc3bc37c33c2fc2bc27c23c1fc13c0fc0bc07c03c61758f38d24705c]))) (ad (bA (bI (eZ:Ev eR) 58 f58 (aN tA 0x4000a04105c01106b041118081359041041 [0x614510400007b08233a059f18f17f16f15f14f13f12f11f10f0ff0ef0df0cf0bf0af09f08f07f04f03f02f01f00f0205a,0x1c60801c70c007b0821b717733a0d9f18f17f16f15f14f13f12f11f10f0ff0ef0df0cf0bf0af09f08f07f04f03f02f01f00f0614205c,0x2804614510600007b08233a059f18f17f16f15f14f13f12f11f10f0ff0ef0df0cf0bf0af09f08f07f04f03f02f01f00f2798205c,0x185144100001ec208ce8167c63c5fc5bc57c53c4fc4bc47c43c3fc3bc37c33c2fc2bc27c23c1fc13c0fc0bc07c03ca2798205d]))) eZ))):Ev []) f12 (aN tA 0x20005020b20220d609001409040050241 [0x70108000017705b682]) [.st .Func] [.bo] Je
noncomputable def xc:Cb 109:=b0 ((ad (bS 10 (bA (bI ((ad (bA (bI (eZ:Ev []) 95 f95 (aN tA 0x41 []))) eZ):Ev []) 169 f169 (aN tA 0x2080014082c8088358241 [0x34108000613a0ba0c02fc2bc27c17c13c0bc07c03c30b18204d]))) (bA (bI ((ad (bA (bI (eZ:Ev []) 95 f95 (aN tA 0x41 []))) eZ):Ev []) 169 f169 (aN tA 0x2080014082c8088358241 [0x3410800061ba13a0ba1004fc4bc47c3fc1fc1bc13c0bc07c30b18204e])))) eZ):Ev []) f109 (aN tA 0x1001408841 [0x1881c01001860c0102080102043]) [.st .Func,.s] [.st .Var,.bo] (fun x=>BU x.1 x.2)
noncomputable def aaL:Cb 65:=b0 ((ad xc eZ):Ev []) f65 (aN tA 0x800a04028100a04020a058241 []) [.st .Func,.st .Arg] [.s,.bo] (fun x=>Y7 x.1 x.2)
noncomputable def ab6:Cb 63:=b1 ((ad aaL (ad UB (ad xc eZ))):Ev eO) f63 (aN tA 0x80002812082c8088358240001409050301001421041 [0xa000800081851031402061440c5,0xa24200018510300a185104,0xa280ff804400018408003ee00f78286105]) [.st .Program,.st .Func,.st .Instr] [.st .asked,.bo] (fun x=>VY x.1 x.2.1 x.2.2)
noncomputable def LS:Cb 118:=b0 (eZ:Ev []) f118 (aN tA 0x41 []) [.s] [.bo] V1
noncomputable def xY:Cb 66:=b0 ((ad LS eZ):Ev []) f66 (aN tA 0x101 [0x100080000000]) [.s,.s] [.bo] (fun x=>RJ x.1 x.2)
noncomputable def Yt:Cb 110:=b0 (eZ:Ev []) f110 (aN tA 0x80014082c8088358241 [0x3010800030402ca0c2045]) [.st .asked,.s,.s] [.bo] (fun x=>RM x.1 x.2.1 x.2.2)
noncomputable def UU:Cb 116:=b0 ((ad xY eZ):Ev []) f116 (aN tA 0x80014082c8088358240050241 [0xe04200000034c043]) [.sl .s,.sl (.st .Var)] [.bo] (fun x=>V0 x.1 x.2)
noncomputable def UV:Cb 111:=b0 ((ad zw (ad UU eZ)):Ev []) f111 (aN tA 0x4041 [0x80080000000]) [.st .asked] [.bo] ME
noncomputable def UT:Cb 170:=b0 ((ad zw (ad (bA (bI ((ad (bA (bI (eZ:Ev []) 95 f95 (aN tA 0x41 []))) eZ):Ev []) 169 f169 (aN tA 0x2080014082c8088358241 [0x34108000623a1ba0fa10057c53c4fc47c43c3fc3bc37c33c2fc2bc27c23c1fc1bc0fc0bc07c03c30b182058]))) eZ)):Ev []) f170 (aN tA 0x1001409041 []) [.st .Program,.s,.s] [.st .Var,.bo] (fun x=>MA x.1 x.2.1 x.2.2)
noncomputable def QO:Cb 112:=b1 ((ad UT eZ):Ev []) f112 (aN tA 0x40050241 []) [.st .asked] [.st .Var,.bo] Jj
noncomputable def Ys:Cb 113:=b0 ((ad LS eZ):Ev []) f113 (aN tA 0x101 [0x100080000000]) [.s,.s] [.bo] (fun x=>RL x.1 x.2)
noncomputable def QN:Cb 171:=b0 ((ad (bA (bI ((ad (bA (bI (eZ:Ev []) 95 f95 (aN tA 0x41 []))) eZ):Ev []) 169 f169 (aN tA 0x2080014082c8088358241 [0x34108000613a0ba0c023c1fc1bc17c13c0bc07c03c30b18204d]))) eZ):Ev []) f171 (aN tA 0x41 []) [.st .Program,.s] [.st .Var,.bo] (fun x=>Ji x.1 x.2)
noncomputable def LU:Cb 114:=b1 ((ad xY (ad QN eZ)):Ev []) f114 (aN tA 0x1001409041 []) [.st .asked] [.bo] EQ
noncomputable def Yr:Cb 115:=b0 ((ad (bA (bI ((ad (bA (bI (eZ:Ev []) 53 f53 (aN tA 0x41 []))) eZ):Ev []) 172 f172 (aN tA 0x2080014082c8088358241 [0x34108000613a0ba0c023c1fc1bc17c13c0bc07c03c30b18204d]))) eZ):Ev []) f115 (aN tA 0x41 []) [.st .Program,.s] [.st .Func,.bo] (fun x=>RK x.1 x.2)
noncomputable def QM:Cb 117:=b0 ((ad (bA (bI ((ad (bA (bI (eZ:Ev []) 51 f51 (aN tA 0x41 []))) eZ):Ev []) 173 f173 (aN tA 0x2080014082c8088358241 [0x34108000613a0ba0c023c1fc1bc17c13c0bc07c03c30b18204d]))) eZ):Ev []) f117 (aN tA 0x41 []) [.st .Program,.s] [.st .Extern,.bo] (fun x=>Jh x.1 x.2)
noncomputable def QP:Cb 64:=b1 ((ad xY (ad Yt (ad UV (ad QO (ad Ys (ad LU (ad Yr (ad UU (ad QM (ad LS eZ)))))))))):Ev []) f64 (aN tA 0x100140810140810140805008180140804140804140805020140805020140b04800a04028100a058241 [0x19b8002000041020042,0x80080000000,0x80080000000]) [.st .asked] [.bo] Jk
noncomputable def Ic:Cb 15:=b1 ((ad ab6 (ad QP eZ)):Ev []) f15 (aN tA 0x1041 []) [.st .Program,.st .Func,.st .Instr] [.bo] (fun x=>MC x.1 x.2.1 x.2.2)
noncomputable def US:Cb 16:=b0 ((ad aaL (ad xY eZ)):Ev []) f16 (aN tA 0x800a04028100a040281609041 []) [.st .Func,.st .Term] [.bo] (fun x=>VZ x.1 x.2)
noncomputable def QF:Cb 35:=b1 ((ad Ic (ad US eZ)):Ev []) f35 (aN tA 0x100028100028105901106b0482c8088358241 [0x30108000308200b283084,0x1304200018308301244c2ca183088]) [.st .Program,.st .Func] [.bo] (fun x=>Jb x.1 x.2)
noncomputable def G4:Cb 61:=b1 ((ad ⟨_,zq⟩ eZ):Ev []) f61 (aN tA 0x801020b80220d609041 [0x3f08d04400000030b143,0xfc208000000d30b144]) [.mp .s .bo,.st .Block] [.mp .s .bo] (fun x=>Mi x.1 x.2)
noncomputable def QL:Cb 160:=b0 (eZ:Ev []) f160 (aN tA 0x80014082c8088358241 [0xb042000000289043]) [.st .Func,.s] [uI,.bo] (fun x=>Jg x.1 x.2)
noncomputable def ab2:Cb 97:=b1 ((ad QL eZ):Ev eP) f97 (aN tA 0x400102082e008835820b20220d609041 [0x4410cb10000104040f043,0x6810cb1000010406584503c4047,0x32c200004101a6584503c4048]) [.st .Func] [.sl (.sl uI)] VU
noncomputable def Yp:Cb 198:=b0 (eZ:Ev []) f198 (aN tA 0x80014082c8088358241 [0x80420000001c1003]) [.sl uI,uI] [uI] (fun x=>RF x.1 x.2)
noncomputable def UK:Cb 161:=b6 ((ad Yp eZ):Ev []) f161 (aN tA 0x41 []) [.sl uI,uI] [.bo] (fun x(_:True)=>Mr x.1 x.2)
noncomputable def QH:Cb 98:=b1 ((ad UK eZ):Ev eP) f98 (aN tA 0x10004202e008835820b20220d609041 [0xd0432c400000030b003,0x140432c40000004d234c2c4007,0xcb0800000144d234c2c4008,0xa000800000f70544d234c2c710300a]) [.sl (.sl uI)] [.sl (.sl uI)] Jd
noncomputable def QG:Cb 99:=b8 ((ad (bA (bI (eZ:Ev eW) 162 f162 (aN tA 0x20028404100105024160204d641040050241041 [0x63451441060000001bc0bc03c004,0x1638002000006dc5dc4dc31bc0bc03c206144008]))) (ad (bA (bI (eZ:Ev eO) 163 f163 (aN tA 0x640409ac1 [0x1373030420460000002bc13c003]))) eZ)):Ev eO) f99 (aN tA 0x41101 [0x105080000000]) [.sl (.sl uI)] [.sl uI] Jc
noncomputable def LJ:Cb 100:=b0 (eZ:Ev []) f100 (aN tA 0x800b20220d609041 [0x608a0440000002480c3]) [.st .Func] [.mp .s .bo] EI
noncomputable def UD:Cb 101:=b8 (eZ:Ev []) f101 (aN tA 0x20204160220d609040050241 [0xc38a084000000305043]) [.mp .s .bo,.mp .s .bo] [.mp .s .bo] (fun x=>Mk x.1 x.2)
noncomputable def UC:Cb 102:=b1 ((ad ⟨_,zq⟩ eZ):Ev []) f102 (aN tA 0x800b20220d609041 [0x3f08d04400000030b143]) [.mp .s .bo,.st .Block] [.mp .s .bo] (fun x=>Mj x.1 x.2)
noncomputable def Yj:Cb 59:=b8 ((ad G4 (ad ab2 (ad QH (ad QG (ad LJ (ad UD (ad UC eZ))))))):Ev []) f59 (aN tA 0x800212020206001020b80220d60901030105901106b04160204d609041041041 [0x2001cf18f180001040144043,0x7c12001cf18f20000104079d144045,0xb4020000411f71b709f79d2881c614404a,0x2c04b4040000411f71b70aba9f79d2881c614404c,0x2d0080001047dc6dc2b2ba9f79d2881c614404d,0xb4020000411f71b709f79d2881c614404a,0x80020000411f71b709f79d2ca1c614404a,0x54e00080001047dc6dc27de74b2881c614404b]) [.st .Func] [.sl (.mp .s .bo)] Rz
noncomputable def UQ:Cb 105:=b8 ((ad (bA (bI ((ad (bS 21 (bA (bI (eZ:Ev []) 199 f199 (aN tA 0x2041 []))) (bS 39 (bA (bI (eZ:Ev []) 199 f199 (aN tA 0x2041 []))) (bA (bI (eZ:Ev []) 199 f199 (aN tA 0x2041 []))))) eZ):Ev []) 165 f165 (aN tA 0xb80220d6082c808835820005c01106b041640441ac12002e0088358241 [0x13a0910440000c1e82006f05f04f03f02f01f00f103c300b,0x4e8208000307a0801bc17c13c0fc0bc07c03c4503c300c,0x13a09c0440000c1e82006f05f04f03f02f01f00f1b68300b,0x4e828c110000307a0801bc17c13c0fc0bc07c03c8a171b68300e,0x13a0820000c1e82006f05f04f03f02f01f00f238a171b68300f,0x13a0b004400007a0401bc17c13c0fc0bc07c03cbee00a,0x4e82037e01100001e81006f05f04f03f02f01f00f36d70bee00d,0x13a08200007a0401bc17c13c0fc0bc07c03c037e36d70bee00e]))) (ad QI eZ)):Ev []) f105 (aN tA 0x41041 []) [.st .Instr] [.sl .s] Mw
noncomputable def QA:Cb 60:=b1 ((ad ⟨_,zq⟩ (ad (bA (bI (eZ:Ev []) 104 f104 (aN tA 0x80014082c8088358241 [0x90420001fa0fa080fc14fc4bc47c43c3fc3bc37c33c2fc1fc17c0fc20700f]))) (ad UQ (ad (bA (bI (eZ:Ev []) 106 f106 (aN tA 0x41 []))) eZ)))):Ev []) f60 (aN tA 0x2001020028420b80220d609041 [0x3f08d0440000c100c2c50c4,0xfc208000304034c2c50c5,0x5400800070c203f04d30b1c50c6,0x100080000000]) [.mp .s .bo,.st .Block] [.bo] (fun x=>I6 x.1 x.2)
noncomputable def Yq:Cb 201:=b0 (eZ:Ev []) f201 (aN tA 0x80014082c8088358241 [0x80420000001c1003]) [.sl .s,.s] [uI] (fun x=>RG x.1 x.2)
noncomputable def UL:Cb 167:=b0 ((ad Yq eZ):Ev []) f167 (aN tA 0x41 []) [.sl .s,.s] [.bo] (fun x=>Ms x.1 x.2)
noncomputable def QB:Cb 107:=b0 ((ad UL eZ):Ev []) f107 (aN tA 0x80014082c8088358241 [0x30108000000b282044]) [.st .Func,.s,.s] [.bo] (fun x=>I7 x.1 x.2.1 x.2.2)
noncomputable def UE:Cb 62:=b0 ((ad (bA (bI (eZ:Ev []) 106 f106 (aN tA 0x41 []))) (ad QB eZ)):Ev []) f62 (aN tA 0x80000508082c808835820b20220d6082c8088358241 [0x1004200008100f382044,0x5c10800060820165503ce182048,0x1e04200018208075c5d65503ce18204b,0x38e0008000608201e75c5d65503ce18204c]) [.st .Func,.mp .s (.mp .s .bo)] [.bo] (fun x=>Ml x.1 x.2)
noncomputable def CR:Cb 13:=b1 ((ad Yj (ad QA (ad G4 (ad UE eZ)))):Ev []) f13 (aN tA 0x800028120b80220d609041 [0x644a044000041009203044,0x191080001040289203045]) [.st .Func] [.bo] I8
noncomputable def zp:Cb 7:=b1 ((ad (bS 13 (bA (bI ((ak (bK ((ad xb (ad QE eZ)):Ev []) 27 f27 (aN tA 0x41 [])) (ak (bK ((ad LM eZ):Ev []) 30 f30 (aN tA 0x41 [])) (ak (bK ((ad Ib eZ):Ev []) 32 f32 (aN tA 0x41 [])) eZ))):Ev []) 26 f26 (aN tA 0x4000a041640441998241 []))) (bA (bI ((ak (bK ((ad CS eZ):Ev []) 33 f33 (aN tA 0x41 [])) (ak (bK ((ad QF eZ):Ev []) 34 f34 (aN tA 0x41 [])) (ak (bK ((ad CR eZ):Ev []) 36 f36 (aN tA 0x41 [])) eZ))):Ev []) 26 f26 (aN tA 0x4000a041640441998241 [])))) eZ):Ev []) f7 (aN tA 0x800140820b20220d609001409041 [0x15042000000513043]) [.st .Program] [uI] EJ
noncomputable def w6:Cb 24:=b0 (eZ:Ev []) f24 (aN tA 0x801020b80210d609040050241 [0x181141100000001002,0x5c0080000006141004,0x5042000000181003]) [.sl (.st .Var),uI] [uI] (fun x=>BN x.1 x.2)
noncomputable def G6:Cb 179:=b0 (eZ:Ev []) f179 (aN tA 0x20320210d609040050241 [0x181141100000001002,0x5c0080000006141004]) [.sl (.st .Arg),uI] [uI] (fun x=>BM x.1 x.2)
noncomputable def Eh:Cb 125:=b1 ((ad G6 eZ):Ev []) f125 (aN tA 0x2004082e008435824001020b80210d60808180b20210d60901030040c040050841 [0x14002000081002042,0x5042000081002042,0x5042000081002042,0x6045044000081002042,0xf78002000081006142044,0x141080002040182043,0x1c1141100002040182043,0x62e000800020401c6142045,0x5042000081007182044,0x8045044000081002042,0x2378002000081008142044,0x141080002040202043]) [.st .Instr,uI] [uI] (fun x=>Ak x.1 x.2)
noncomputable def Eg:Cb 75:=b1 ((ad Eh eZ):Ev []) f75 (aN tA 0x101901086b048002041700421ac105901086b0480c808435824040c040050841 [0x1d002000081002042,0x5042000081002042,0x6045044000081002042,0xe38002000081006142044,0x7045044000081002042,0x13b8002000081007142044,0x2011411000020401c2043,0x68e00080002040207142045,0x50420000810081c2044,0x9045044000081002042,0x24f8002000081009142044]) [.st .Block,uI] [uI] (fun x=>Aj x.1 x.2)
noncomputable def Qz:Cb 25:=b1 ((ad w6 (ad Eg eZ)):Ev []) f25 (aN tA 0x80c808435824040c01030040c040050241 [0x5042000081002042,0x5042000081002042,0x5042000081002042,0x6045044000081002042,0x35002000081006142044]) [.st .Func,uI] [uI] (fun x=>I5 x.1 x.2)
noncomputable def aeI:Cb 6:=b1 ((ad w6 (ad Qz eZ)):Ev []) f6 (aN tA 0x20320210d60901901086b04801020b80210d609040050841 [0x18002000081002042,0x6045044000081002042,0x26002000081006142044,0x141080002040182043,0x7045044000081002042,0x1238002000081007142044,0x8045044000081002042,0x17b8002000081008142044]) [.st .Program,uI] [.bo] (fun x=>Y4 x.1 x.2)
noncomputable def Yk:Cb 138:=b0 (eZ:Ev []) f138 (aN tA 0x41 []) [.b8] [.bo] RA
noncomputable def UO:Cb 88:=b1 ((ad Yk eZ):Ev []) f88 (aN tA 0x4008100a1000818846e0081358241041 [0x6045044486000000001,0x141112100000006002,0x340080000137046144004,0x112080000006002,0x840080000137046144004]) [.s] [.sl .s,.bo] Mu
noncomputable def UN:Cb 42:=b0 ((ad LL (ad UF (ad UO eZ))):Ev []) f42 (aN tA 0x801020028120820b80220d609040050241 [0x40115310000000f382,0x54c200000040f383]) [.s] [.sl (.st .Line),uI,uI] Mt
noncomputable def iE:Cb 92:=b0 (eZ:Ev []) f92 (aN tA 0x80014082c8088358241 [0x9042000000207043]) [.sl uI,uI] [.bo] (fun x=>V4 x.1 x.2)
noncomputable def fy:Cb 152:=b4 ((ad iD (ad (bI ((ad ac eZ):Ev []) 91 f91 (aN tA 0x81 [])) eZ)):Ev []) f152 (aN tA 0x1041 []) [.s] [.s] (fun x(_:True)=>RS x)
noncomputable def aeL:Cb 153:=b0 ((ad UB eZ):Ev []) f153 (aN tA 0x80014082c8081358241 [0x4042000000001]) [.s] [uI,.bo] Y8
noncomputable def tG:Cb 196:=b0 ((ad tH eZ):Ev []) f196 (aN tA 0x800a04808180000a10b20204d60904040c040050841 [0xd002000000001,0x4042000000001,0x181141100000004002,0x840080000006144004,0x5042000000001]) [.s] [uI,.bo] Mx
noncomputable def UG:Cb 237:=b0 ((ad Ee (ad QD (ad LK eZ))):Ev []) f237 (aN tA 0x2002812080002812082c8088358241001421041 [0x15002000000101,0x601194100000017102]) [.s] [uI,.bo] Mp
noncomputable def Ei:Cb 235:=b0 ((ad tG (ad UG eZ)):Ev []) f235 (aN tA 0x40050241001408241 []) [.s] [.st .Arg,.bo] Al
noncomputable def QQ:Cb 223:=b0 ((ad iD (ad tG (ad Ei eZ))):Ev []) f223 (aN tA 0x20020028420a04028100a040281641 [0x26002000081004082]) [.s] [.st .Arg,.bo] Jl
noncomputable def zx:Cb 194:=b4 ((ad (bI ((ad ac eZ):Ev []) 91 f91 (aN tA 0x81 [])) (ad QQ eZ)):Ev []) f194 (aN tA 0x44041 [0x5102005102]) [.s,.bo] [.st .Arg] (fun x(_:True)=>V2 x.1 x.2)
noncomputable def OR:Cb 154:=b4 ((ad zx eZ):Ev []) f154 (aN tA 0x800b20220d609041 [0xa045544000000248043]) [.sl .s,.bo] [.sl (.st .Arg)] (fun x hp=>RO x.1 x.2 hp)
noncomputable def Yu:Cb 90:=b5 ((ad (bI ((ad (bI ((ad ac eZ):Ev eS) 91 f91 (aN tA 0x81 [])) (ad iE eZ)):Ev eS) 45 f45 .l) (ad (bS 38 (bI ((ad ac eZ):Ev eS) 91 f91 (aN tA 0x81 [])) (bS 50 (bI ((ad ac eZ):Ev eS) 91 f91 (aN tA 0x81 [])) (bS 68 (bI ((ad ac eZ):Ev eS) 91 f91 (aN tA 0x81 [])) (bS 88 (bI ((ad ac eZ):Ev eS) 91 f91 (aN tA 0x81 [])) (bI ((ad ac eZ):Ev eS) 91 f91 (aN tA 0x81 [])))))) (ad UB (ad fy (ad aeL (ad (bS 76 (bI ((ad zx eZ):Ev eS) 154 f154 (aN tA 0x800b20220d609041 [0x2811551000011c40803f93b93392f92b92792391f91b91791390f90b9efc27c1fc17c13c03c248056])) OR) (ad (bI ((ad (bI ((ad ac eZ):Ev eS) 189 f189 (aN tA 0x81 [])) eZ):Ev eS) 155 f155 (aN tA 0x1 [])) (ad (bI ((ad (bI (eZ:Ev eS) 192 f192 (aN tA 0x41 [])) eZ):Ev eS) 156 f156 (aN tA 0x1041 [])) eZ)))))))):Ev eS) f90 (aN tA 0x42022020820020a04020a11c041041041001424041 [0x45c1584000040004002,0x17002000044040101003,0x1180800011c1007144004,0x3be000800011c4080247144005,0x19080000005002,0x88e00080001000001]) [.fr,.ow [.fr,.ow [.fr,.fr]],.ow [.fr,.fr],.ow [.fr,.fr],.ow [.fr,.fr,.ow [.fr,.fr],.ow [.fr,.fr],.ow [.fr,.ow [.fr,.fr],.ow [.fr,.fr,.fr,.fr,.ow [.fr,.fr,.fr,.fr],.ow [.fr,.fr]],.fr,.fr,.fr,.fr,.fr,.fr]],.fr,.fr,.fr,.fr] (.st .Reader) [.sl .s] [] RP
noncomputable def ab9:Cb 139:=b5 ((ad (bI ((ad ac eZ):Ev eS) 91 f91 (aN tA 0x81 [])) eZ):Ev eS) f139 (aN tA 0x1 []) [.fr,.ow [.fr,.ow [.fr,.fr]],.ow [.fr,.fr],.ow [.fr,.fr],.ow [.fr,.fr,.ow [.fr,.fr],.ow [.fr,.fr],.ow [.fr,.ow [.fr,.fr],.ow [.fr,.fr,.fr,.fr,.ow [.fr,.fr,.fr,.fr],.ow [.fr,.fr]],.fr,.fr,.fr,.fr,.fr,.fr]],.fr,.fr,.fr,.fr] (.st .Reader) [.sl .s] [] V6
noncomputable def UW:Cb 140:=b5 ((ad (bI ((ad (bI ((ad ac eZ):Ev eS) 91 f91 (aN tA 0x81 [])) (ad iE eZ)):Ev eS) 45 f45 .l) (ad (bI ((ad ac eZ):Ev eS) 91 f91 (aN tA 0x81 [])) (ad fy (ad (bI ((ad ac eZ):Ev eS) 189 f189 (aN tA 0x81 [])) eZ)))):Ev eS) f140 (aN tA 0x4041041 [0x642000000001]) [.fr,.ow [.fr,.ow [.fr,.fr]],.ow [.fr,.fr],.ow [.fr,.fr],.ow [.fr,.fr,.ow [.fr,.fr],.ow [.fr,.fr],.ow [.fr,.ow [.fr,.fr],.ow [.fr,.fr,.fr,.fr,.ow [.fr,.fr,.fr,.fr],.ow [.fr,.fr]],.fr,.fr,.fr,.fr,.fr,.fr]],.fr,.fr,.fr,.fr] (.st .Reader) [.sl .s] [] MF
noncomputable def tJ:Cb 190:=b4 ((ad iD (ad (bI ((ad ac eZ):Ev []) 91 f91 (aN tA 0x81 [])) eZ)):Ev []) f190 (aN tA 0x1101 [0x1]) [.s] [.s] (fun x(_:True)=>RQ x)
noncomputable def UX:Cb 141:=b5 ((ad (bI ((ad (bI ((ad ac eZ):Ev eS) 91 f91 (aN tA 0x81 [])) (ad iE eZ)):Ev eS) 45 f45 .l) (ad (bI ((ad ac eZ):Ev eS) 91 f91 (aN tA 0x81 [])) (ad fy (ad (bI ((ad ac eZ):Ev eS) 189 f189 (aN tA 0x81 [])) (ad tJ eZ))))):Ev eS) f141 (aN tA 0x1044041 [0x4202004103001000001]) [.fr,.ow [.fr,.ow [.fr,.fr]],.ow [.fr,.fr],.ow [.fr,.fr],.ow [.fr,.fr,.ow [.fr,.fr],.ow [.fr,.fr],.ow [.fr,.ow [.fr,.fr],.ow [.fr,.fr,.fr,.fr,.ow [.fr,.fr,.fr,.fr],.ow [.fr,.fr]],.fr,.fr,.fr,.fr,.fr,.fr]],.fr,.fr,.fr,.fr] (.st .Reader) [.sl .s] [] MG
noncomputable def QS:Cb 142:=b5 ((ad (bI ((ad (bI ((ad ac eZ):Ev eS) 91 f91 (aN tA 0x81 [])) (ad iE eZ)):Ev eS) 45 f45 .l) (ad (bI ((ad ac eZ):Ev eS) 91 f91 (aN tA 0x81 [])) (ad fy (ad (bI ((ad ac eZ):Ev eS) 189 f189 (aN tA 0x81 [])) (ad tJ eZ))))):Ev eS) f142 (aN tA 0x4044041 [0x4202004103001000001,0x642000000001]) [.fr,.ow [.fr,.ow [.fr,.fr]],.ow [.fr,.fr],.ow [.fr,.fr],.ow [.fr,.fr,.ow [.fr,.fr],.ow [.fr,.fr],.ow [.fr,.ow [.fr,.fr],.ow [.fr,.fr,.fr,.fr,.ow [.fr,.fr,.fr,.fr],.ow [.fr,.fr]],.fr,.fr,.fr,.fr,.fr,.fr]],.fr,.fr,.fr,.fr] (.st .Reader) [.sl .s] [] Jo
noncomputable def CU:Cb 191:=b4 ((ad (bI ((ad ac eZ):Ev []) 91 f91 (aN tA 0x81 [])) (ad tG eZ)):Ev []) f191 (aN tA 0x41041 []) [.s,uI,uI] [uI] (fun x(_:True)=>Jp x.1 x.2.1 x.2.2)
noncomputable def QR:Cb 143:=b5 ((ad (bI ((ad (bI ((ad ac eZ):Ev eS) 91 f91 (aN tA 0x81 [])) (ad iE eZ)):Ev eS) 45 f45 .l) (ad (bI ((ad ac eZ):Ev eS) 91 f91 (aN tA 0x81 [])) (ad fy (ad (bI ((ad ac eZ):Ev eS) 189 f189 (aN tA 0x81 [])) (ad CU eZ))))):Ev eS) f143 (aN tA 0x4044041 [0x4682004103001000001,0x642000000001]) [.fr,.ow [.fr,.ow [.fr,.fr]],.ow [.fr,.fr],.ow [.fr,.fr],.ow [.fr,.fr,.ow [.fr,.fr],.ow [.fr,.fr],.ow [.fr,.ow [.fr,.fr],.ow [.fr,.fr,.fr,.fr,.ow [.fr,.fr,.fr,.fr],.ow [.fr,.fr]],.fr,.fr,.fr,.fr,.fr,.fr]],.fr,.fr,.fr,.fr] (.st .Reader) [.sl .s] [] Jn
noncomputable def Ig:Cb 144:=b5 ((ad (bI ((ad (bI ((ad ac eZ):Ev eS) 91 f91 (aN tA 0x81 [])) (ad iE eZ)):Ev eS) 45 f45 .l) (ad (bI ((ad ac eZ):Ev eS) 91 f91 (aN tA 0x81 [])) (ad fy (ad (bI ((ad ac eZ):Ev eS) 189 f189 (aN tA 0x81 [])) (ad tJ eZ))))):Ev eS) f144 (aN tA 0x4044041 [0x46c2004103001000001,0x642000000001]) [.fr,.ow [.fr,.ow [.fr,.fr]],.ow [.fr,.fr],.ow [.fr,.fr],.ow [.fr,.fr,.ow [.fr,.fr],.ow [.fr,.fr],.ow [.fr,.ow [.fr,.fr],.ow [.fr,.fr,.fr,.fr,.ow [.fr,.fr,.fr,.fr],.ow [.fr,.fr]],.fr,.fr,.fr,.fr,.fr,.fr]],.fr,.fr,.fr,.fr] (.st .Reader) [.sl .s] [] BX
noncomputable def UZ:Cb 145:=b5 ((ad (bI ((ad (bI ((ad ac eZ):Ev eS) 91 f91 (aN tA 0x81 [])) (ad iE eZ)):Ev eS) 45 f45 .l) (ad (bI ((ad ac eZ):Ev eS) 91 f91 (aN tA 0x81 [])) (ad fy (ad (bI ((ad ac eZ):Ev eS) 189 f189 (aN tA 0x81 [])) (ad tJ (ad (bI (eZ:Ev eS) 192 f192 (aN tA 0x41 [])) eZ)))))):Ev eS) f145 (aN tA 0x1044041 [0x4202004103001000001]) [.fr,.ow [.fr,.ow [.fr,.fr]],.ow [.fr,.fr],.ow [.fr,.fr],.ow [.fr,.fr,.ow [.fr,.fr],.ow [.fr,.fr],.ow [.fr,.ow [.fr,.fr],.ow [.fr,.fr,.fr,.fr,.ow [.fr,.fr,.fr,.fr],.ow [.fr,.fr]],.fr,.fr,.fr,.fr,.fr,.fr]],.fr,.fr,.fr,.fr] (.st .Reader) [.sl .s] [] MI
noncomputable def Ii:Cb 146:=b5 ((ad (bI ((ad (bI ((ad ac eZ):Ev eS) 91 f91 (aN tA 0x81 [])) (ad iE eZ)):Ev eS) 45 f45 .l) (ad (bI ((ad ac eZ):Ev eS) 91 f91 (aN tA 0x81 [])) (ad fy (ad (bI ((ad ac eZ):Ev eS) 189 f189 (aN tA 0x81 [])) (ad tJ (ad (bI (eZ:Ev eS) 192 f192 (aN tA 0x41 [])) eZ)))))):Ev eS) f146 (aN tA 0x101044041 [0x4202004103001000001,0x642000000001]) [.fr,.ow [.fr,.ow [.fr,.fr]],.ow [.fr,.fr],.ow [.fr,.fr],.ow [.fr,.fr,.ow [.fr,.fr],.ow [.fr,.fr],.ow [.fr,.ow [.fr,.fr],.ow [.fr,.fr,.fr,.fr,.ow [.fr,.fr,.fr,.fr],.ow [.fr,.fr]],.fr,.fr,.fr,.fr,.fr,.fr]],.fr,.fr,.fr,.fr] (.st .Reader) [.sl .s] [] BY
noncomputable def U0:Cb 147:=b5 ((ad (bS 28 (bI ((ad ac eZ):Ev eS) 91 f91 (aN tA 0x81 [])) (bI ((ad ac eZ):Ev eS) 91 f91 (aN tA 0x81 []))) (ad fy (ad (bI ((ad ac eZ):Ev eS) 189 f189 (aN tA 0x81 [])) (ad (bI (eZ:Ev eS) 192 f192 (aN tA 0x41 [])) (ad (bI (eZ:Ev eS) 193 f193 (aN tA 0x41 [])) eZ))))):Ev eS) f147 (aN tA 0x101041044 [0x40001002,0x642000000001]) [.fr,.ow [.fr,.ow [.fr,.fr]],.ow [.fr,.fr],.ow [.fr,.fr],.ow [.fr,.fr,.ow [.fr,.fr],.ow [.fr,.fr],.ow [.fr,.ow [.fr,.fr],.ow [.fr,.fr,.fr,.fr,.ow [.fr,.fr,.fr,.fr],.ow [.fr,.fr]],.fr,.fr,.fr,.fr,.fr,.fr]],.fr,.fr,.fr,.fr] (.st .Reader) [.sl .s] [] MK
noncomputable def ab8:Cb 148:=b5 ((ad (bI ((ad (bI ((ad ac eZ):Ev eS) 91 f91 (aN tA 0x81 [])) (ad iE eZ)):Ev eS) 45 f45 .l) (ad (bI ((ad ac eZ):Ev eS) 91 f91 (aN tA 0x81 [])) (ad fy (ad (bI ((ad (bI ((ad ac eZ):Ev eS) 189 f189 (aN tA 0x81 [])) eZ):Ev eS) 155 f155 (aN tA 0x1 [])) (ad (bI ((ad (bI (eZ:Ev eS) 192 f192 (aN tA 0x41 [])) eZ):Ev eS) 156 f156 (aN tA 0x1041 [])) (ad (bI ((ad ac eZ):Ev eS) 189 f189 (aN tA 0x81 [])) (ad zx eZ))))))):Ev eS) f148 (aN tA 0x82080e0081358241041 [0x11c141100001000101003,0x4702000040005101004]) [.fr,.ow [.fr,.ow [.fr,.fr]],.ow [.fr,.fr],.ow [.fr,.fr],.ow [.fr,.fr,.ow [.fr,.fr],.ow [.fr,.fr],.ow [.fr,.ow [.fr,.fr],.ow [.fr,.fr,.fr,.fr,.ow [.fr,.fr,.fr,.fr],.ow [.fr,.fr]],.fr,.fr,.fr,.fr,.fr,.fr]],.fr,.fr,.fr,.fr] (.st .Reader) [.sl .s] [] V5
noncomputable def UY:Cb 149:=b5 ((ad (bI ((ad (bI ((ad ac eZ):Ev eS) 91 f91 (aN tA 0x81 [])) (ad iE eZ)):Ev eS) 45 f45 .l) (ad (bI ((ad ac eZ):Ev eS) 91 f91 (aN tA 0x81 [])) (ad fy (ad (bS 59 (bI ((ad ac eZ):Ev eS) 189 f189 (aN tA 0x81 [])) (bI ((ad ac eZ):Ev eS) 189 f189 (aN tA 0x81 []))) (ad CU (ad zx (ad (bI ((ad (bI ((ad (bI (eZ:Ev eS) 192 f192 (aN tA 0x41 [])) eZ):Ev eS) 156 f156 (aN tA 0x1041 [])) eZ):Ev eS) 195 f195 (aN tA 0x1041 [])) eZ))))))):Ev eS) f149 (aN tA 0x82080e0081358244041 [0x11d0801040c0040001002,0x11e141100001000101003,0x4782000040005101004]) [.fr,.ow [.fr,.ow [.fr,.fr]],.ow [.fr,.fr],.ow [.fr,.fr],.ow [.fr,.fr,.ow [.fr,.fr],.ow [.fr,.fr],.ow [.fr,.ow [.fr,.fr],.ow [.fr,.fr,.fr,.fr,.ow [.fr,.fr,.fr,.fr],.ow [.fr,.fr]],.fr,.fr,.fr,.fr,.fr,.fr]],.fr,.fr,.fr,.fr] (.st .Reader) [.sl .s] [] MH
noncomputable def QT:Cb 150:=b5 ((ad (bI ((ad (bI ((ad ac eZ):Ev eS) 91 f91 (aN tA 0x81 [])) (ad iE eZ)):Ev eS) 45 f45 .l) (ad (bI ((ad ac eZ):Ev eS) 91 f91 (aN tA 0x81 [])) (ad fy (ad OR (ad (bI ((ad ac eZ):Ev eS) 189 f189 (aN tA 0x81 [])) (ad (bI ((ad (bI ((ad (bI (eZ:Ev eS) 192 f192 (aN tA 0x41 [])) eZ):Ev eS) 156 f156 (aN tA 0x1041 [])) eZ):Ev eS) 195 f195 (aN tA 0x1041 [])) eZ)))))):Ev eS) f150 (aN tA 0x101044041 [0x47c2004103001000001,0x642000000001]) [.fr,.ow [.fr,.ow [.fr,.fr]],.ow [.fr,.fr],.ow [.fr,.fr],.ow [.fr,.fr,.ow [.fr,.fr],.ow [.fr,.fr],.ow [.fr,.ow [.fr,.fr],.ow [.fr,.fr,.fr,.fr,.ow [.fr,.fr,.fr,.fr],.ow [.fr,.fr]],.fr,.fr,.fr,.fr,.fr,.fr]],.fr,.fr,.fr,.fr] (.st .Reader) [.sl .s] [] Jq
noncomputable def ab7:Cb 151:=b5 ((ad (bI ((ad (bI ((ad ac eZ):Ev eS) 91 f91 (aN tA 0x81 [])) (ad iE eZ)):Ev eS) 45 f45 .l) (ad (bS 33 (bI ((ad ac eZ):Ev eS) 91 f91 (aN tA 0x81 [])) (bS 45 (bI ((ad ac eZ):Ev eS) 91 f91 (aN tA 0x81 [])) (bS 65 (bI ((ad ac eZ):Ev eS) 91 f91 (aN tA 0x81 [])) (bS 16 (bI ((ad ac eZ):Ev eS) 91 f91 (aN tA 0x81 [])) (bI ((ad ac eZ):Ev eS) 91 f91 (aN tA 0x81 [])))))) (ad fy (ad (bI ((ad (bI (eZ:Ev eS) 192 f192 (aN tA 0x41 [])) eZ):Ev eS) 156 f156 (aN tA 0x1041 [])) (ad zx (ad tG eZ)))))):Ev eS) f151 (aN tA 0x2004104028100a04028160c041 [0x4802000040004002,0x642000000001]) [.fr,.ow [.fr,.ow [.fr,.fr]],.ow [.fr,.fr],.ow [.fr,.fr],.ow [.fr,.fr,.ow [.fr,.fr],.ow [.fr,.fr],.ow [.fr,.ow [.fr,.fr],.ow [.fr,.fr,.fr,.fr,.ow [.fr,.fr,.fr,.fr],.ow [.fr,.fr]],.fr,.fr,.fr,.fr,.fr,.fr]],.fr,.fr,.fr,.fr] (.st .Reader) [.sl .s] [] V3
noncomputable def Yv:Cb 44:=b5 ((ad Ef (ad Yu (ad ab9 (ad UW (ad UX (ad QS (ad QR (ad Ig (ad UZ (ad Ii (ad U0 (ad ab8 (ad UY (ad QT (ad ab7 eZ))))))))))))))):Ev eS) f44 (aN tA 0x40c041010841 [0x480080001000101003,0x642000000001]) [.fr,.ow [.fr,.ow [.fr,.fr]],.ow [.fr,.fr],.ow [.fr,.fr],.ow [.fr,.fr,.ow [.fr,.fr],.ow [.fr,.fr],.ow [.fr,.ow [.fr,.fr],.ow [.fr,.fr,.fr,.fr,.ow [.fr,.fr,.fr,.fr],.ow [.fr,.fr]],.fr,.fr,.fr,.fr,.fr,.fr]],.fr,.fr,.fr,.fr] (.st .Reader) [.sl .s] [] RR
noncomputable abbrev e_yParse:Ev eS:=(ad UN (ad Yv (ad (bI ((ad (bI ((ad ac eZ):Ev eS) 91 f91 (aN tA 0x81 [])) (ad iE eZ)):Ev eS) 45 f45 .l) eZ)))
theorem KS(a:List UInt8)(KK:(Lt.Program×Int×Int)->Prop):yO a KK=Uw e_yParse.en f9 f43 [(.l,kL (f9.body.getD .skip)),(.l,kL (kR (f9.body.getD .skip))),((aN tA 0x881 [0x4883882846000000103083]),kL (kR (kR (f9.body.getD .skip)))),(.l,kL (kR (kR (kR (f9.body.getD .skip)))))] (aN tA 0x20820020b20220d609 [0x5596411001840c21000185c6103086]) .l (kR (kR (kR (kR (kR (f9.body.getD .skip)))))) [.s] [.st .Program,uI,uI] a KK:=kQ0
noncomputable def Ih:Cb 9:=⟨AU [.s] [.st .Program,uI,uI] kQ,DV (K5 e_yParse.ok mixed (fn:=f9) (l:=[(.l,kL (f9.body.getD .skip)),(.l,kL (kR (f9.body.getD .skip))),((aN tA 0x881 [0x4883882846000000103083]),kL (kR (kR (f9.body.getD .skip)))),(.l,kL (kR (kR (kR (f9.body.getD .skip)))))]) (an2:=(aN tA 0x20820020b20220d609 [0x5596411001840c21000185c6103086])) (anC:=.l) (id:=rgI (kL (kR (kR (kR (kR (f9.body.getD .skip))))))) (o1:=rgO (kL (kR (kR (kR (kR (f9.body.getD .skip)))))) 0) (o2:=rgO (kL (kR (kR (kR (kR (f9.body.getD .skip)))))) 1) (rest:=kR (kR (kR (kR (kR (f9.body.getD .skip)))))) kQ0 kQ0 kQ0 kQ0 kQ0 kQ0 kQ0 kQ0 kQ0 kQ0 kQ0 kQ0 kQ0 (fun a _ KK h=>KS a KK ▸ MJ a KK h))⟩
noncomputable def je:Cb 37:=b2 (eZ:Ev []) f37 .l [.ow [.fr,.fr]] (.st .Sheet) [.sl .s] [] (fun x y=>BQ x y)
noncomputable def xa:Cb 38:=b2 ((ad je eZ):Ev []) f38 (aN tA 0x1640441ac1 [0x23281100000009201004]) [.ow [.fr,.fr]] (.st .Sheet) [.s,.sl (.st .Var)] [] (fun x y=>BR x y.1 y.2)
noncomputable def G7:Cb 39:=b1 ((ad tH eZ):Ev []) f39 (aN tA 0x41 []) [uI] [.s] My
noncomputable def UH:Cb 133:=b0 ((ad Ee eZ):Ev []) f133 (aN tA 0x80c8081358241041 [0x50449040000000c1]) [uI] [.s] Mq
noncomputable def qg:Cb 80:=b1 ((ad tH (ad xd (ad UH eZ))):Ev []) f80 (aN tA 0x20028100a04028100a058240050241 []) [.st .Arg] [.s] Jm
noncomputable def ab5:Cb 134:=b1 ((ad qg eZ):Ev []) f134 (aN tA 0x800b20220d609041 [0x2010d2100000007182]) [.sl (.st .Arg)] [.sl .s] VX
noncomputable def G9:Cb 81:=b2 ((ad je (ad G7 (ad qg (ad UB (ad ab5 eZ))))):Ev []) f81 (aN tA 0x2e008835820000b80220d609101640441ac120808100a11c041010301041 [0x192080001103080103003,0x1d61921000010c1003002,0x240020000440c28011c6103005,0x8c11f80440000c10011b8045e03004,0xa4820000490c20011f8046e01178243006,0x15b804a484000043040055e01538047e011b8045e03007,0x2920800010c10015b8055e01538047e011b8045e03008,0x8c1ab8044000000069e01a38003,0x23080000001ab8069e01a38004]) [.ow [.fr,.fr]] (.st .Sheet) [.st .Instr] [] (fun x y=>BP x y)
noncomputable def LP:Cb 82:=b2 ((ad je (ad tH (ad qg eZ))):Ev []) f82 (aN tA 0x40840840b041 []) [.ow [.fr,.fr]] (.st .Sheet) [.st .Term] [] (fun x y=>EN x y)
noncomputable def xM:Cb 40:=b2 ((ad je (ad xa (ad qg (ad G9 (ad LP eZ))))):Ev []) f40 (aN tA 0xb20220d60900005c01106b04820b20220d609041640441ac1041041 [0x8df04400000079d003,0x23ac1100005040aa97de745007,0xd41212100001141034cebaa97de74500a,0x8482000045040d74cebaa97de74500b,0x23049e01100005040048e011f87de745007]) [.ow [.fr,.fr]] (.st .Sheet) [.st .Func] [] (fun x y=>ub x y)
noncomputable def LR:Cb 8:=b1 ((ad xb (ad je (ad xa (ad G7 (ad xM (ad ab0 eZ)))))):Ev []) f8 (aN tA 0x20028120800b20220d609001700441ac12080082c808835824040c040050241 [0x10942000041004042,0x109590440000410185c4044,0x1096e04400004102db04044,0x425080001040badb04045,0x10940fb804400000003de00f38103]) [.st .Program] [.s,uI] EP
end
end Go.Am
end

section
namespace Lt
open Go
def aa3(p:Program):Prop:=p.ok/\(Few p 6000=true->cO p/\(nW p).length<=4194304)
def K4(_:Program):Bool:=true
end Lt
end

section
namespace Go.Am
open Go
def Cm(KK:Bool->Prop):Prop:=
 have z3:=kQ [102,117,110,99,32,102,32,105,110,116,10,118,97,114,32,120,32,105,110,116,10,98,108,111,99,107,32,97,10,114,101,116,32,120,10];have c:=kQ [102,117,110,99,32,102,32,105,110,116,10,112,97,114,97,109,32,107,32,105,110,116,10,98,108,111,99,107,32,97,10,114,101,116,32,107,10];have b:=kQ [102,117,110,99,32,102,32,105,110,116,10,98,108,111,99,107,32,97,10,114,101,116,32,49,10,98,108,111,99,107,32,98,10,114,101,116,32,49,10];aa (α:=Bool) (fun a=>if(decide (c.2.2=0))=true then(if(decide (z3.2.2=0))=true then(if(decide (b.2.2=0))=true then((cO (c.1))/\if(decide ((di (c.1))=0))=true then((cO (z3.1))/\if(decide ((di (z3.1))=4))=true then((cO (b.1))/\a (decide ((di (b.1))=5)))else(a false))else(a false))else(a false))else(a false))else(a false)) (fun d=>KK d)
def m5(a:Lt.Program)(KK:Bool->Prop):Prop:=
 have z4:=kQ ((mU a).1);aa (α:=Bool) (fun l=>if(!Ed)=true then(l true)else((WG a 6000)/\if(!(Lt.Few a 6000))=true then(l true)else((cO a)/\l (!decide ((di a)=0))))) (fun o=>if o=true then(KK Ed)else((Fa a)/\aa (α:=Bool) (fun f=>if(!decide ((mU a).2=0))=true then(f true)else(if(!decide (z4.2.2=0))=true then(f true)else(if(!(Lt.Same a (z4.1)))=true then(f true)else((cO (z4.1))/\if(!decide ((di (z4.1))=0))=true then(f true)else((kC a)/\if(!(iW a))=true then(f true)else(f a.SSA)))))) (fun v4=>if v4=true then(KK false)else(ab (α:=Int) (fun n g=>have b:=a.Funcs.getD g.toNat default;(a.Funcs.length<=4611686018427387904->if(decide (g < (a.Funcs.length:Int)))=true then(((0:Int)<=g/\g.toNat<a.Funcs.length)/\aa (α:=Bool) (fun i=>(Ng b)/\if(!(gi b))=true then(i true)else((Nf b)/\if(!(jG b))=true then(i true)else((yh b)/\if(decide (200 < (yj b)))=true then(i true)else(i (decide (32 < ((b.Blocks).length:Int))))))) (fun p=>if p=true then(KK false)else(ab (α:=Int) (fun m d=>have z3:=((0:Int)<=d/\d.toNat < (b.Blocks).length);have e:=(b.Blocks).getD d.toNat default;((b.Blocks).length<=4611686018427387904->if(decide (d < ((b.Blocks).length:Int)))=true then(ab (α:=Int) (fun k c=>z3/\((e.Code).length<=4611686018427387904->if(decide (c < ((e.Code).length:Int)))=true then(z3/\((0:Int)<=c/\c.toNat < (e.Code).length)/\(WH a b ((e.Code).getD c.toNat default))/\if(!(wC a b ((e.Code).getD c.toNat default)))=true then(KK false)else(k (i64.wrap (c+1))))else(aa (α:=Bool) (fun h=>z3/\if(!(A4 b (Lt.Term.mk ((e.End).Kind) ((e.End).A) ((e.End).To) ((e.End).N))))=true then(h true)else(z3/\h (decide (0 < ((e.Phis).length:Int))))) (fun j=>if j=true then(KK false)else(m (i64.wrap (d+1))))))) 0)else(n (i64.wrap (g+1))))) 0)))else(KK true))) 0))))
abbrev afB:List UInt8:=[102,117,110,99,32,102,32,105,110,116,10,112,97,114,97,109,32,107,32,105,110,116,10,98,108,111,99,107,32,97,10,114,101,116,32,107,10]
abbrev aeV:Lt.Func:=⟨[102],[105,110,116],[⟨[107],[105,110,116]⟩],[],[⟨[97],[],[],⟨3,⟨1,[107],0⟩,[],0⟩⟩]⟩
abbrev ac9:Lt.Program:=⟨false,[],[],[],[aeV]⟩
abbrev afC:List UInt8:=[102,117,110,99,32,102,32,105,110,116,10,118,97,114,32,120,32,105,110,116,10,98,108,111,99,107,32,97,10,114,101,116,32,120,10]
abbrev YN:Lt.Func:=⟨[102],[105,110,116],[],[⟨[120],[105,110,116]⟩],[⟨[97],[],[],⟨3,⟨1,[120],0⟩,[],0⟩⟩]⟩
abbrev JV:Lt.Program:=⟨false,[],[],[],[YN]⟩
abbrev afD:List UInt8:=[102,117,110,99,32,102,32,105,110,116,10,98,108,111,99,107,32,97,10,114,101,116,32,49,10,98,108,111,99,107,32,98,10,114,101,116,32,49,10]
abbrev aeW:Lt.Func:=⟨[102],[105,110,116],[],[],[⟨[97],[],[],⟨3,⟨2,[],1⟩,[],0⟩⟩,⟨[98],[],[],⟨3,⟨2,[],1⟩,[],0⟩⟩]⟩
abbrev Nd:Lt.Program:=⟨false,[],[],[],[aeW]⟩
theorem tx0:kQ afB=(ac9,0,0):=by decide +kernel
theorem tx1:kQ afC=(JV,0,0):=by decide +kernel
theorem tx2:kQ afD=(Nd,0,0):=by decide +kernel
theorem Vy(b:Lt.Block)(h:b.End.To=[]):Lt.Gd [b]:=by
 have a:∀i,i<[b].length->i=0:=fun i hi=>by grind
 refine⟨Nat.zero_lt_one,fun i j hi hj _=>by grind,fun i hi=>?_,fun i hi s hs=>?_,fun k hk=>?_⟩
 ·grind
 ·grind
 ·rw[a k hk];exact .first Nat.zero_lt_one
theorem Us{f:Lt.Func}{b:Lt.Block}{v:List UInt8}(hf:f.Blocks=[b])(h:b.End.To=[]){k:Nat}(hb:Lt.Bare f v k):v ∉ f.Params.map (·.Name):=by
 cases hb<;>grind
theorem WI:cO ac9:=by
 grind [cO,kC,mK,ut]
theorem WJ:cO JV:=by
 grind [cO,kC,mK,ut]
theorem WK:cO Nd:=by
 grind [cO,kC,mK,ut]
theorem afS:di ac9=0:=by
 rw[U7,Fw];refine⟨by rfl,by rfl,by rfl,by rfl,fun f hf=>?_⟩;obtain rfl:=agI.1 hf;refine⟨vP (Vy _ rfl),by rfl,vP ⟨fun k hk=>?_,fun b hb x hx=>?_⟩⟩
 rotate_left
 ·grind
 obtain rfl:k=0:=by
  grind
 exact⟨fun j hj=>absurd hj (Nat.not_lt_zero j),fun _ _=>.inl (.inl fun hb=>Us (b:=(aeV.Blocks.getD 0 default)) rfl rfl hb (agI.2 rfl))⟩
theorem afT:di JV=4:=by
 have h1:bB JV=true:=by rfl
 have h2:jJ JV=true:=by rfl
 have h3:ki JV=true:=by rfl
 have h4:iW JV=true:=by rfl
 have h5:gi YN=true:=vP (Vy _ rfl)
 have h6:qi JV YN=true:=by rfl
 have h7:jG YN=false:=Ad fun h=>by
  rcases(h.1 0 Nat.zero_lt_one).2 (.inr rfl) rfl with(h|h)|h
  ·exact h (.first fun a=>by cases a)
  ·cases h
  ·cases h
 grind [di,B7]
theorem afU:di Nd=5:=by
 have h1:bB Nd=true:=by rfl
 have h2:jJ Nd=true:=by rfl
 have h3:ki Nd=true:=by rfl
 have h4:iW Nd=true:=by rfl
 have h5:gi aeW=false:=Ad fun g=>by
  have h:=g.re 1 (by decide)
  generalize hk:(1:Nat)=k at h;cases h<;>grind
 grind [di,B7]
theorem I9(KK:Bool->Prop)(h:KK Ed):Cm KK:=by
 have h:KK true:=h
 have e0:=tx0
 have a:=tx1
 have b:=tx2
 unfold afB at e0;unfold afC at a;unfold afD at b;unfold Cm;simp only[e0,a,b,afS,afT,afU,WI,WJ,WK,decide_true,if_true,true_and,aq];exact h
theorem Ai(p:Lt.Program)(hp:aa3 p)(KK:Bool->Prop)(h:KK (K4 p)):m5 p KK:=by
 obtain⟨okP,hr⟩:=hp;have h:KK true:=h
 unfold m5;dsimp only;intro J B;refine ifk (fun hc=>absurd hc (by decide)) (fun _=>⟨⟨okP,by decide⟩,ifk (fun hc=>B _ h) (fun hc=>?_)⟩);have hc:Lt.Few p 6000=true:=by simpa using hc
 obtain⟨hs,hl⟩:=hr hc;refine⟨hs,B _ (ifk (fun _=>h) (fun c=>?_))⟩;have c:di p=0:=by simpa using c
 obtain⟨h1,h2,h3,h4,h5⟩:=(U7 p).1 c;have e:=Dy h1
 have hq:kQ (nW p)=(p,0,0):=M5 h1 okP hl
 have K:mU p=(nW p,0):=by
  unfold mU;rw[if_pos h1,if_pos (by rw[<- e];exact hl),e]
 refine⟨okP,fun L y=>?_⟩;have o:p.Funcs.all sG=true/\p.SSA=false:=by
  have:jJ p=(p.Funcs.all sG&&!p.SSA):=rfl
  rw[this]at h2;simpa using h2
 have g:Lt.Same p p=true:=by simp[Lt.Same]
 simp only[K,hq,decide_true,g,c,h4,o.2,Bool.not_true,agA,if_false];refine⟨hs,hs.1,y _ (ifk (fun hc=>by simp at hc) (fun _=>?_))⟩;refine bN p.Funcs (fun _=>True) (fun R i f r hi hx t ih _=>?_) (fun R _=>?_) trivial
 ·intro hl;rw[if_pos (bP hi),Int.toNat_natCast,hx];obtain⟨g1,g2,g3⟩:=(Fw p p.Funcs).1 h5 f t;have gw:uX f=true:=agH.1 h3 f t
  have H:sG f=true:=agH.1 o.1 f t
  obtain⟨G,q2,E,F,D⟩:=hs.2 f t;unfold uX at gw;simp at gw;refine⟨⟨by omega,hi⟩,fun M v=>⟨q2,?_⟩⟩;rw[g1,g3];refine ifk (fun hc=>by simp at hc) (fun _=>⟨⟨⟨q2,EF.1 g1,E,F⟩,D⟩,ifk (fun hc=>by simp at hc) (fun _=>⟨trivial,ifk (fun hc=>by simp at hc;omega) (fun _=>v _ (ifk (fun hc=>by simp at hc;omega) (fun _=>?_)))⟩)⟩);refine bN f.Blocks (fun _=>True) (fun C k b r hk hb d u _=>?_) (fun C _=>?_) trivial
  ·intro w;rw[if_pos (bP hk),Int.toNat_natCast,hb];have a:=agH.1 g2 b d
   have l:=agH.1 H b d
   unfold Bt at a;unfold AP at l;simp at a l;refine bN b.Code (fun _=>True) (fun A j x r hj z m s _=>?_) (fun A _=>?_) trivial
   ·refine⟨⟨by omega,hk⟩,fun q=>?_⟩;rw[if_pos (bP hj),Int.toNat_natCast,z];exact⟨⟨by omega,hk⟩,⟨by omega,hj⟩,G b d x m,ifk (fun hc=>by simp[a.1 x m]at hc) (fun _=>s q trivial)⟩
   ·refine⟨⟨by omega,hk⟩,fun _=>?_⟩;rw[if_neg (by simp)];exact fun I n=>⟨⟨by omega,hk⟩,ifk (fun hc=>by simp[a.2]at hc) (fun _=>⟨⟨by omega,hk⟩,n _ (ifk (fun hc=>by simp[l.1]at hc) (fun _=>u w trivial))⟩)⟩
  ·intro _;rw[if_neg (by simp)];exact ih hl trivial
 ·intro _;rw[if_neg (by simp)];exact h
end Go.Am
end

section
namespace Go.Am
open Go Go.Proofs
set_option maxRecDepth 100000
section
def tS:List (Nat->Sp):=[(.sl · .bo),(.sl · uI)]
noncomputable def QC:Cb 5:=b0 ((ad zp (ad Ih eZ)):Ev []) f5 (aN tS 0x4041041 [0x80000000]) [] [.bo] (fun _=>I9 )
noncomputable def zt:Cb 46:=b0 (eZ:Ev []) f46 (aN tS 0x2000502c8081358240050241 [0x141080000001002]) [.sl (.st .Var),.sl (.st .Var)] [.bo] (fun x=>EM x.1 x.2)
noncomputable def LO:Cb 197:=b0 (eZ:Ev []) f197 (aN tS 0x2000502c8081358240050241 [0x141080000001002]) [.sl (.st .Arg),.sl (.st .Arg)] [.bo] (fun x=>EL x.1 x.2)
noncomputable def G3:Cb 158:=b0 ((ad LO eZ):Ev []) f158 (aN tS 0x800142320204d6090000502c80813582002842082c8081358240050841 [0xd80080003082003082,0x141080003082003082,0x18f80020001c60c21001c6143085,0x80420001c60c21001c6143085,0x241080003082003082,0x26780020000c2080243083]) [.st .Instr,.st .Instr] [.bo] (fun x=>BL x.1 x.2)
noncomputable def G8:Cb 93:=b0 ((ad G3 eZ):Ev []) f93 (aN tS 0x4000a05901026b048000281640409ac1001421640409ac12000502c8081358240050841 [0x45e00080003082003082,0x141080003082003082,0x181080003082003082,0x1ff80020000c2080183083,0x70420000c2080183083,0x201080003082003082]) [.st .Block,.st .Block] [.bo] (fun x=>BO x.1 x.2)
noncomputable def LI:Cb 47:=b0 ((ad zt (ad G8 eZ)):Ev []) f47 (aN tS 0x2000502c8081358240050841 [0xa80080003082003082,0x141080003082003082]) [.st .Func,.st .Func] [.bo] (fun x=>EH x.1 x.2)
noncomputable def ab1:Cb 10:=b0 ((ad zt (ad LI eZ)):Ev []) f10 (aN tS 0x800140b20204d609000281640409ac12000508c8081358240050841 [0xbc0080003082003082,0x141080003082003082,0x14f80020000c2080143083,0x181080003082003082,0x1c1080003082003082]) [.st .Program,.st .Program] [.bo] (fun x=>VT x.1 x.2)
def rj:An:=.s .l (.s (.j ⟨[1],[.loc 1],[],[.sl 23 .bo]⟩ .l (.c (.s .l .l) .l)) (.s .l (.s .l (.s (.j ⟨[1],[.loc 1],[],[.sl 61 .bo]⟩ .l (.c (.s .l .l) .l)) (.s (.s .l (.b (.lp ⟨[1],[.loc 1],[],[.sl 8 (.i .i64)]⟩ (.s (.s .l (.c .l .l)) (.s (.b (.s .l (.s (.j ⟨[1,8,9],[.loc 1,.loc 9],[],[.sl 92 .bo]⟩ .l (.c (.s .l .l) .l)) (.s .l (.b (.lp ⟨[1,8,9],[.loc 1,.loc 9],[],[.sl 10 (.i .i64)]⟩ (.s (.s .l (.c .l .l)) (.s (.b (.s (.s .l (.b (.lp ⟨[1,8,9,10],[.loc 1,.loc 9],[],[.sl 11 (.i .i64)]⟩ (.s (.s .l (.c .l .l)) (.s (.b (.s .l (.c (.s .l .l) .l))) .l))))) (.j ⟨[1,8,9,10],[.loc 1,.loc 9],[],[.sl 142 .bo]⟩ .l (.c (.s .l .l) .l)))) .l)))))))) .l))))) (.s .l .l))))))
noncomputable abbrev e_CheckSound:Ev []:=(ad QC (ad aeI (ad zp (ad LR (ad Ih (ad ab1 (ad Ib (ad CS (ad CR (ad G5 (ad Ic (ad US eZ))))))))))))
theorem xQ(a:Lt.Program)(KK:(Bool)->Prop):m5 a KK=GZ e_CheckSound.en f3 rj [.st .Program] [.bo] a KK:=kQ0
theorem BC:En.ok e_CheckSound.en:=e_CheckSound.ok
end
end Go.Am
end

section
namespace Go.Am
open Go
def Bd(d:Nat):Int:=562949953421312+6001*((min d 10:Nat):Int)
theorem OO(d:Nat):562949953421312<=Bd d/\Bd d<=562949953621322:=by grind [Bd]
def Pc(d:Nat)(b:Int)(w:Nat)(r:Int):Prop:=(6000<r/\r<=Bd d)\/(r=b+(w:Int)/\r<=6000)
def short(s:List UInt8):Prop:=s.length<=140737488355328
variable{d:Nat}{α:Type}
theorem ld(c:List α->Int->Int)(s:Int->α->Int)(w:α->Nat)(h0:∀b,c [] b=b)(h1:∀x r b,c (x::r) b=if b<=6000 then c r (s b x)else b)(ok:α->Prop)
  (hs:∀b x,ok x->0<=b->b<=6000->Pc d b (w x) (s b x)):∀(l:List α)(b:Int),(∀x∈l,ok x)->0<=b->b<=Bd d->Pc d b (l.map w).sum (c l b)
 |[],b,_,h2,h3=>by
  grind [Pc]
 |x::r,b,a,h2,h3=>by
  rw[h1];by_cases hb:b<=6000
  ·rw[if_pos hb];have hx:=hs b x (a x (by simp)) h2 hb
   have e:=OO d
   have h4:0<=s b x/\s b x<=Bd d:=by grind [Pc]
   have ih:=ld c s w h0 h1 ok hs r (s b x) (fun y hy=>a y (by simp[hy])) h4.1 h4.2
   grind [Pc]
  grind [Pc]
variable{k:Nat}{n:Int}
theorem lx(h1:0<=n)(h2:n<=1152921504606846976)(h3:k<=1152921504606846976):Lt.plus n k=n+(k:Int):=by
 grind [dk]
theorem lC(h1:0<=n)(h2:n<=4611686018427387904):i64.wrap n=n:=dk kQ1 kQ1
def Xu(v:Lt.Var):Nat:=v.Name.length+v.Type_.length
def uW(l:List Lt.Var):Nat:=l.length+(l.map Xu).sum
def Xt(a:Lt.Arg):Nat:=a.S.length
def uV(l:List Lt.Arg):Nat:=l.length+(l.map Xt).sum
def KM(b:Lt.Bind):Nat:=1+b.Name.length+b.A.S.length
def pR(f:Lt.Frame):Nat:=f.Func.length+f.Block.length+(f.Vars.map KM).sum
def KN(o:Lt.Virt):Nat:=o.Class.length+uV o.Vals
def kN(x:Lt.Instr):Nat:=1+x.Dst.length+x.Frames.length+x.Objs.length+x.Name.length+uV x.Args+(x.Frames.map pR).sum+(x.Objs.map KN).sum
def wIn(b:Lt.In):Nat:=1+b.Block.length+b.A.S.length
def NO(x:Lt.Phi):Nat:=1+x.Dst.length+(x.Ins.map wIn).sum
def wTo(t:List UInt8):Nat:=1+t.length
def iO(b:Lt.Block):Nat:=1+b.Name.length+b.End.A.S.length+(b.End.To.map wTo).sum+(b.Phis.map NO).sum+(b.Code.map kN).sum
def oE(f:Lt.Func):Nat:=1+f.Name.length+f.Result.length+uW f.Params+uW f.Vars+(f.Blocks.map iO).sum
def wE(c:Lt.Class):Nat:=c.Name.length+uW c.Fields
def qW(x:Lt.Extern):Nat:=1+x.Name.length
def KO(p:Lt.Program):Nat:=uW p.Globals+(p.Classes.map wE).sum+(p.Externs.map qW).sum+(p.Funcs.map oE).sum
def jA(v:Lt.Var):Prop:=short v.Name/\short v.Type_
def cX(a:Lt.Arg):Prop:=short a.S
def W3(b:Lt.Bind):Prop:=short b.Name/\cX b.A
def Nx(f:Lt.Frame):Prop:=short f.Func/\short f.Block/\∀b∈f.Vars,W3 b
def lP(o:Lt.Virt):Prop:=short o.Class/\∀a∈o.Vals,cX a
def fP(x:Lt.Instr):Prop:=short x.Dst/\short x.Name/\(∀a∈x.Args,cX a)/\(∀f∈x.Frames,Nx f)/\∀o∈x.Objs,lP o
def sIn(b:Lt.In):Prop:=short b.Block/\cX b.A
def lQ(x:Lt.Phi):Prop:=short x.Dst/\∀i∈x.Ins,sIn i
def dG(b:Lt.Block):Prop:=short b.Name/\cX b.End.A/\(∀t∈b.End.To,short t)/\(∀x∈b.Phis,lQ x)/\∀i∈b.Code,fP i
def fW(f:Lt.Func):Prop:=short f.Name/\short f.Result/\(∀v∈f.Params,jA v)/\(∀v∈f.Vars,jA v)/\∀b∈f.Blocks,dG b
def eh(c:Lt.Class):Prop:=short c.Name/\∀v∈c.Fields,jA v
def W7(p:Lt.Program):Prop:=(∀c∈p.Classes,eh c)/\(∀v∈p.Globals,jA v)/\(∀e∈p.Externs,short e.Name)/\∀f∈p.Funcs,fW f
variable{r:Int}
theorem pQ{b0:Int}{w0:Nat}(hd:d < 9)(h0:0<=b0)(h:Pc (d+1) b0 w0 n)(hk:Pc d 0 k r):Pc (d+1) b0 (w0+k) (Lt.upto 6000 n r):=by
 grind [Lt.upto,Pc,Bd,lC]
theorem EX{b0:Int}{w0:Nat}(h0:0<=b0)(h:Pc d b0 w0 n)(hk:k<=140737488355328):Pc d b0 (w0+k) (if n<=6000 then Lt.plus n k else n):=by
 grind [Pc,Bd,lx]
theorem V8(hk:k<=140737488355328):Pc d 0 k (k:Int):=by grind [Pc,Bd]
theorem Yh(l:List Lt.Var)(b:Int)(h:∀v∈l,jA v)(h0:0<=b)(h1:b<=Bd d):Pc d b (l.map Xu).sum (zo 6000 l b):=by
 refine ld (zo 6000) (fun n v=>if Lt.plus n v.Name.length<=6000 then Lt.plus (Lt.plus n v.Name.length) v.Type_.length else Lt.plus n v.Name.length) Xu (fun _=>rfl) (fun _ _ _=>rfl) jA (fun b x hx h0 h1=>?_) l b h h0 h1;have hn:Pc d b x.Name.length (Lt.plus b x.Name.length):=by
  have:=hx.1;grind [short,Pc,Bd,lx]
 exact EX h0 hn hx.2
theorem lf{d:Nat}(l:List Lt.Var)(h:∀v∈l,jA v):Pc d 0 (uW l) (db l 6000):=by
 unfold db uW;split
 ·grind [lC,Pc,Bd]
 ·have:=Yh (d:=d) l (l.length:Int) h kQ1 (by have:=OO d;omega)
  grind [Pc]
theorem Yd(l:List Lt.Arg)(b:Int)(h:∀v∈l,cX v)(h0:0<=b)(h1:b<=Bd d):Pc d b (l.map Xt).sum (zn 6000 l b):=by
 refine ld (zn 6000) (fun n v=>Lt.plus n v.S.length) Xt (fun _=>rfl) (fun _ _ _=>rfl) cX (fun b x hx h0 h1=>?_) l b h h0 h1
 grind [cX,short,Pc,Bd,Xt,lx]
theorem xf{d:Nat}(l:List Lt.Arg)(h:∀v∈l,cX v):Pc d 0 (uV l) (fA l 6000):=by
 unfold fA uV;split
 ·grind [lC,Pc,Bd]
 ·have:=Yd (d:=d) l (l.length:Int) h kQ1 (by have:=OO d;omega)
  grind [Pc]
variable{b:Int}
theorem JM(h0:0<=b)(h1:b<=6000)(hk:k<=140737488355328):Pc d b (1+k) (Lt.plus (i64.wrap (b+1)) k):=by
 grind [lC,Pc,Bd]
theorem Uz(l:List Lt.Bind)(b:Int)(h:∀v∈l,W3 v)(h0:0<=b)(h1:b<=Bd d):Pc d b (l.map KM).sum (oW 6000 l b):=by
 refine ld (oW 6000) (fun n b=>if Lt.plus (i64.wrap (n+1)) b.Name.length<=6000 then Lt.plus (Lt.plus (i64.wrap (n+1)) b.Name.length) b.A.S.length else Lt.plus (i64.wrap (n+1)) b.Name.length) KM (fun _=>rfl) (fun _ _ _=>rfl) W3 (fun b x hx h0 h1=>?_) l b h h0 h1;exact EX h0 (JM h0 h1 hx.1) hx.2
theorem abV(l:List Lt.In)(b:Int)(h:∀v∈l,sIn v)(h0:0<=b)(h1:b<=Bd d):Pc d b (l.map wIn).sum (G2 6000 l b):=by
 refine ld (G2 6000) (fun n b=>if Lt.plus (i64.wrap (n+1)) b.Block.length<=6000 then Lt.plus (Lt.plus (i64.wrap (n+1)) b.Block.length) b.A.S.length else Lt.plus (i64.wrap (n+1)) b.Block.length) wIn (fun _=>rfl) (fun _ _ _=>rfl) sIn (fun b x hx h0 h1=>?_) l b h h0 h1;exact EX h0 (JM h0 h1 hx.1) hx.2
theorem iQ{w w':Nat}(h0:0<=b)(h:Pc d b w n)(h':0<=n->n<=Bd d->Pc d n w' r):Pc d b (w+w') r:=by
 have a:=OO d
 grind [Pc]
theorem Nb(h0:0<=b)(h1:b<=6000)(hk:k<=140737488355328):Pc d b k (Lt.plus b k):=by
 grind [lx,Pc,Bd]
theorem Qy(l:List Lt.Frame)(b:Int)(h:∀v∈l,Nx v)(h0:0<=b)(h1:b<=Bd d):Pc d b (l.map pR).sum (kZ 6000 l b):=by
 refine ld (kZ 6000) (fun n f=>oW 6000 f.Vars (if Lt.plus n f.Func.length<=6000 then Lt.plus (Lt.plus n f.Func.length) f.Block.length else Lt.plus n f.Func.length)) pR (fun _=>rfl) (fun _ _ _=>rfl) Nx (fun b x hx h0 h1=>?_) l b h h0 h1;exact iQ h0 (EX h0 (Nb h0 h1 hx.1) hx.2.1) (Uz x.Vars _ hx.2.2)
theorem Yf(hd:d < 9)(l:List Lt.Virt)(b:Int)(h:∀v∈l,lP v)(h0:0<=b)(h1:b<=Bd (d+1)):Pc (d+1) b (l.map KN).sum (tE 6000 l b):=by
 refine ld (tE 6000) (fun n o=>if Lt.plus n o.Class.length<=6000 then i64.wrap (Lt.plus n o.Class.length+fA o.Vals 6000)else Lt.plus n o.Class.length) KN (fun _=>rfl) (fun _ _ _=>rfl) lP (fun b x hx h0 h1=>?_) l b h h0 h1;exact pQ hd h0 (Nb h0 h1 hx.1) (xf _ hx.2)
theorem aeH(l:List (List UInt8))(b:Int)(h:∀v∈l,short v)(h0:0<=b)(h1:b<=Bd d):Pc d b (l.map wTo).sum (Lt.cTo 6000 l b):=by
 refine ld (Lt.cTo 6000) (fun n t=>Lt.plus (i64.wrap (n+1)) t.length) wTo (fun _=>rfl) (fun _ _ _=>rfl) short (fun b x hx h0 h1=>?_) l b h h0 h1;exact JM h0 h1 hx
theorem Yg(l:List Lt.Phi)(b:Int)(h:∀v∈l,lQ v)(h0:0<=b)(h1:b<=Bd d):Pc d b (l.map NO).sum (tF 6000 l b):=by
 refine ld (tF 6000) (fun n x=>G2 6000 x.Ins (Lt.plus (i64.wrap (n+1)) x.Dst.length)) NO (fun _=>rfl) (fun _ _ _=>rfl) lQ (fun b x hx h0 h1=>?_) l b h h0 h1;exact iQ h0 (JM h0 h1 hx.1) (abV x.Ins _ hx.2)
theorem Uj{w:Nat}(hd:d < 9)(h0:0<=b)(hn:n=b+(w:Int))(h1:n<=6000)(hk:Pc d 0 k r):Pc (d+1) b (w+k) (i64.wrap (n+r)):=by
 grind [Pc,Bd,lC]
theorem Ep(x:Lt.Instr)(h:fP x):Pc 1 0 (kN x) (gn x 6000):=by
 obtain⟨h1,h2,h3,h4,h5⟩:=h;unfold short at h1 h2;unfold gn;split
 ·grind [lC,Pc,Bd]
 ·rename_i hc;simp only[ag2,decide_eq_true_eq,not_or]at hc;have e:Lt.plus (Lt.plus (Lt.plus 1 x.Dst.length) x.Frames.length) x.Objs.length=1+(x.Dst.length:Int)+x.Frames.length+x.Objs.length:=by
   have f:=lx (n:=1) (k:=x.Dst.length) kQ1 kQ1 kQ1
   grind [lx]
  have c:Pc 1 0 (1+x.Dst.length+x.Frames.length+x.Objs.length) (Lt.plus (Lt.plus (Lt.plus 1 x.Dst.length) x.Frames.length) x.Objs.length):=by
   grind [Pc,Bd]
  have a:=pQ kQ1 kQ1 c (V8 h2)
  have b:=pQ kQ1 kQ1 a (xf x.Args h3)
  have d:=iQ kQ1 b (Qy x.Frames _ h4)
  exact iQ kQ1 d (Yf kQ1 x.Objs _ h5)
theorem Ye(l:List Lt.Instr)(b:Int)(h:∀v∈l,fP v)(h0:0<=b)(h1:b<=Bd 2):Pc 2 b (l.map kN).sum (rk 6000 l b):=by
 refine ld (rk 6000) (fun n x=>i64.wrap (n+gn x 6000)) kN (fun _=>rfl) (fun _ _ _=>rfl) fP (fun b x hx h0 h1=>?_) l b h h0 h1;have:=Uj (b:=b) (w:=0) (n:=b) kQ1 h0 kQ1 h1 (Ep x hx)
 grind
theorem Eo(x:Lt.Block)(h:dG x):Pc 2 0 (iO x) (gm x 6000):=by
 obtain⟨h1,h2,h3,h4,h5⟩:=h;unfold cX at h2;unfold short at h1 h2;unfold gm;split
 ·grind [lC,Pc,Bd]
 ·have a:Pc 2 0 (1+x.Name.length) (Lt.plus 1 x.Name.length):=by
   rw[lx kQ1 kQ1 kQ1];grind [Pc,Bd]
  have d:=pQ kQ1 kQ1 a (V8 h2)
  have c:=iQ kQ1 d (aeH x.End.To _ h3)
  have b:=iQ kQ1 c (Yg x.Phis _ h4)
  exact iQ kQ1 b (Ye x.Code _ h5)
theorem Qx(l:List Lt.Block)(b:Int)(h:∀v∈l,dG v)(h0:0<=b)(h1:b<=Bd 3):Pc 3 b (l.map iO).sum (nh 6000 l b):=by
 refine ld (nh 6000) (fun n x=>i64.wrap (n+gm x 6000)) iO (fun _=>rfl) (fun _ _ _=>rfl) dG (fun b x hx h0 h1=>?_) l b h h0 h1;have:=Uj (b:=b) (w:=0) (n:=b) kQ1 h0 kQ1 h1 (Eo x hx)
 grind
theorem PX(f:Lt.Func)(h:fW f):Pc 3 0 (oE f) (m6 f 6000):=by
 obtain⟨h1,h2,h3,h4,h5⟩:=h;unfold short at h1 h2;unfold m6;split
 ·grind [lC,Pc,Bd]
 ·have a:Pc 3 0 (1+f.Name.length) (Lt.plus 1 f.Name.length):=by
   rw[lx kQ1 kQ1 kQ1];grind [Pc,Bd]
  have d:=pQ kQ1 kQ1 a (V8 h2)
  have c:=pQ kQ1 kQ1 d (lf f.Params h3)
  have b:=pQ kQ1 kQ1 c (lf f.Vars h4)
  exact iQ kQ1 b (Qx f.Blocks _ h5)
theorem UA(l:List Lt.Func)(b:Int)(h:∀v∈l,fW v)(h0:0<=b)(h1:b<=Bd 4):Pc 4 b (l.map oE).sum (ni 6000 l b):=by
 refine ld (ni 6000) (fun n x=>i64.wrap (n+m6 x 6000)) oE (fun _=>rfl) (fun _ _ _=>rfl) fW (fun b x hx h0 h1=>?_) l b h h0 h1;have:=Uj (b:=b) (w:=0) (n:=b) kQ1 h0 kQ1 h1 (PX x hx)
 grind
theorem LG(hd:d < 9)(l:List Lt.Class)(b:Int)(h:∀v∈l,eh v)(h0:0<=b)(h1:b<=Bd (d+1)):Pc (d+1) b (l.map wE).sum (kf 6000 l b):=by
 refine ld (kf 6000) (fun n c=>if Lt.plus n c.Name.length<=6000 then i64.wrap (Lt.plus n c.Name.length+db c.Fields 6000)else Lt.plus n c.Name.length) wE (fun _=>rfl) (fun _ _ _=>rfl) eh (fun b x hx h0 h1=>?_) l b h h0 h1;exact pQ hd h0 (Nb h0 h1 hx.1) (lf _ hx.2)
theorem LH(l:List Lt.Extern)(b:Int)(h:∀v∈l,short v.Name)(h0:0<=b)(h1:b<=Bd d):Pc d b (l.map qW).sum (jd 6000 l b):=by
 refine ld (jd 6000) (fun n t=>Lt.plus (i64.wrap (n+1)) t.Name.length) qW (fun _=>rfl) (fun _ _ _=>rfl) (fun v=>short v.Name) (fun b x hx h0 h1=>?_) l b h h0 h1;exact JM h0 h1 hx
variable{p:Lt.Program}
theorem aaD(h:W7 p)(hf:Lt.Few p 6000=true):KO p<=6000/\p.Classes.length<=50:=by
 obtain⟨h1,h2,h3,h4⟩:=h;unfold Lt.Few at hf;split at hf
 ·cases hf
 ·rename_i hc;simp only[ag2,decide_eq_true_eq,not_or]at hc;have a:=lf (d:=4) p.Globals h2
  have b:=iQ kQ1 a (LG (d:=3) kQ1 p.Classes _ h1)
  have c:=iQ kQ1 b (LH p.Externs _ h3)
  grind [UA,Pc,Bd,KO]
theorem yk(w:α->Nat):∀(l:List α)(x:α),x∈l->w x<=(l.map w).sum
 |y::l,x,h=>by
  rw[af3,List.sum_cons];rcases agC.1 h with rfl|h
  ·omega
  ·have:=yk w l x h;omega
theorem qU(w:α->Nat)(h:∀x,1<=w x):∀l:List α,l.length<=(l.map w).sum
 |[]=>agW _
 |y::l=>by
  have:=qU w h l
  grind
theorem NJ(g w:α->Nat)(h:∀x,g x<=w x):∀l:List α,(l.map g).sum<=(l.map w).sum
 |[]=>af2 _
 |y::l=>by
  have:=NJ g w h l
  grind
theorem adM(h:KO p<=6000):cO p/\p.Funcs.length<=1000000:=by
 unfold KO at h;have d:=qU oE (fun f=>by grind [oE]) p.Funcs
 have hf:∀f∈p.Funcs,oE f<=6000:=fun f hf=>by
  grind [yk]
 refine⟨⟨fun f c=>?_,fun f c=>?_⟩,by omega⟩
 ·grind [oE,uW]
 ·have h1:=hf f c
  unfold oE uW at h1;have e:=qU iO (fun b=>by grind [iO]) f.Blocks
  have hb:∀b∈f.Blocks,iO b<=6000:=fun b hb=>by
   grind [yk]
  have hi:∀b∈f.Blocks,∀x∈b.Code,kN x<=6000:=fun b a x hx=>by
   grind [yk,iO]
  refine⟨fun b a x hx=>?_,⟨by omega,fun b a=>?_⟩,by omega,fun b a=>?_,fun b a x hx=>?_⟩
  ·grind [kN,uV]
  ·grind [iO,qU,wTo]
  ·grind [iO,qU,NO,kN]
  ·have h2:=hi b a x hx
   unfold kN uV at h2;have h3:=NJ (fun f:Lt.Frame=>f.Vars.length) pR (fun f=>by
    grind [qU,KM,pR]) x.Frames
   have h4:=NJ (fun o:Lt.Virt=>o.Vals.length) KN (fun o=>by grind [KN,uV]) x.Objs
   grind [ly,Xr]
theorem rm{β:Type}(g:α->List β)(w:α->Nat)(k:Nat):∀(l:List α),(∀x∈l,(g x).length<=k*w x)->(l.flatMap g).length<=k*(l.map w).sum
 |[],_=>by simp
 |x::r,h=>by
  have h1:=h x (by simp)
  have h2:=rm g w k r (fun y hy=>h y (by simp[hy]))
  grind [Nat.mul_add]
theorem ZV(w:α->Nat):∀(l:List α),(l.map fun x=>1+w x).sum=l.length+(l.map w).sum
 |[]=>by simp
 |x::r=>by
  have:=ZV w r
  grind
def lw(ws:List (List UInt8)):Nat:=(ws.map fun w=>w.length+1).sum
theorem qw(a b:List (List UInt8)):lw (a++b)=lw a+lw b:=by simp[lw]
theorem fF(a:List UInt8)(b:List (List UInt8)):lw (a::b)=a.length+1+lw b:=by rfl
theorem nR:lw []=0:=rfl
theorem aaX:∀(ws:List (List UInt8))(b:Bool),(Lt.jw b ws).length<=lw ws
 |[],_=>by simp[Lt.jw]
 |w::r,b=>by
  have:=aaX r true
  grind [Lt.jw,fF]
theorem lK(ws:List (List UInt8)):(Lt.lnT ws).length<=lw ws+1:=by
 grind [aaX,Lt.lnT]
theorem uz(h:Lt.inR n):(B5 n).length<=20:=gA h
theorem wm{a:Lt.Arg}(h:a.ok):(gN a).length<=a.S.length+25:=by
 have h1:=uz h
 grind [oG,zY,gN]
theorem acN(n:Nat):(gw.getD n default).length<=10:=by
 have h:∀w∈gw,w.length<=10:=by decide
 rw[List.getD];cases hn:gw[n]? with
 |none=>simp;exact agW _
 |some w=>
  grind
theorem ZA(op:Int):(Lt.rOf op).1.Word.length<=10:=by
 grind [Lt.rOf,acN]
theorem sJ(first:List UInt8)(hf:first.length<=6)(l:List Lt.Var):(wi first l).length<=20*uW l:=by
 have:=rm (fun v:Lt.Var=>Lt.lnT [first,v.Name,v.Type_]) (fun v=>1+Xu v) 20 l (fun v _=>by
  grind [lK,fF,nR,Xu])
 rw[ZV]at this;exact this
variable{l:List Lt.Arg}
theorem DR(h:rR l):lw (l.map gN)<=30*uV l:=by
 induction l with
 |nil=>simp[lw]
 |cons a r ih=>
  have h1:=ih (fun x hx=>h x (agM _ hx))
  have h2:=wm (h a (by simp))
  grind [uV,fF,Xt]
theorem GX(n:α->List UInt8)(a:α->Lt.Arg)(l:List α)(h:∀b∈l,(a b).ok):lw (l.flatMap fun b=>[n b,gN (a b)])<=30*(l.map fun b=>1+(n b).length+(a b).S.length).sum:=by
 induction l<;>grind [wm,fF,nR]
theorem Rd{f:Lt.Frame}(h:f.ok)(hn:Lt.inR f.At):(Lt.lnT (nV f)).length<=40*(1+pR f):=by
 have h1:=lK (nV f)
 have h2:=GX (fun b:Lt.Bind=>b.Name) (fun b=>b.A) f.Vars (fun b hb=>h.2 b hb)
 have h3:=uz hn
 simp only[nV,qw,fF,nR,af4,agB]at h1;unfold pR;have:(f.Vars.map KM).sum=(f.Vars.map fun b=>1+b.Name.length+b.A.S.length).sum:=rfl
 grind [nV]
theorem Xs{o:Lt.Virt}(h:o.ok):(Lt.lnT (wk o)).length<=40*(1+KN o):=by
 have h1:=lK (wk o)
 have h2:=DR (l:=o.Vals) h
 grind [wk,fF,KN]
theorem NR:lw ((l.take 1).map gN)+lw ((l.drop 1).map gN)=lw (l.map gN):=by
 grind [qw,ahE]
theorem Va{x:Lt.Instr}(h:x.ok)(hn:∀f∈x.Frames,Lt.inR f.At):(wg x).length<=40*kN x:=by
 obtain⟨a,okF,okO⟩:=h;have h1:=lK (A6 x)
 have h2:=DR a
 have h3:=ZA x.Op
 have h4:=rm (fun f=>Lt.lnT (nV f)) (fun f=>1+pR f) 40 x.Frames (fun f hf=>Rd (okF f hf) (hn f hf))
 have h5:=rm (fun o=>Lt.lnT (wk o)) (fun o=>1+KN o) 40 x.Objs (fun o ho=>Xs (okO o ho))
 rw[ZV]at h4 h5;have b:lw (Kc x)<=x.Dst.length+20:=by
  grind [Kc,fF,nR]
 grind [A6,NR,qw,fF,wg,kN]
theorem adO(l:List (List UInt8)):lw l=(l.map wTo).sum:=by
 grind [lw,wTo,agJ]
theorem Rx(n:Nat):(([[],[106,117,109,112],[98,114,97,110,99,104],[114,101,116],[116,114,97,112]]:List (List UInt8)).getD n default).length<=10:=by
 match n with
 |0=>decide
 |1=>decide
 |2=>decide
 |3=>decide
 |4=>decide
 |n+5=>simp;exact agW _
theorem YE{t:Lt.Term}(h:t.ok):(Ka t).length<=70+t.A.S.length+(t.To.map wTo).sum:=by
 unfold Ka;split
 ·simp
 ·have h1:=lK (Px t)
  have h2:=wm h.1
  have h3:=uz h.2
  have h4:=Rx t.Kind.toNat
  have h5:=adO t.To
  unfold Px at h1⊢
  grind [lw]
theorem Zs{x:Lt.Phi}(h:x.ok):(Lt.lnT (A5 x)).length<=40*NO x:=by
 have h1:=lK (A5 x)
 have h2:=GX (fun b:Lt.In=>b.Block) (fun b=>b.A) x.Ins (fun b hb=>h.2 b hb)
 simp only[A5,qw,fF,nR,af4,agB]at h1;unfold NO;have:(x.Ins.map wIn).sum=(x.Ins.map fun b=>1+b.Block.length+b.A.S.length).sum:=rfl
 grind [A5]
theorem Qs{b:Lt.Block}(h:b.ok)(hn:∀i∈b.Code,∀f∈i.Frames,Lt.inR f.At):(qO b).length<=100*iO b:=by
 have h1:=lK [[98,108,111,99,107],b.Name]
 simp only[fF,nR,af4,agB]at h1;have h2:=rm (fun x=>Lt.lnT (A5 x)) NO 40 b.Phis (fun x hx=>Zs (h.1 x hx))
 have h3:=rm wg kN 40 b.Code (fun x hx=>Va (h.2.1 x hx) (hn x hx))
 have h4:=YE h.2.2
 grind [qO,iO]
theorem Vv{f:Lt.Func}(h:f.ok)(hn:∀b∈f.Blocks,∀i∈b.Code,∀r∈i.Frames,Lt.inR r.At):(wh f).length<=100*oE f:=by
 have h1:=lK [[102,117,110,99],f.Name,f.Result]
 simp only[fF,nR,af4,agB]at h1;have h2:=rm qO iO 100 f.Blocks (fun x hx=>Qs (h x hx) (hn x hx))
 grind [sJ,wh,oE]
theorem QY(c:Lt.Class):(qP c).length<=20*(1+wE c):=by
 grind [lK,fF,nR,sJ,qP,wE]
theorem L2{c:Lt.Extern}(h:Lt.inR c.N):(pF c).length<=40*qW c:=by
 grind [lK,uz,fF,nR,af4,pF,qW]
theorem TU(hs:W7 p)(h:p.ok)(he:∀e∈p.Externs,Lt.inR e.N)(hn:∀f∈p.Funcs,∀b∈f.Blocks,∀i∈b.Code,∀r∈i.Frames,Lt.inR r.At)(hf:Lt.Few p 6000=true):(nW p).length<=4194304:=by
 obtain⟨hw,hc⟩:=aaD hs hf;have h1:=rm qP (fun c=>1+wE c) 20 p.Classes (fun c _=>QY c)
 rw[ZV]at h1;have h2:=rm pF qW 40 p.Externs (fun x hx=>L2 (he x hx))
 have h3:=rm wh oE 100 p.Funcs (fun x hx=>Vv (h x hx) (hn x hx))
 have h4:=sJ [103,108,111,98,97,108] (by decide) p.Globals
 have h5:(if p.SSA=true then Lt.lnT [[115,115,97]]else []).length<=10:=by split<;>decide
 unfold KO at hw;unfold nW;simp only[af6];omega
end Go.Am
end
