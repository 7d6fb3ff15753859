/-
  Part 16: AmIt · AmE3i · AmE5 · AmE6 · AmE7 · AmE8 · AmE9 · AmE10 · AmE11 · AmOwnCon · AmE12 · AmLib.
-/
import Derived.Test.YteooihiebpbaiaaGreatDoorVk15
import Derived.Maps.RangeRun
set_option linter.unusedSimpArgs false
set_option linter.unusedVariables false
set_option linter.unusedSectionVars false
set_option linter.unnecessarySimpa false
section
namespace Go.Am
open MapKept
open Go.ChangeMaps (setBlock)
theorem It{H:FH}:∀{l:List (D×D)}{es:List MapEntry},ItL H l es->l.length=es.length
 |[],[],_=>rfl
 |_::_,_::_,h=>by simp[It h.2]
 |[],_::_,h=>h.elim
 |_::_,[],h=>h.elim
theorem Is{H:FH}:∀{l:List (D×D)}{es:List MapEntry},ItL H l es->∀{i:Nat}{e:MapEntry},es[i]? = some e->∃x,l[i]? = some x/\x.1.isKey=true/\FDx H x.1 e.key/\FDx H x.2 e.val
 |x::l,e0::es,h,i,e,he=>by
  cases i with
  |zero=>
   obtain rfl:e0=e:=by simpa using he
   exact⟨x,rfl,h.1⟩
  |succ i=>exact Is h.2 (by simpa using he)
 |[],[],_,i,e,he=>by simp at he
 |[],_::_,h,_,_,_=>h.elim
 |_::_,[],h,_,_,_=>h.elim
theorem xD{H:FH}:∀{l:List (D×D)}{es:List MapEntry},ItL H l es->∀i,ItL H (l.eraseIdx i) (es.eraseIdx i)
 |[],[],_,i=>by simp[ItL]
 |x::l,e::es,h,i=>by
  cases i with
  |zero=>exact h.2
  |succ i=>exact⟨h.1,xD h.2 i⟩
 |[],_::_,h,_=>h.elim
 |_::_,[],h,_=>h.elim
theorem uO:∀{L:List MapEntry}{i:Nat}{e:MapEntry},(L.map (·.born)).Nodup->L[i]? = some e->L.filter (fun x=>!(x.born==e.born))=L.eraseIdx i
 |[],i,e,_,h=>by simp at h
 |x::L,i,e,hn,h=>by
  simp only[List.map_cons,Xl]at hn;cases i with
  |zero=>
   obtain rfl:x=e:=by simpa using h
   simp only[Yr,beq_self_eq_true,YA,WP,if_false,List.eraseIdx_cons_zero];refine List.filter_eq_self.2 fun y hy=>?_
   have:y.born≠x.born:=fun e=>hn.1 (e ▸ Xg hy)
   simpa using this
  |succ i=>
   have h:L[i]? = some e:=by simpa using h
   have hne:x.born≠e.born:=fun e2=>hn.1 (e2 ▸ Xg (W9 h))
   simp only[Yr,List.eraseIdx_cons_succ];rw[if_pos (by simpa using hne),uO hn.2 h]
theorem M0{H:FH}{m:Nat}:∀{l:List (D×D)}{es:List MapEntry},es.length=l.length->(∀(i:Nat)(x:D×D)(y:MapEntry),l[i]? = some x->es[i]? = some y->FD H m x.1 y.key/\FD H m x.2 y.val)->(∀e∈l,e.1.isKey=true)->ItL H l es
 |[],[],_,_,_=>trivial
 |x::l,e::es,hl,h,hk=>by
  have h0:=h 0 x e rfl rfl
  exact⟨⟨hk x (by simp),⟨m,h0.1⟩,m,h0.2⟩,M0 (by simpa using hl) (fun i a b ha hb=>h (i+1) a b (by simpa using ha) (by simpa using hb)) (fun a ha=>hk a (by simp[ha]))⟩
 |[],_::_,h,_,_=>by simp at h
 |_::_,[],h,_,_=>by simp at h
section
variable {P:Program} {g:G} {s:S} {a:Act} {w:World} {H:FH} {γ:Gam} {F:Nm->Fp}
theorem M9(h:RX g s a w H γ F){z:Option (List (D×D))}{v:Value}(hv:FDx H (.mp z) v)(hk:∀e∈z.getD [],e.1.isKey=true){n:Nm}(hno:n.isOut=false)(hn:ab s.m n=none){t kt et:TypeId}(ht:P.underlying t=some (.map kt et)) :
  ∃w' γ' F',(Instr.range t v).run P w=.ok (.pointer (some ⟨w.heap.size,0,none⟩)) w'/\RX g ⟨s.t,(n,⟨false,[.it none (z.getD [])]⟩)::s.m⟩ a w' H γ' F'/\γ' n=.gh (.pointer (some ⟨w.heap.size,0,none⟩)):=by
 have main:∀o:Obj,(∃q a c,o=.mapIter q a #[] c/\ItR H none (z.getD []) q a #[] c)->∃γ' F',RX g ⟨s.t,(n,⟨false,[.it none (z.getD [])]⟩)::s.m⟩ a (w.alloc o) H γ' F'/\γ' n=.gh (.pointer (some ⟨w.heap.size,0,none⟩)):=by
  rintro o ⟨q,a',c,rfl,hi⟩
  have hold:∀k,k<w.heap.size->(w.alloc (.mapIter q a' #[] c)).heap[k]? = w.heap[k]? := fun k hk=>bU hk
  have h1:=mg h (w':=w.alloc (.mapIter q a' #[] c)) (by simp) rfl rfl rfl (fun b hb=>.inl (hold b hb))
  have hz:tot F s.m w.heap.size=0:=by
   rcases W7 (tot F s.m w.heap.size)with h'|h'
   ·exact h'
   ·have:=h.mem.lt w.heap.size Z1;omega
  refine cG h1 hno hn (v:=.pointer (some ⟨w.heap.size,0,none⟩)) (t:=.it none (z.getD [])) (f:=fun b=>if b=w.heap.size then 1 else 0) ⟨w.heap.size,q,a',#[],c,rfl,bi,hi,fun _=>rfl⟩ (fun b=>?_) (fun b hb=>?_) (fun b hb=>?_)
  ·by_cases e:b=w.heap.size
   ·subst e;rw[hz];simp
   ·rw[if_neg e];have:=h.mem.le1 b;omega
  ·have e:b=w.heap.size:=by
    by_cases e:b=w.heap.size
    ·exact e
    ·rw[if_neg e]at hb;exact absurd rfl hb
   subst e;refine⟨by simp,fun o=>?_⟩;cases hc:H w.heap.size o with
   |none=>rfl
   |some y=>have:=(h.mem.agree _ _ _ hc).lt;simp at this
  ·right
   have e:b=w.heap.size:=by
    by_cases e:b=w.heap.size
    ·exact e
    ·rw[if_neg e]at hb;exact absurd rfl hb
   have:=h.fr.size
   omega
 cases z with
 |none=>
  have hv:v=.map none:=by obtain⟨m,hv⟩:=hv;cases m<;>exact hv
  subst hv;obtain⟨γ',F',h1,h2⟩:=main (.mapIter none 0 #[] 0) ⟨_,_,_,rfl,rfl,rfl⟩;exact⟨_,γ',F',by simp[Instr.range,run_underlying ht,Sem.run_bind,Result.andThen,newObj,Sem.run],h1,h2⟩
 |some l=>
  obtain⟨m,hv⟩:=hv;cases m with
  |zero=>exact hv.elim
  |succ m=>
   obtain⟨b,es,ck,rfl,k2,k3,k4⟩:=hv;obtain⟨k5,k6⟩:=h.mem.agree b 0 _ k2;obtain⟨γ',F',h1,h2⟩:=main (.mapIter (some b) ck #[] ck) ⟨_,_,_,rfl,es,ck,k2,rfl,rfl,by rw[List.filter_eq_self.2 (fun e _=>by simp)];exact M0 k3 k4 hk,trivial⟩;exact⟨_,γ',F',by simp[Instr.range,run_underlying ht,getObj,k5,Sem.run_bind,Result.andThen,newObj,Sem.run],h1,h2⟩
theorem Tx(h:Mem w H γ s.m F){n:Nm}{cur:Option (D×D)}{rest:List (D×D)}(hr:ab s.m n=some ⟨false,[.it cur rest]⟩) :
  ∃r q x y c,γ n=.gh (.pointer (some ⟨r,0,none⟩))/\w.heap[r]? = some (.mapIter q x y c)/\ItR H cur rest q x y c/\∀k,F n k=if k=r then 1 else 0:=by
 have hroot:=h.roots _ (ae hr)
 unfold a8 at hroot;dsimp only at hroot;rw[if_neg (by simp)]at hroot;obtain⟨v,t,h1,h2,h3⟩:=hroot;obtain rfl:t=.it cur rest:=by simpa using h2.symm
 obtain⟨r,q,x,y,c,rfl,k2,k3,k4⟩:=h3;exact⟨r,q,x,y,c,h1,k2,k3,k4⟩
theorem JO(h:RX g s a w H γ F){n:Nm}{cur:Option (D×D)}{rest:List (D×D)}(hr:ab s.m n=some ⟨false,[.it cur rest]⟩)(ty:TypeId) :
  ∃v,γ n=.gh v/\((rest=[]/\(Instr.next v false ty).run P w=.ok (.tuple #[.bool false]) w) \/
   ∃i x ky vl w' F',i<rest.length/\rest[i]? = some x/\(Instr.next v false ty).run P w=.ok (.tuple #[.bool true,ky,vl]) w'/\FDx H x.1 ky/\FDx H x.2 vl /\
    RX g ⟨s.t,bE s.m n ⟨false,[.it (some x) (rest.eraseIdx i)]⟩⟩ a w' H γ F'):=by
 obtain⟨r,q,x,y,c,h1,h2,h3,h4⟩:=Tx h.mem hr;refine⟨_,h1,?_⟩;cases q with
 |none=>
  obtain⟨rfl,rfl⟩:=h3;exact .inl ⟨rfl,by simp[Instr.next,getObj,Sem.run_bind,Sem.run,h2,Result.andThen]⟩
 |some b=>
  obtain⟨es,ck,k1,k2,k3,k4,k5⟩:=h3;obtain⟨k6,k7⟩:=h.mem.agree b 0 _ k1;have hst:=(stamped_iff es ck).1 k7
  have hL:(leftOf es y).toList=es.toList.filter fun e=>!y.contains e.born:=by simp[leftOf]
  rcases run_next_at (P:=P) w ty r b x c y es ck h2 k6 (fun e he=>by rw[k2];exact hst.1 e he) Z1 with⟨h5,h6⟩|⟨e,he,w1,hw1,h6⟩
  ·refine .inl ⟨?_,h6⟩;have:=It k4
   have h7:(leftOf es y).toList.length=0:=h5
   rw[hL]at h7;exact Xw Z1
  ·refine .inr ?_;rw[hL]at he;obtain⟨i,hi⟩:=List.getElem?_of_mem he;obtain⟨z,z1,z2,z3,z4⟩:=Is k4 hi;have hil:i<rest.length:=(Xh.1 z1).1
   have hbe:w1.heap=w.heap/\w1.os=w.os/\w1.tape=w.tape/\w1.output=w.output:=by rcases hw1 with rfl|rfl<;>exact⟨rfl,rfl,rfl,rfl⟩
   obtain⟨e1,e2,e3,e4⟩:=hbe;have hset:=heap_set (o':=.mapIter (some b) x (y.push e.born) ck) h2
   have htr:tot F s.m r≠0:=by have:=aW (F:=F) (ae hr) r;have:=h4 r;rw[if_pos rfl]at this;dsimp only at *;omega
   have hbr:b≠r:=fun e=>by subst e;rw[h2]at k6;cases k6
   have hnd:((es.toList.filter fun e=>!y.contains e.born).map (·.born)).Nodup:=(hst.2.1.sublist ((List.filter_sublist (p:=fun e:MapEntry=>!y.contains e.born) (l:=es.toList)).map _))
   have hmem:e∈es.toList:=(X5.1 he).1
   have hfil:es.toList.filter (fun x=>!(y.push e.born).contains x.born)=(es.toList.filter fun e=>!y.contains e.born).eraseIdx i:=by
    rw[<- uO hnd hi,List.filter_filter];refine List.filter_congr fun x _=>?_
    simp only[Array.contains_push];cases y.contains x.born<;>cases hb:(x.born==e.born)<;>simp_all
   refine⟨i,z,e.key,e.val,setBlock w1 r (.mapIter (some b) x (y.push e.born) ck),upd F n (F n),hil,z1,h6,z3,z4,?_⟩;have hheap:(setBlock w1 r (.mapIter (some b) x (y.push e.born) ck)).heap=w.heap.setIfInBounds r (.mapIter (some b) x (y.push e.born) ck):=by show w1.heap.setIfInBounds _ _=_;rw[e1]
   refine M8 h rfl rfl hr h1 (f':=F n) ⟨r,some b,x,y.push e.born,ck,rfl,by rw[hheap];exact hset.1,⟨es,ck,k1,k2,rfl,by rw[hfil];exact xD k4 i,y,e,rfl,hmem,z2,z3,z4⟩,h4⟩ (fun c=>by have:=h.mem.le1 c;omega) (fun c hc=>?_) (by rw[hheap];simp) e2 e3 e4 (fun c hc=>?_) (fun _ _ _ h=>h) (fun b' o y' hy=>(h.mem.agree b' o y' hy).frame ?_) (fun b o h1 h2=>absurd h2 h1) ⟨fun b' h'=>h'.of_block ?_,fun c o x y z h1 h2=>by rw[h2]at h1;cases h1⟩
   ·have:tot F s.m c≠0:=by have:=aW (F:=F) (ae hr) c;dsimp only at *;omega
    exact⟨h.mem.lt c this,h.mem.nofz c this,h.fr.tt c this⟩
   ·rw[hheap];exact hset.2 c fun e=>by rw[h4,if_pos e]at hc;cases hc
   ·rw[hheap];exact hset.2 b' fun e=>by subst e;rw[h.mem.nofz _ htr o]at hy;cases hy
   ·rw[hheap];refine hset.2 b' fun e=>?_
    subst e;obtain⟨cs,ty,e⟩:=h';rw[h2]at e;cases e
theorem Em(h:RX g s a w H γ F){n:Nm}{x:D×D}{rest:List (D×D)}(hr:ab s.m n=some ⟨false,[.it (some x) rest]⟩) :
  ∃v ky vl,γ n=.gh v/\(Instr.entry v).run P w=.ok (.tuple #[ky,vl]) w/\x.1.isKey=true/\FDx H x.1 ky/\FDx H x.2 vl:=by
 obtain⟨r,q,a',y,c,h1,h2,h3,h4⟩:=Tx h.mem hr;cases q with
 |none=>obtain⟨h3,_⟩:=h3;cases h3
 |some b=>
  obtain⟨es,ck,k1,k2,k3,k4,sn,e,rfl,k5,k8,k9,k10⟩:=h3;obtain⟨k6,k7⟩:=h.mem.agree b 0 _ k1;have hst:=(stamped_iff es ck).1 k7
  subst k3;exact⟨_,e.key,e.val,h1,run_entry_at w r b a' sn es c e h2 k6 k5 hst.2.1,k8,k9,k10⟩
theorem Mq{m:Mm}{n:Nm}{cur:Option (D×D)}{rest:List (D×D)}{v:Value}(hn:ab m n=some ⟨false,[.it cur rest]⟩)(hg:γ n=.gh v):AR w H γ m (.one (.c (.rf ⟨n,0,[]⟩))) v:=by
 refine⟨fun _=>rfl,?_,?_⟩
 ·rw[bx];exact⟨_,hn,trivial⟩
 ·unfold plV;dsimp only;rw[hg];rfl
end
end Go.Am
end

section
namespace Go.Am
section
variable {P:Program} {g:G} {a:Act} {w:World} {H:FH} {γ:Gam} {F:Nm->Fp} {s:St} {k k':St->Prop}
theorem Gp{t:TypeId}{x:Operand}{d:Tmp}(hk:∀s',Ext s s'->k s'->k' s')(h:rY P s t x d k):rY P s t x d k':=by
 unfold rY at h⊢;dsimp only at h⊢
 (repeat' split at h)<;>first|exact h.elim|exact hk _ ((((eY _ _).trans (bB _ _)).trans (cf _ _ _)).trans (aw _ _ _)) h
theorem LJ{x:At}{d:Option Tmp}(hk:∀s',Ext s s'->k s'->k' s')(h:yh s x d k):yh s x d k':=by
 unfold yh at h⊢;split at h
 ·exact⟨fun e=>hk _ (aw _ _ _) (h.1 e),fun i hi=>hk _ ((pz _ _ _).trans (aw _ _ _)) (h.2 i hi)⟩
 ·exact h.elim
theorem EZ{x:At}{d:Option Tmp}(hk:∀s',Ext s s'->k s'->k' s')(h:nA s x d k):nA s x d k':=by
 unfold nA at h⊢;split at h
 ·exact hk _ (aw _ _ _) h
 ·exact h.elim
theorem C6{x:At}{d:Tmp}(hk:∀s',Ext s s'->k s'->k' s')(h:nI s x d k):nI s x d k':=by
 unfold nI at h⊢
 (repeat' split at h)<;>first|exact h.elim|exact⟨h.1,hk _ (aw _ _ _) h.2⟩
theorem JZ{n:Nm}{row:List C}:∀{t:Tt},t.hit (aX n)=false->t.frB n row=t:=by
 intro t h;cases t with
 |pl p=>
  have h:decide (p.root=n)=false:=h
  have h:p.root≠n:=of_decide_eq_false h
  simp only[Tt.frB];split
  ·rw[if_neg h]
  ·simp[Tt.kill,aX,h]
 |rf p=>
  have h:decide (p.root=n)=false:=h
  have h:p.root≠n:=of_decide_eq_false h
  simp[Tt.frB,Tt.kill,aX,h]
 |_=>rfl
theorem JH(s:St)(n:Nm):Ext s (Ca s n):=by
 unfold Ca;split
 ·split
  ·exact⟨Xt _,px (·.hit (aX n)) (·.map (Tt.frB n _)) (fun _ h=>qP JZ h) (WN _),(l9 n).trans (dt (WN _))⟩
  ·exact Ext.refl s
 ·exact Ext.refl s
theorem ng:∀(vs:List At)(s:St),Ext s (oe s vs)
 |[],s=>Ext.refl s
 |v::vs,s0=>by
  unfold oe;split
  ·exact Ext.refl _
  ·rename_i h;cases h;exact(JH _ _).trans (ng _ _)
  ·rename_i h;cases h;exact ng _ _
theorem wU{f:Nat}{caps:List Operand}{d:Option Tmp}(hk:∀s',Ext s s'->k s'->k' s')(h:iD s f caps d k):iD s f caps d k':=by
 unfold iD at h⊢;dsimp only at h⊢;split at h
 ·exact hk _ ((ng _ _).trans (aw _ _ _)) h
 ·exact h.elim
theorem Ri{ku vu:U}(h1:leaf ku=true)(h2:leaf vu=true)(z:Option (List (El ku×El vu))):(C.mp ku vu z).toD=.mp (z.map fun l=>l.map (nY ku vu)):=by
 show D.mp _=D.mp _
 congr 1
 cases z with
 |none=>rfl
 |some l=>
  show some _=some _
  congr 1
  refine W1 fun x _=>?_
  show((al ku x.1).headD .any,(al vu x.2).headD .any)=_
  rw[gI h1,gI h2];rfl
theorem LZ{t:TypeId}{x:Operand}{d:Tmp}(hX:RX g s.toS a w H γ F)(hd:okD g.nt (some d)=true)(hx:ax x=true)(h:rY P s t x d k) :
  ∃t' y w' H' γ' F',(Instr.range t (a.eval x)).run P w=.ok y w'/\k t'/\RX g t'.toS (a.put (some d) y) w' H' γ' F':=by
 unfold rY at h;dsimp only at h;obtain⟨H1,F1,h1⟩:=e9 hX (evA s x);generalize dV s (evA s x)=s1 at h h1;split at h
 ·rename_i kt et ht;split at h
  ·rename_i ku vu z hv;split at h
   ·rename_i hc;simp only[WI]at hc;obtain⟨_,td,_,hu,htd,_⟩:=aP ht (by simp);obtain rfl:=oz htd;have h2:=bX h1 (.gh d)
    rw[<- bk (d9 h1)]at h2;have h3:=aA h2 hx
    rw[af hx,hv]at h3;have h4:FDx H1 (.mp (z.map fun l=>l.map (nY ku vu))) (a.eval x):=by rw[<- Ri (vB hc.1) hc.2];exact h3.2
    have hn:=bH h1 (.gh d)
    rw[<- bk (d9 h1)]at hn;obtain⟨w',γ',F',e1,e2,e3⟩:=M9 (P:=P) h2 h4 (fun e he=>by
     cases z with
     |none=>cases he
     |some l=>
      obtain⟨y,_,rfl⟩:=Xa.1 (show e∈l.map (nY ku vu)from he);exact lG (ef hc.1 y.1)) (n:=.gh d) rfl hn hu
    refine⟨_,_,w',H1,γ',F',e1,h,?_⟩;have ez:(z.map fun l=>l.map (nY ku vu)).getD []=(z.getD []).map (nY ku vu):=by cases z<;>rfl
    rw[ez]at e2;have e:((s1.fresh (.gh d)).root (.gh d) ⟨false,[.it ku vu none (z.getD [])],none⟩).toS=⟨(s1.fresh (.gh d)).toS.t,(.gh d,⟨false,[.it none ((z.getD []).map (nY ku vu))]⟩)::(s1.fresh (.gh d)).toS.m⟩:=rfl
    rw[<- e]at e2;refine aS (aB _ (some d) (.one (.c (.rf ⟨.gh d,0,[]⟩)))) (e2.put hd ?_);exact Mq (cur:=none) (rest:=(z.getD []).map (nY ku vu)) (by rw[e];simp[ab]) e3
   ·exact h.elim
  ·exact h.elim
 ·exact h.elim
theorem I8{x:At}{n:Nm}{ku vu:U}{cur:Option (El ku×El vu)}{rest:List (El ku×El vu)}(h:RE s.m x=some (n,⟨ku,vu,cur,rest⟩)) :
  x=.one (.c (.rf ⟨n,0,[]⟩))/\ab s.toS.m n=some ⟨false,[.it (cur.map (nY ku vu)) (rest.map (nY ku vu))]⟩:=by
 unfold RE at h;split at h
 ·split at h
  ·rename_i hr;cases h;exact⟨rfl,aR hr⟩
  ·cases h
 ·cases h
theorem Ty{n:Nm}{v y:Value}{m:Mm}(hg:γ n=.gh v)(h:AR w H γ m (.one (.c (.rf ⟨n,0,[]⟩))) y):y=v:=by
 obtain⟨_,_,hv⟩:=h;unfold plV at hv;dsimp only at hv;rw[hg]at hv;exact(Option.some.inj hv).symm
theorem O6{x:At}{d:Option Tmp}(hX:RX g s.toS a w H γ F)(hd:okD g.nt d=true){y:Value}(hy:AR w H γ s.toS.m x.toV y)(ty:TypeId)(h:yh s x d k) :
  ∃t' z w' F',(Instr.next y false ty).run P w=.ok z w'/\k t'/\RX g t'.toS (a.put d z) w' H γ F':=by
 unfold yh at h;split at h
 ·rename_i n ku vu cur rest hi;obtain⟨rfl,hr⟩:=I8 hi;obtain⟨v,hg,hnx⟩:=JO (P:=P) hX hr ty;obtain rfl:=Ty hg hy;rcases hnx with⟨h1,h2⟩|⟨i,e,ky,vl,w',F',h1,h2,h3,h4,h5,h6⟩
  ·refine⟨_,_,w,F,h2,h.1 (List.map_eq_nil_iff.1 h1),aS (aB _ _ _) (hX.put hd ?_)⟩;exact⟨_,rfl,⟨fun _=>rfl,0,rfl⟩,trivial⟩
  ·have hil:i<rest.length:=by simpa using h1
   refine⟨_,_,w',F',h3,h.2 i hil,?_⟩;have ee:e=nY ku vu (rest.getD i (dflt ku,dflt vu)):=by
    rw[WK,WH hil]at h2;rw[List.getD,WH hil];exact(Option.some.inj h2).symm
   have e2:(⟨s.nx+1,s.t,cn s.m n s.nx ⟨false,[.it ku vu (some (rest.getD i (dflt ku,dflt vu))) (rest.eraseIdx i)],none⟩⟩:St).toS=⟨s.toS.t,bE s.toS.m n ⟨false,[.it (some e) ((rest.map (nY ku vu)).eraseIdx i)]⟩⟩:=by
    rw[ee,<- Go.ChangeMaps.map_eraseIdx];show(⟨_,toM (cn s.m n s.nx _)⟩:S)=_
    rw[dJ];rfl
   rw[<- e2]at h6;refine aS (aB _ _ _) (h6.put hd ?_);rw[ee]at h4 h5;exact⟨_,rfl,⟨fun _=>rfl,0,rfl⟩,⟨fun _=>rfl,h4⟩,⟨fun _=>rfl,h5⟩,trivial⟩
 ·exact h.elim
theorem KX{x:At}{d:Option Tmp}(hX:RX g s.toS a w H γ F)(hd:okD g.nt d=true){y:Value}(hy:AR w H γ s.toS.m x.toV y)(h:nA s x d k) :
  ∃t' z,(Instr.entry y).run P w=.ok z w/\k t'/\RX g t'.toS (a.put d z) w H γ F:=by
 unfold nA at h;split at h
 ·rename_i n ku vu e rest hi;obtain⟨rfl,hr⟩:=I8 hi;obtain⟨v,ky,vl,hg,h1,_,h2,h3⟩:=Em (P:=P) hX hr;obtain rfl:=Ty hg hy;exact⟨_,_,h1,h,aS (aB _ _ _) (hX.put hd ⟨_,rfl,⟨fun _=>rfl,h2⟩,⟨fun _=>rfl,h3⟩,trivial⟩)⟩
 ·exact h.elim
theorem wb{t tt:TypeId}{kt et:TypeId}{b:Nat}{es:Array MapEntry}{ck:Nat}(hu:P.underlying t=some (.map kt et))(hb:w.heap[b]? = some (.map es ck)) :
  (Builtin.len_ #[t] tt #[.map (some b)]).run P w=.ok (.int .i64 (es.size:Int)) w:=by
 simp[Builtin.len_,run_underlying hu,getObj,Sem.run,Sem.run_bind,hb,Result.andThen,goInt]
theorem DB{t tt:TypeId}{kt et:TypeId}(hu:P.underlying t=some (.map kt et)) :
  (Builtin.len_ #[t] tt #[.map none]).run P w=.ok (.int .i64 0) w:=by
 simp[Builtin.len_,run_underlying hu,Sem.run,Sem.run_bind,Result.andThen,goInt]
theorem Iv{w:World}{H:FH}:∀{l:List (D×Sh×D)}{es:List MapEntry}{f:Fp},MpO w H l es f->l.length=es.length
 |[],[],_,_=>rfl
 |_::_,_::_,_,h=>by obtain⟨_,f1,f2,k,_,_,h⟩:=h;simp[Iv h]
 |[],_::_,_,h=>h.elim
 |_::_,[],_,h=>h.elim
theorem FQ{x:At}{d:Tmp}(hX:RX g s.toS a w H γ F)(hd:okD g.nt (some d)=true){y:Value}(hy:AR w H γ s.toS.m x.toV y){t tt:TypeId}{kt et:TypeId}(ht:(ty P t).k=.mp kt et)(h:nI s x d k) :
  ∃t' z,(Builtin.len_ #[t] tt #[y]).run P w=.ok z w/\k t'/\RX g t'.toS (a.put (some d) z) w H γ F:=by
 obtain⟨_,td,_,hu,htd,_⟩:=aP ht (by simp);obtain rfl:=oz htd;have big:∀n:Nat,n<=4611686018427387904->(Lit.int .i64 (n:Int)).wf=true:=fun n h=>wy (by unfold BIG;omega)
 unfold nI at h;split at h
 ·rename_i ku vu z;have hd2:FDx H (.mp (z.map fun l=>l.map fun x=>((al ku x.1).headD .any,(al vu x.2).headD .any))) y:=hy.2
  cases z with
  |none=>
   have hy0:y=.map none:=by obtain⟨m,hd2⟩:=hd2;cases m<;>exact hd2
   subst hy0;exact⟨_,_,DB hu,h.2,aS (aB _ _ _) (hX.put hd ⟨fun _=>rfl,0,rfl,big 0 Z1⟩)⟩
  |some l=>
   obtain⟨m,hd2⟩:=hd2;cases m with
   |zero=>exact hd2.elim
   |succ m=>
    obtain⟨b,es,ck,rfl,k2,k3,k4⟩:=hd2;obtain⟨k5,k6⟩:=hX.mem.agree b 0 _ k2;have e:es.size=l.length:=by rw[WJ]at k3;exact k3
    exact⟨_,_,wb hu k5,h.2,aS (aB _ _ _) (hX.put hd ⟨fun _=>rfl,0,by rw[e];rfl,big _ h.1⟩)⟩
 ·rename_i p;split at h
  ·rename_i ku vu l hm;obtain⟨n,rfl,hr⟩:=nG hm;obtain⟨b,es,ck,f,rfl,_,c2,c3,c4,_⟩:=pe hX hr hy;have e:es.size=l.length:=by have:=Iv c4;rw[WJ]at this;exact this.symm
   exact⟨_,_,wb hu c2,h.2,aS (aB _ _ _) (hX.put hd ⟨fun _=>rfl,0,by rw[e],big _ h.1⟩)⟩
  ·exact h.elim
 ·exact h.elim
theorem PU:∀{cells:List Tt}{row:List C},tdC cells=some row->(cells.map Tt.toT).all T.isD=true/\(cells.map Tt.toT).map T.toD=row.map C.toD
 |[],row,h=>by cases h;exact⟨rfl,rfl⟩
 |t::ts,row,h=>by
  cases t with
  |d c=>
   have h':∃r,tdC ts=some r/\row=c::r:=by
    cases c with
    |any=>cases h
    |_=>obtain⟨r,h1,h2⟩:=WW.1 h;exact⟨r,h1,h2.symm⟩
   obtain⟨r,h1,rfl⟩:=h';obtain⟨k1,k2⟩:=PU h1;exact⟨by simp only[List.map_cons,W0,k1];rfl,by simp only[List.map_cons,k2];rfl⟩
  |_=>simp[tdC]at h
theorem Ey(n:Nm)(row:List C)(t:Tt):(t.frB n row).toT=t.toT.frB n (row.map C.toD):=by
 cases t with
 |pl p=>
  obtain⟨r,o,path⟩:=p;cases path with
  |nil=>
   show(if r=n then Tt.el row o else Tt.pl ⟨r,o,[]⟩).toT=if r=n then T.el (row.map C.toD) o else T.pl ⟨r,o,[]⟩
   by_cases e:r=n
   ·rw[if_pos e,if_pos e];rfl
   ·rw[if_neg e,if_neg e];rfl
  |cons st u=>exact cU (aX n) (.pl ⟨r,o,st::u⟩)
 |rf p=>exact cU (aX n) (.rf p)
 |_=>rfl
theorem JT(h:RX g s.toS a w H γ F)(n:Nm):∃H',RX g (Ca s n).toS a w H' γ F:=by
 unfold Ca;split
 ·rename_i cells hr;split
  ·rename_i row hrow;obtain⟨h1,h2⟩:=PU hrow;obtain⟨H',h'⟩:=Qn h n;refine⟨H',?_⟩;have eg:ab s.toS.m n=some ⟨true,cells.map Tt.toT⟩:=aR hr
   have e:s.toS.frzB n=(⟨s.nx+1,s.t.map fun x=>(x.1,stp (x.2.2.hit (aX n)) s.nx x.2.1,x.2.2.map (Tt.frB n row)),bP (aX n) s.nx (dC s.m n)⟩:St).toS:=by
    unfold S.frzB;rw[eg];dsimp only;rw[if_pos h1,h2];refine bb.S_ext ?_ ?_
    ·simp only[St.toS,oY,WZ];exact W1 fun x _=>by simp only[Function.comp,oA (Ey n row)]
    ·have h3:=dc (aX n) s.nx (dC s.m n)
     rw[kz n s.m (d9 h)]at h3;exact h3.symm
   rw[<- e];exact h'
  ·exact⟨H,h⟩
 ·exact⟨H,h⟩
theorem nj:∀(vs:List At)(s:St)(H:FH),RX g s.toS a w H γ F->∃H',RX g (oe s vs).toS a w H' γ F
 |[],s,H,h=>⟨H,h⟩
 |v::vs,s0,H,h=>by
  unfold oe;split
  ·exact⟨H,h⟩
  ·rename_i e;cases e;obtain⟨H1,h1⟩:=JT h _;exact nj _ _ H1 h1
  ·rename_i e;cases e;exact nj _ _ H h
theorem uF{row:List C}{c:Lt.Cap}:∀{l:List Sn},BN row l=some c->row=flat (.st (Uq c).1) (Uq c).2/\c.enc=row.map C.toD
 |[],h=>by cases h
 |n::r,h=>by
  unfold BN at h;split at h
  ·rename_i x hx;split at h
   ·rename_i c' hc;cases h;obtain⟨h1,h2⟩:=Rd hc;have h3:=r9 hx
    refine⟨by rw[h1];exact h3,?_⟩;rw[h2,h3,bq];rfl
   ·exact uF h
  ·exact uF h
theorem xI(hX:RX g s.toS a w H γ F):∀{ops:List Operand}{cs:List Lt.Cap},ops.all ax=true->y9 s ops=some cs->cs.length=ops.length/\∃m,∀(i:Nat)(row:List D)(y:Value),(cs.map Lt.Cap.enc)[i]? = some row->(ops.map a.eval)[i]? = some y ->
   ∃b o,y=.pointer (some ⟨b,o,none⟩)/\∀j,j<row.length->∃z:Value,H b (o+j)=some z/\FD H m (row.getD j default) z
 |[],cs,_,h=>by cases h;exact⟨rfl,0,fun i row y h=>by simp at h⟩
 |x::ops,cs,ho,h=>by
  simp only[W0,WI]at ho;unfold y9 at h;split at h
  ·rename_i row hv;split at h
   ·rename_i c cs' hc hcs;cases h;obtain⟨h1,m1,h2⟩:=xI hX ho.2 hcs;have h3:=aA hX ho.1
    rw[af ho.1,hv]at h3;obtain⟨_,b,o,m2,h4,h5⟩:=h3;obtain⟨_,h6⟩:=uF hc;refine⟨by simp[h1],m1+m2,fun i row' y hi hy=>?_⟩;have mono:=fun{m:Nat}(hm:m<=m1+m2){d:D}{v:Value}(h:FD H m d v)=>eG (fun _ _ _ h=>h) m (m1+m2) d v hm h
    cases i with
    |zero=>
     have hi:c.enc=row':=by simpa using hi
     have hy:a.eval x=y:=by simpa using hy
     subst hi hy;rw[h6];refine⟨b,o,h4,fun j hj=>?_⟩;obtain⟨z,hz,hf⟩:=h5 j hj;exact⟨z,hz,mono Z1 hf⟩
    |succ i=>
     obtain⟨b',o',k1,k2⟩:=h2 i row' y (by simpa using hi) (by simpa using hy);refine⟨b',o',k1,fun j hj=>?_⟩;obtain⟨z,hz,hf⟩:=k2 j hj;exact⟨z,hz,mono Z1 hf⟩
   ·cases h
  ·cases h
theorem zC{f:Nat}{caps:List Operand}{d:Option Tmp}(hX:RX g s.toS a w H γ F)(hd:okD g.nt d=true)(hc:caps.all ax=true)(h:iD s f caps d k) :
  ∃t' H',k t'/\RX g t'.toS (a.put d (.func (.func f) #[] (caps.map a.eval).toArray)) w H' γ F:=by
 unfold iD at h;dsimp only at h;obtain⟨H1,h1⟩:=nj (caps.map (evA s)) s H hX;generalize oe s (caps.map (evA s))=s1 at h h1;split at h
 ·rename_i cs hcs;obtain⟨k1,m,k2⟩:=xI h1 hc hcs;refine⟨_,H1,h,aS (aB _ _ _) (h1.put hd ⟨fun _=>rfl,m+1,caps.map a.eval,rfl,?_,k2⟩)⟩;simp[k1]
 ·exact h.elim
end
abbrev chn(v:Value):List PanicEntry:=[{ v,recovered:=false }]
def gF(g:G)(a:Act)(pk:PKt)(k:St->At->Prop)(e:Ending)(w':World):Prop:=
 (∃r s' av H' γ' F',e=.returned r/\k s' av/\AR w' H' γ' (toM s'.m) av.toV r/\RX g s'.toS a w' H' γ' F') \/
 ∃v s',e=.panicked (chn v)/\pk v s'/\R g s'.toS a w'
structure Cont (P:Program) (f:Nat) (C:CKt):Prop where
 run:∀args w,(callFunc f args).run P w=.ok (.enter f args) w
 ext:∀(pk:PKt)(s:St)(ops:List Operand)(k k':St->At->Prop),(∀s' v,Ext s s'->k s' v->k' s' v)->C pk s ops k->C pk s ops k'
 call:∀(g:G)(pk:PKt)(s:St)(a:Act)(w:World)(H:FH)(γ:Gam)(F:Nm->Fp)(ops:List Operand)(k:St->At->Prop),RX g s.toS a w H γ F->ops.all ax=true->C pk s ops k ->
  Calls P f (ops.map a.eval).toArray w (gF g a pk k)
structure ContC (P:Program) (key:Nat) (C:CKt):Prop where
 big:1000000<=key
 run:∀args w,(callFunc (key - 1000000) args).run P w=.ok (.enter (key - 1000000) args) w
 ext:∀(pk:PKt)(s:St)(ops:List Operand)(k k':St->At->Prop),(∀s' v,Ext s s'->k s' v->k' s' v)->C pk s ops k->C pk s ops k'
 call:∀(g:G)(pk:PKt)(s:St)(a:Act)(w:World)(H:FH)(γ:Gam)(F:Nm->Fp)(t:Tmp)(ops:List Operand)(k:St->At->Prop)(ps:Array Value),RX g s.toS a w H γ F->ops.all ax=true->t<TB->a.tmps.getD t undef=.func (.func (key - 1000000)) #[] ps->C pk s (.tmp t::ops) k ->
  Calls P (key - 1000000) ((ops.map a.eval).toArray++ps) w (gF g a pk k)
def En.ok(e:En):Prop:=∀x∈e.cs,(Nat.blt x.1 1000000=true->Cont e.P x.1 x.2)/\(1000000<=x.1->ContC e.P x.1 x.2)
theorem En.ok_get'{e:En}(h:e.ok){f:Nat}{C:CKt}(hg:e.cs.get f=some C):(Nat.blt f 1000000=true->Cont e.P f C)/\(1000000<=f->ContC e.P f C):=by
 have:∀cs:CTt,(∀x∈cs,(Nat.blt x.1 1000000=true->Cont e.P x.1 x.2)/\(1000000<=x.1->ContC e.P x.1 x.2))->cs.get f=some C->(Nat.blt f 1000000=true->Cont e.P f C)/\(1000000<=f->ContC e.P f C):=by
  intro cs;induction cs with
  |nil=>intro _ h;cases h
  |cons x cs ih=>
   obtain⟨f',C'⟩:=x;intro h hg2;simp only[CTt.get]at hg2;split at hg2
   ·rename_i hb;have:=WS hb
    subst this;have hg':C'=C:=by simpa using hg2
    subst hg';exact h (f',C') (by simp)
   ·exact ih (fun y hy=>h y (WV _ hy)) hg2
 exact this e.cs h hg
theorem En.ok_get{e:En}(h:e.ok){f:Nat}{C:CKt}(hg:e.cs.get f=some C)(hf:Nat.blt f 1000000=true):Cont e.P f C:=(En.ok_get' h hg).1 hf
theorem KU{v:At}{key:Nat}(h:xN v=some key):1000000<=key:=by
 unfold xN at h;split at h
 ·simp only[WG]at h;omega
 ·cases h
section
variable {k k':At->Prop}
theorem Gb{c x y:At}(hk:∀v,k v->k' v)(h:sM c x y k):sM c x y k':=by
 unfold sM at h⊢
 (repeat' split at h)<;>first|exact h.elim|exact hk _ h|exact⟨h.1,hk _ h.2⟩|(simp_all;done)
theorem LL{op:BinOp}{κ:IntKind}{a b:Int}{K K':C->Prop}(hk:∀v,K v->K' v)(h:FW op κ a b K):FW op κ a b K':=by
 unfold FW at h⊢;cases op<;>first|exact hk _ h|exact⟨h.1,hk _ h.2⟩
theorem Km{op:BinOp}{x y:C}{K K':C->Prop}(hk:∀v,K v->K' v)(h:wB op x y K):wB op x y K':=by
 unfold wB at h⊢;split at h
 ·split at h<;>first|exact h.elim|exact hk _ h|exact⟨h.1,hk _ h.2⟩
 ·split at h
  ·split at h
   ·rename_i hc;rw[if_pos hc];exact LL hk h
   ·exact h.elim
  ·exact h.elim
theorem Kn{P:Program}{op:BinOp}{t:TypeId}{x y:At}(hk:∀v,k v->k' v)(h:By P op t x y k):By P op t x y k':=by
 unfold By at h⊢
 (repeat' split at h)<;>first|exact h.elim|exact hk _ h|exact⟨h.1,hk _ h.2⟩|exact Km (fun v hv=>hk _ hv) h|(simp_all;done)
theorem PY{op:UnOp}{x:At}(hk:∀v,k v->k' v)(h:unT op x k):unT op x k':=by
 unfold unT at h⊢
 (repeat' split at h)<;>first|exact h.elim|exact hk _ h|exact⟨h.1,hk _ h.2⟩|(simp_all;done)
theorem wG{x:At}{i:Nat}(hk:∀v,k v->k' v)(h:gL x i k):gL x i k':=by
 unfold gL at h⊢
 (repeat' split at h)<;>first|exact h.elim|exact hk _ h|exact⟨h.1,hk _ h.2⟩|(simp_all;done)
theorem DL{x i:At}(hk:∀v,k v->k' v)(h:m5 x i k):m5 x i k':=by
 unfold m5 at h⊢
 (repeat' split at h)<;>first|exact h.elim|exact hk _ h|exact⟨h.1,hk _ h.2⟩|(simp_all;done)
theorem fa{y:Option At}{d:Nat}{k1 k2:Nat->Prop}(hk:∀n,k1 n->k2 n)(hb:dX y d k1):dX y d k2:=by
 unfold dX at hb⊢;split at hb
 ·exact hk _ hb
 ·exact⟨hb.1,hk _ hb.2⟩
 ·exact hb.elim
theorem DJ{P:Program}{t:TypeId}{x:At}{lo hi:Option At}(hk:∀v,k v->k' v)(h:mZ P t x lo hi k):mZ P t x lo hi k':=by
 unfold mZ at h⊢;split at h
 ·split at h
  ·exact fa (fun a ha=>fa (fun b hb=>⟨hb.1,hk _ hb.2⟩) ha) h
  ·exact h.elim
 ·split at h
  ·skip
   split at h
   ·exact fa (fun a ha=>fa (fun b hb=>⟨hb.1,hk _ hb.2⟩) ha) h
   ·exact h.elim
  ·exact h.elim
 ·split at h
  ·skip
   split at h
   ·exact fa (fun a ha=>fa (fun b hb=>⟨hb.1,hb.2.1,hk _ hb.2.2⟩) ha) h
   ·exact h.elim
  ·exact h.elim
 ·exact h.elim
theorem s8{P:Program}{m:List (Nm×Nat×Rt)}{t:TypeId}{x:At}{i:Nat}(hk:∀v,k v->k' v)(h:dD P m t x i k):dD P m t x i k':=by
 unfold dD at h⊢;split at h
 ·skip
  split at h
  ·skip
   split at h
   ·split at h
    ·exact hk _ h
    ·exact h.elim
   ·exact hk _ h
   ·exact h.elim
  ·exact h.elim
 ·exact h.elim
theorem lU{P:Program}{m:List (Nm×Nat×Rt)}{t:TypeId}{x i:At}(hk:∀v,k v->k' v)(h:db P m t x i k):db P m t x i k':=by
 unfold db at h⊢;split at h
 ·split at h
  ·skip
   split at h
   ·split at h
    ·exact⟨h.1,hk _ h.2⟩
    ·exact h.elim
   ·split at h
    ·skip
     split at h
     ·skip
      split at h
      ·exact⟨h.1,hk _ h.2⟩
      ·exact h.elim
     ·exact h.elim
    ·exact h.elim
   ·exact h.elim
  ·skip
   split at h
   ·split at h
    ·exact⟨h.1,hk _ h.2⟩
    ·exact h.elim
   ·split at h
    ·exact⟨h.1,hk _ h.2⟩
    ·exact h.elim
   ·exact h.elim
  ·exact h.elim
 ·exact h.elim
theorem FJ{P:Program}{m:List (Nm×Nat×Rt)}{t:TypeId}{x:At}(hk:∀v,k v->k' v)(h:iU P m t x k):iU P m t x k':=by
 unfold iU at h⊢;split at h
 ·skip
  split at h
  ·split at h
   ·skip
    split at h
    ·exact hk _ h
    ·exact h.elim
   ·skip
    split at h
    ·exact hk _ h
    ·exact h.elim
  ·split at h
   ·exact⟨h.1,hk _ h.2⟩
   ·exact h.elim
  ·split at h
   ·skip
    split at h
    ·exact hk _ h
    ·exact h.elim
   ·skip
    split at h
    ·exact hk _ h
    ·exact h.elim
  ·exact h.elim
 ·exact h.elim
theorem B0{P:Program}{t:TypeId}{x:At}{i:Nat}(hk:∀v,k v->k' v)(h:mA P t x i k):mA P t x i k':=by
 unfold mA at h⊢;split at h
 ·skip
  split at h
  ·skip
   split at h
   ·exact hk _ h
   ·exact h.elim
  ·skip
   split at h
   ·exact hk _ h
   ·exact h.elim
  ·exact h.elim
 ·exact h.elim
theorem vr{x:At}(hk:∀v,k v->k' v)(h:fg x k):fg x k':=by
 unfold fg at h⊢;split at h
 ·exact hk _ h
 ·exact hk _ h
 ·exact hk _ h
 ·exact h.elim
theorem BC{P:Program}{t:TypeId}{ps:List (Nat×At)}(hk:∀v,k v->k' v)(h:mr P t ps k):mr P t ps k':=by
 unfold mr at h⊢;split at h
 ·skip
  split at h
  ·exact hk _ h
  ·exact h.elim
 ·exact h.elim
theorem EX{P:Program}{su du:TypeId}{x:At}(hk:∀v,k v->k' v)(h:sD P su du x k):sD P su du x k':=by
 unfold sD at h⊢;split at h
 ·skip
  split at h
  ·split at h
   ·exact hk _ h
   ·exact h.elim
  ·exact h.elim
 ·skip
  split at h
  ·skip
   split at h
   ·exact hk _ h
   ·exact hk _ h
   ·exact h.elim
  ·exact h.elim
 ·exact h.elim
theorem zZ{e:En}{o:Oper}{s:St}(hk:∀v,k v->k' v)(h:qT e o s k):qT e o s k':=by
 unfold qT at h⊢;cases ho:o.op with
 |move x=>rw[ho]at h;exact hk _ h
 |assign x=>rw[ho]at h;exact hk _ h
 |pick c x y=>rw[ho]at h;exact Gb hk h
 |binOp op t x y z=>rw[ho]at h;exact Kn hk h
 |unOp op t x=>rw[ho]at h;exact PY hk h
 |load t x=>rw[ho]at h;exact FJ hk h
 |field t x i=>rw[ho]at h;exact B0 hk h
 |fieldAddr t x i=>rw[ho]at h;exact s8 hk h
 |indexAddr t x i=>rw[ho]at h;exact lU hk h
 |index t x i=>
  rw[ho]at h;dsimp only at h⊢;split at h
  ·exact DL hk h
  ·exact h.elim
 |extract x i=>rw[ho]at h;exact wG hk h
 |convert su du x=>rw[ho]at h;exact EX hk h
 |slice t x lo hi mx=>
  rw[ho]at h;cases mx with
  |some _=>exact h.elim
  |none=>exact DJ hk h
 |nilCheck x=>rw[ho]at h;exact vr hk h
 |build t ps=>rw[ho]at h;exact BC hk h
 |call c=>
  rw[ho]at h;dsimp only at h⊢;split at h
  ·skip
   split at h
   ·exact yc (fun n hn=>hk _ hn) h
   ·exact h.elim
  ·exact h.elim
 |_=>rw[ho]at h;exact h.elim
end
section
variable {k k':St->Prop} {s:St}
theorem ED{P:Program}{t:TypeId}{d:Tmp}(hk:∀s',Ext s s'->k s'->k' s')(h:ml P s t d k):ml P s t d k':=by
 unfold ml at h⊢;split at h
 ·skip
  split at h
  ·exact hk _ (((bB _ _).trans (cf _ _ _)).trans (aw _ _ _)) h
  ·exact h.elim
 ·exact h.elim
theorem NC{x:Operand}{d:Tmp}(hk:∀s',Ext s s'->k s'->k' s')(h:BB s x d k):BB s x d k':=by
 unfold BB at h⊢;split at h
 ·skip
  split at h
  ·exact hk _ (((bB _ _).trans (cf _ _ _)).trans (aw _ _ _)) h
  ·exact h.elim
 ·exact h.elim
theorem s7{P:Program}{E:Ut}{t:TypeId}{n:Nat}{ps:Array (Nat×Operand)}{d:Tmp}(hk:∀s',Ext s s'->k s'->k' s')(h:cW P E s t n ps d k):cW P E s t n ps d k':=by
 unfold cW at h⊢;split at h
 ·skip
  split at h
  ·skip
   split at h
   ·skip
    dsimp only at h⊢;split at h
    ·skip
     split at h
     ·skip
      exact hk _ ((((bN _ _).trans (bB _ _)).trans (cf _ _ _)).trans (aw _ _ _)) h
     ·exact h.elim
    ·exact h.elim
   ·exact h.elim
  ·exact h.elim
 ·exact h.elim
theorem vR{p:Pl}{t:Tt}(hk:∀s',Ext s s'->k s'->k' s')(h:wZ s p t k):wZ s p t k':=by
 unfold wZ at h⊢;split at h
 ·exact h.elim
 ·skip
  split at h
  ·skip
   split at h
   ·exact hk _ ⟨Xt _,fun _ _ _ h _=>h,cq _ _ (WN _) _⟩ h
   ·exact h.elim
  ·skip
   split at h
   ·exact nN (hk _ ⟨Xt _,fun _ _ _ h _=>h,cq _ _ (WN _) _⟩) h
   ·exact h.elim
  ·skip
   split at h
   ·skip
    split at h
    ·exact nN (sF (hk _ ⟨Xt _,fun _ _ _ h _=>h,cq _ _ (WN _) _⟩)) h
    ·exact h.elim
   ·exact h.elim
  ·exact h.elim
theorem jN:∀{ts:List Tt}{s:St}{p:Pl},(∀s',Ext s s'->k s'->k' s')->fH s p ts k->fH s p ts k'
 |[],s,p,hk,h=>hk _ (Ext.refl s) h
 |t::ts,s,p,hk,h=>by
  cases t with
  |rf q=>
   simp only[fH]at h⊢;split at h
   ·skip
    split at h
    ·skip
     exact vR (fun s' he hs'=>jN (fun s'' he'=>hk s'' (((py _ _).trans he).trans he')) hs') h
    ·exact h.elim
   ·exact h.elim
  |any=>exact h.elim
  |d c=>cases c with
   |any=>exact h.elim
   |_=>exact vR (fun s' he hs'=>jN (fun s'' he'=>hk s'' (he.trans he')) hs') h
  |_=>exact vR (fun s' he hs'=>jN (fun s'' he'=>hk s'' (he.trans he')) hs') h
theorem Dn{p:Pl}{ts:List Tt}(hk:∀s',Ext s s'->k s'->k' s')(h:jI s p ts k):jI s p ts k':=by
 unfold jI at h⊢;split at h
 ·exact h.elim
 ·skip
  split at h
  ·skip
   split at h
   ·exact nN (hk _ ⟨Xt _,fun _ _ _ h _=>h,cq _ _ (WN _) _⟩) h
   ·exact h.elim
  ·exact h.elim
theorem GB{P:Program}{t:TypeId}{x v:At}(hk:∀s',Ext s s'->k s'->k' s')(h:m0 P s t x v k):m0 P s t x v k':=by
 unfold m0 at h⊢;split at h
 ·skip
  split at h
  ·skip
   split at h
   ·exact Dn hk h
   ·exact jN hk h
  ·exact h.elim
 ·exact h.elim
theorem fQ{u:U}{v:At}{s':St}{sub:List Sh}{l:List (El u)}(h:iK s u v=some (s',sub,l)):Ext s s':=by
 unfold iK at h;split at h
 ·simp only[WG,Prod.mk.injEq]at h;obtain⟨rfl,_⟩:=h;exact Ext.refl _
 ·split at h
  ·split at h
   ·rename_i htake;simp only[WG,Prod.mk.injEq]at h;obtain⟨rfl,_⟩:=h;unfold PT at htake;split at htake
    ·cases htake
    ·split at htake
     ·simp only[WG]at htake;rw[<- htake];exact⟨Xt _,fM (WN _),(cq _ _ (WN _) s.m).trans (dt (WN _))⟩
     ·simp only[WG]at htake;rw[<- htake];exact⟨Xt _,fM (WN _),(cq _ _ (WN _) s.m).trans (dt (WN _))⟩
     ·cases htake
   ·cases h
  ·cases h
 ·cases h
theorem Bt{P:Program}{E:Ut}{t u:TypeId}{x y:Operand}{d:Tmp}(hk:∀s',Ext s s'->k s'->k' s')(h:jl P E s t u x y d k):jl P E s t u x y d k':=by
 unfold jl at h⊢;dsimp only at h⊢;split at h
 ·skip
  split at h
  ·skip
   split at h
   ·skip
    split at h
    ·rename_i h3 h4;split at h
     ·skip
      exact⟨h.1,hk _ (((((eY _ _).trans (fQ h4)).trans (bB _ _)).trans (cf _ _ _)).trans (aw _ _ _)) h.2⟩
     ·exact h.elim
    ·exact h.elim
   ·exact h.elim
  ·exact h.elim
 ·exact h.elim
theorem ri{P:Program}{E:Ut}{sub:List Sh}{t:TypeId}{n:Nat}{ps:Array (Nat×Operand)}{d:Tmp}(hk:∀s',Ext s s'->k s'->k' s')(h:cu P E sub s t n ps d k):cu P E sub s t n ps d k':=by
 unfold cu at h⊢;split at h
 ·skip
  split at h
  ·skip
   split at h
   ·skip
    dsimp only at h⊢;split at h
    ·skip
     split at h
     ·skip
      exact hk _ ((((bN _ _).trans (bB _ _)).trans (cf _ _ _)).trans (aw _ _ _)) h
     ·exact h.elim
    ·exact h.elim
   ·exact h.elim
  ·exact h.elim
 ·exact h.elim
theorem rk{P:Program}{E:Ut}{sub:List Sh}{t:TypeId}{n:Nat}{ps:Array (Nat×Operand)}{d:Tmp}(hk:∀s',Ext s s'->k s'->k' s')(h:cv P E sub s t n ps d k):cv P E sub s t n ps d k':=by
 unfold cv at h⊢
 (repeat' split at h)<;>first|exact h.elim|skip
 exact hk _ ((((fQ (by assumption)).trans (bB _ _)).trans (cf _ _ _)).trans (aw _ _ _)) h
theorem yW{P:Program}{E:Ut}{t u:TypeId}{x y:Operand}{d:Tmp}(hk:∀s',Ext s s'->k s'->k' s')(h:gA P E s t u x y d k):gA P E s t u x y d k':=by
 unfold gA at h⊢;split at h
 ·skip
  split at h
  ·skip
   split at h
   ·skip
    split at h
    ·rename_i h3;split at h
     ·rename_i h4;split at h
      ·skip
       exact⟨h.1,hk _ (((((fQ h3).trans (fQ h4)).trans (bB _ _)).trans (cf _ _ _)).trans (aw _ _ _)) h.2⟩
      ·exact h.elim
     ·exact h.elim
    ·exact h.elim
   ·exact h.elim
  ·exact h.elim
 ·exact h.elim
theorem iI(tm:Nat):∀(sh:List Sh)(j:Nat)(s:St),Ext s (vo tm sh j s)
 |[],_,s=>Ext.refl s
 |.fr::r,j,s=>iI tm r (j+1) s
 |.ow _::r,j,s=>by
  simp only[vo];split
  ·split
   ·split
    ·split
     ·rename_i h _;split
      ·exact((((fQ (by assumption)).trans (bB _ _)).trans (cf _ _ _)).trans (aw _ _ _)).trans (iI tm r (j+1) _)
      ·exact(((fQ (by assumption)).trans (bB _ _)).trans (cf _ _ _)).trans (iI tm r (j+1) _)
     ·exact iI tm r (j+1) s
    ·exact iI tm r (j+1) s
   ·exact iI tm r (j+1) s
  ·exact Ext.refl s
theorem MH(sh:List (TypeId×List Sh))(s:St)(t:TypeId)(v:Operand):Ext s (Da sh s t v):=by
 unfold Da;split
 ·exact iI _ _ _ _
 ·exact Ext.refl s
theorem Ae{e:En}{t:TypeId}{x hi:Operand}{d:Tmp}(hk:∀s',Ext s s'->k s'->k' s')(h:kS e s t x hi d k):kS e s t x hi d k':=by
 unfold kS at h⊢;split at h
 ·split at h
  ·split at h
   ·split at h
    ·rename_i hb;exact⟨h.1,hk _ ((((fQ hb).trans (bB _ _)).trans (cf _ _ _)).trans (aw _ _ _)) h.2⟩
    ·exact h.elim
   ·exact h.elim
  ·exact h.elim
 ·exact h.elim
theorem L8{e:En}{o:Oper}(hk:∀s',Ext s s'->k s'->k' s')(h:DK e o s k):DK e o s k':=by
 unfold DK at h⊢;split at h
 ·exact Ae hk h
 ·exact C5 hk h
 ·split at h
  ·exact C6 hk h
  ·exact h.elim
 ·dsimp only at h⊢;split at h
  ·split at h
   ·exact lU (fun v hv=>hk _ ((ng _ _).trans (aw _ _ _)) hv) h
   ·exact h.elim
  ·exact h.elim
 ·exact h.elim
theorem yy:∀{row:List C}{l:List (List UInt8)},wk row=some l->row=l.map C.s
 |[],_,h=>by cases h;rfl
 |c::r,l,h=>by
  cases c with
  |s x=>
   simp only[wk]at h;split at h
   ·rename_i l' hr;cases h;rw[yy hr];rfl
   ·cases h
  |_=>simp[wk]at h
theorem UD{e:En}(he:e.ok){o:Oper}(hk:∀s',Ext s s'->k s'->k' s')(h:lT e o s k):lT e o s k':=by
 unfold lT at h⊢;cases ho:o.op with
 |store t x v=>rw[ho]at h;exact GB (fun s' he hs'=>hk _ ((((MH _ _ _ _).trans (JI _ _ _)).trans he).trans (aw _ _ _)) hs') h
 |alloc t=>
  rw[ho]at h;cases hd:o.dst with
  |none=>rw[hd]at h;exact h.elim
  |some d=>rw[hd]at h;exact ED hk h
 |box t x=>
  rw[ho]at h;cases hd:o.dst with
  |none=>rw[hd]at h;exact h.elim
  |some d=>rw[hd]at h;exact NC hk h
 |buildSlice t n ps=>
  rw[ho]at h;cases hd:o.dst with
  |none=>rw[hd]at h;exact h.elim
  |some d=>
   rw[hd]at h;dsimp only at h⊢;split at h
   ·exact s7 hk h
   ·split at h
    ·exact rk hk h
    ·exact ri hk h
 |call c=>
  rw[ho]at h;dsimp only at h⊢;split at h
  ·skip
   cases hd:o.dst with
   |none=>rw[hd]at h;exact h.elim
   |some d=>
    rw[hd]at h;dsimp only at h⊢;split at h
    ·exact Bt hk h
    ·exact yW hk h
  ·exact C4 (fun s' hE hs'=>hk _ (hE.trans (aw _ _ _)) hs') h
  ·skip
   split at h
   ·rename_i C hg hf;exact(En.ok_get he hg hf).ext _ _ _ _ _ (fun s' v hE hs'=>hk _ (hE.trans (aw _ _ _)) hs') h
   ·exact h.elim
  ·skip
   split at h
   ·skip
    split at h
    ·rename_i C hg hf;exact(En.ok_get he hg hf).ext _ _ _ _ _ (fun s' v hE hs'=>hk _ (hE.trans (aw _ _ _)) hs') h
    ·exact h.elim
   ·split at h
    ·split at h
     ·rename_i hkey _ C hg;exact((En.ok_get' he hg).2 (KU hkey)).ext _ _ _ _ _ (fun s' v hE hs'=>hk _ (hE.trans (aw _ _ _)) hs') h
     ·exact h.elim
    ·exact h.elim
   ·exact h.elim
  ·exact h.elim
 |makeMap t r=>
  rw[ho]at h;dsimp only at h⊢;split at h
  ·exact p8 hk h
  ·split at h
   ·exact p8 hk h
   ·exact h.elim
  ·exact h.elim
 |lookup t x i ok=>
  rw[ho]at h;dsimp only at h⊢;split at h
  ·exact zH hk h
  ·exact zF (fun v hv=>hk _ (aw _ _ _) hv) h
 |mapUpdate t m i v=>
  rw[ho]at h;dsimp only at h⊢;split at h
  ·exact C7 (fun s' hE hs'=>hk _ (hE.trans (aw _ _ _)) hs') h
  ·exact C8 (fun s' hE hs'=>hk _ (((eY _ _).trans hE).trans (aw _ _ _)) hs') h
 |makeSlice t n c=>
  rw[ho]at h;cases hd:o.dst with
  |none=>rw[hd]at h;exact h.elim
  |some d=>rw[hd]at h;exact vk hk h
 |makeFunc fn first caps=>
  rw[ho]at h;dsimp only at h⊢;split at h
  ·exact wU hk h
  ·exact h.elim
 |range t x=>
  rw[ho]at h;cases hd:o.dst with
  |none=>rw[hd]at h;exact h.elim
  |some d=>rw[hd]at h;exact Gp hk h
 |next x b=>
  rw[ho]at h;cases b with
  |true=>exact h.elim
  |false=>exact LJ hk h
 |entry x=>rw[ho]at h;exact EZ hk h
 |_=>rw[ho]at h;exact h.elim
theorem Dh{e:En}(he:e.ok){o:Oper}(hk:∀s',Ext s s'->k s'->k' s')(h:vE e o s k):vE e o s k':=by
 unfold vE at h⊢;split at h
 ·rename_i hq;exact zZ (fun v hv=>hk _ ((AE _ _).trans (aw _ _ _)) hv) h
 ·exact UD he hk h
theorem Sf{e:En}(he:e.ok){o:Oper}(hk:∀s',Ext s s'->k s'->k' s')(h:opT e o s k):opT e o s k':=by
 unfold opT at h⊢;split at h
 ·exact L8 hk h
 ·exact Dh he hk h
end
section
variable {P:Program} {g:G} {Q:Exit->S->Prop} {s:St}
def AOt(P:Program)(g:G)(o:Oper)(k:St->Prop)(Q:Exit->S->Prop)(s:St):Prop:=
 ∀a w,R g s.toS a w->o.wp P a w (fun a' w'=>∃s':St,k s'/\R g s'.toS a' w') (lift g Q)
def PQ(pk:PKt):Exit->S->Prop:=fun x s=>∃v,∃t:St,x=.panic (chn v)/\s=t.toS/\pk v t
section
variable {g:G} {a:Act} {w:World} {H:FH}
theorem fT{s:St}{i:Nat}{v:At}(h:gtA s.t i=v):aL s.toS.t i=v.toV:=by rw[<- h];exact cj i s.t
theorem Ns{γ:Gam}{F:Nm->Fp}{s:St}(hX:RX g s.toS a w H γ F){tm j:Nat}{ts:List Tt}{t:Tt}(hg:gtA s.t tm=.one (.agg ts))(hj:ts[j]? = some t) :
  ∃vs v,g.tv a tm=.agg vs/\vs.toList[j]? = some v/\TR w H γ s.toS.m t.toT (fun _=>0) v:=by
 have h:=hX.t tm
 rw[fT hg]at h;obtain⟨vs,h1,_,h3⟩:=h;obtain⟨_,v,g',_,h4,h5,h6⟩:=oC h3 (k:=j) (x:=t.toT) (by rw[WK,hj];rfl);refine⟨vs,v,h1,h4,?_⟩;have:g'=fun _=>0:=funext fun b=>by have:=h6 b;omega
 rw[<- this];exact h5
theorem iJ(tm:Nat):∀(sh:List Sh)(j:Nat)(s:St)(γ:Gam)(F:Nm->Fp),RX g s.toS a w H γ F->∃γ' F',RX g (vo tm sh j s).toS a w H γ' F'
 |[],_,s,γ,F,hX=>⟨γ,F,hX⟩
 |.fr::r,j,s,γ,F,hX=>iJ tm r (j+1) s γ F hX
 |.ow _::r,j,s,γ,F,hX=>by
  simp only[vo];split
  ·rename_i ts hg;split
   ·rename_i q hj;split
    ·rename_i u l0 _ _ _;split
     ·rename_i s1 sub l hb;obtain⟨vs,v,e1,e2,e3⟩:=Ns hX hg hj;have hy:AR w H γ s.toS.m (.one (.c (.rf q))) v:=e3
      obtain⟨b1,b2,_⟩:=kp (size:=nc u) rfl (d9 hX) (fun q' hq'=>by
       cases hq';exact mK e3.2.1) hb
      obtain⟨kb,f,F1,k1,k2,k3,k4,k5⟩:=kq hX hy b1;have hn2:=bX k2 (.gh (700000+j))
      have hts:∀b,tot F1 (s1.toS.fresh (.gh (700000+j))).m b<=tot F1 s1.toS.m b:=by
       intro b;unfold S.fresh;split
       ·exact WN _
       ·show tot F1 (aC _ _) b<=_
        rw[aV];exact eD
      obtain⟨γ',F',hX4,hγ⟩:=cG hn2 (n:=.gh (700000+j)) rfl (bH k2 (.gh (700000+j))) (v:=v) (t:=.ow sub (l.map (al u))) (f:=f) ⟨kb,k1⟩
       (fun b=>by have h1:=hts b;have h2:=k4 b;have h3:=hX.mem.le1 b;omega) (fun b hb=>⟨(k5 b hb).1,(k5 b hb).2.1⟩) (fun b hb=>(k5 b hb).2.2)
      have e4:((s1.fresh (.gh (700000+j))).root (.gh (700000+j)) ⟨false,[.ow sub u l],none⟩).toS=⟨(s1.toS.fresh (.gh (700000+j))).t,(.gh (700000+j),⟨false,[.ow sub (l.map (al u))]⟩)::(s1.toS.fresh (.gh (700000+j))).m⟩:=by
       rw[<- bk b2];rfl
      rw[<- e4]at hX4;generalize hs2:(s1.fresh (.gh (700000+j))).root (.gh (700000+j)) ⟨false,[.ow sub u l],none⟩=s2 at hX4 e4;split
      ·rename_i ts2 hg2;refine iJ tm r (j+1) _ γ' F' ⟨hX4.mem,hX4.fr,hX4.nt,hX4.df,fun i=>?_⟩;show AR w H γ' s2.toS.m (aL ((tm,At.toV (.one (.agg (ts2.set j (.rf ⟨.gh (700000+j),0,[]⟩)))))::s2.toS.t) i) _
       simp only[aL];split
       ·rename_i hi;subst hi;have h:=hX4.t tm
        rw[fT hg2,e1]at h;obtain⟨cs,h1,h2,h3⟩:=h;obtain rfl:=Value.agg.inj h1;rw[e1];refine⟨vs,rfl,by simpa using h2,?_⟩;by_cases hjl:j<ts2.length
        ·obtain⟨_,_,_,fk,fr,_,_,_,a4,_,a6,_⟩:=bW _ _ _ _ j h3 (by simpa using hjl);have hr:TR w H γ' s2.toS.m (.rf ⟨.gh (700000+j),0,[]⟩) (fun _=>0) v:=(fi (H:=H) (w:=w) (sub:=sub) (l:=l.map (al u)) (by rw[e4];simp[ab]) hγ:AR w H γ' s2.toS.m (.one (.c (.rf ⟨.gh (700000+j),0,[]⟩))) v)
         have:=a6 (fun _=>TR w H γ' s2.toS.m) (.rf ⟨.gh (700000+j),0,[]⟩) v (fun _=>0) (fun _ _ _ _ _ h=>h) hr
         rw[kY e2]at this;unfold Ts;rw[WJ]at this⊢;rw[List.length_set,Xp];exact kf (fun b=>by have:=a4 b;omega) this
        ·rw[List.set_eq_of_length_le Z1];exact h3
       ·exact hX4.t i
      ·exact iJ tm r (j+1) _ γ' F' hX4
     ·exact iJ tm r (j+1) s γ F hX
    ·exact iJ tm r (j+1) s γ F hX
   ·exact iJ tm r (j+1) s γ F hX
  ·exact⟨γ,F,hX⟩
theorem Ng(sh:List (TypeId×List Sh)){s:St}{γ:Gam}{F:Nm->Fp}(t:TypeId)(v:Operand)(hX:RX g s.toS a w H γ F):∃γ' F',RX g (Da sh s t v).toS a w H γ' F':=by
 unfold Da;split
 ·exact iJ _ _ _ _ _ _ hX
 ·exact⟨γ,F,hX⟩
end
theorem Rp{w:World}{H:FH}{γ:Gam}{m:Mm}{v:At}{y:Value}(h:AR w H γ m v.toV y){f:Nat}(hf:Ro v=some f):y=.func (.func f) #[] #[]:=by
 unfold Ro at hf;split at hf
 ·rename_i f' x z;split at hf
  ·rename_i hx0 hy0;simp only[WG]at hf;subst hf;obtain⟨_,m,h3⟩:=h;have e1:y=.func (.func f') x z:=by cases m<;>exact h3.1
   rw[e1];have ex:x=#[]:=Array.eq_empty_of_size_eq_zero hx0
   have ey:z=#[]:=Array.eq_empty_of_size_eq_zero hy0
   rw[ex,ey]
  ·cases hf
 ·rename_i c;split at hf
  ·rename_i hc;simp only[WG]at hf;subst hf;obtain⟨_,m,h3⟩:=h;cases m with
   |zero=>exact h3.elim
   |succ m=>
    obtain⟨ps,h4,h5,_⟩:=h3;rw[hc]at h5;obtain rfl:ps=[]:=Xw h5;exact h4
  ·cases hf
 ·cases hf
theorem N6{w:World}{H:FH}{γ:Gam}{m:Mm}{v:At}{y:Value}(h:AR w H γ m v.toV y){key:Nat}(hf:xN v=some key):∃f ps,key=f+1000000/\y=.func (.func f) #[] ps:=by
 unfold xN at hf;split at hf
 ·rename_i c;simp only[WG]at hf;subst hf;obtain⟨_,m,h3⟩:=h;cases m with
  |zero=>exact h3.elim
  |succ m=>
   obtain⟨ps,h4,_⟩:=h3;exact⟨c.fn,_,rfl,h4⟩
 ·cases hf
theorem Pe{e:En}{o:Oper}{c:Call}{d:Tmp}(ho:o.op=.call c)(hd:o.dst=some d)(h:Ga e o=true):∃t kt et,c.callee=.builtin .len/\c.argTypes.toList=[t]/\(ty e.P t).k=.mp kt et:=by
 unfold Ga at h;rw[ho,hd]at h;dsimp only at h;split at h
 ·rename_i t h1 h2;split at h
  ·rename_i kt et h3;exact⟨t,kt,et,h1,h2,h3⟩
  ·cases h
 ·cases h
theorem TO{e:En}(he:e.ok)(hpk:∀x s,PQ e.pk x s->Q x s){o:Oper}{k:St->Prop}(hc:opC g.nt o=true)(hq:isQ o=false)(h:lT e o s k):AOt e.P g o k Q s:=by
 intro a w hR;obtain⟨H,γ,F,hX⟩:=hR;have hn:=d9 hX
 have base:∀{s1:St},(∃H' F',RX g s1.toS a w H' γ F')->opK e.P [] o s1.toS (upS k)->o.wp e.P a w (fun a' w'=>∃s':St,k s'/\R g s'.toS a' w') (lift g Q):=by
  intro s1 ⟨H',F',hX1⟩ hop;exact bG (fun a' w'⟨s',⟨t,e,hk⟩,hR'⟩=>⟨t,hk,xG e hR'⟩) (fun _ _ _ h=>h) (D4 (Q:=Q) CT.ok0 hc hop a w ⟨H',γ,F',hX1⟩)
 have hcc:=hc
 unfold opC at hcc;rw[WI]at hcc;obtain⟨hd,hcc⟩:=hcc;unfold lT at h;cases ho:o.op with
 |store t x v=>
  rw[ho]at h hcc;simp only[WI]at hcc;obtain⟨γ0,F0,h0⟩:=Ng e.sh t v hX;obtain⟨H1,F1,h1⟩:=JU h0 (evA (Da e.sh s t v) x) (evA (Da e.sh s t v) v);refine bG (fun a' w'⟨s',⟨t,e,hk⟩,hR'⟩=>⟨t,hk,xG e hR'⟩) (fun _ _ _ h=>h) (D4 (Q:=Q) CT.ok0 hc (?_:opK e.P [] o _ (upS k)) a w ⟨H1,γ0,F1,h1⟩);unfold opK;rw[ho];dsimp only;rw[af hcc.1,af hcc.2];exact Mb (fun t' hk=>⟨_,aB t' o.dst .any,hk⟩) (d9 h1) h
 |alloc t=>
  rw[ho]at h;cases hdd:o.dst with
  |none=>rw[hdd]at h;exact h.elim
  |some d=>
   rw[hdd]at h;refine base (s1:=s) ⟨H,F,hX⟩ ?_;unfold opK;rw[ho,hdd];exact Ke hn h
 |box t x=>
  rw[ho]at h hcc;cases hdd:o.dst with
  |none=>rw[hdd]at h;exact h.elim
  |some d=>
   rw[hdd]at h;refine base (s1:=s) ⟨H,F,hX⟩ ?_;unfold opK;rw[ho,hdd];exact QI hn hcc h
 |buildSlice t n ps=>
  rw[ho]at h hcc;cases hdd:o.dst with
  |none=>rw[hdd]at h;exact h.elim
  |some d=>
   rw[hdd]at h hd;have hX1:=cE (ps.toList.map fun x=>evA s x.2) s H F hX
   dsimp only at h;split at h
   ·refine base hX1 ?_;unfold opK;rw[ho,hdd];obtain⟨H1,F1,h1⟩:=hX1;exact uw hcc (d9 h1) h
   ·split at h
    ·obtain⟨t',y,w',γ',F',e1,hk,e3⟩:=s6 hX hd hcc h;unfold Oper.wp;have:(execOp a.eval o).run e.P w=.ok (.value y) w':=by simp only[execOp,ho];rw[Sem.run_bind,e1];rfl
     rw[this];exact⟨t',hk,_,γ',F',by rw[hdd];exact e3⟩
    obtain⟨H1,F1,h1⟩:=hX1;obtain⟨s',y,w',H',γ',F',e1,⟨t',et,hk⟩,e3⟩:=s4 (P:=e.P) h1 hd hcc (s5 hcc (d9 h1) h);unfold Oper.wp;have:(execOp a.eval o).run e.P w=.ok (.value y) w':=by simp only[execOp,ho];rw[Sem.run_bind,e1];rfl
    rw[this];exact⟨t',hk,H',γ',F',aS et (by rw[hdd];exact e3)⟩
 |call c=>
  rw[ho]at h hcc;obtain⟨callee,args,argTypes⟩:=c;obtain⟨args⟩:=args;obtain⟨argTypes⟩:=argTypes;dsimp only at h hcc;cases callee with
  |builtin b=>
   cases b with
   |append=>
    match args,argTypes,h with
    |[x,y],[t,u],h=>
     have h1:ax x=true/\ax y=true:=by simpa using hcc
     cases hdd:o.dst with
     |none=>rw[hdd]at h;exact h.elim
     |some d=>
      rw[hdd]at h hd;dsimp only at h;split at h
      rotate_left
      ·obtain⟨s',y',w',H',γ',F',e1,⟨t',et,hk⟩,e3⟩:=Bq (P:=e.P) (tt:=o.type) hX hd h1.1 h1.2 (Br h1.1 h1.2 hn (fun q hq=>by
         have h3:=aA hX h1.2
         rw[af h1.2,hq]at h3;obtain⟨_,h4,_⟩:=h3;exact mK h4) (fun size s1 sub l q hn1 hb hq=>by
         have hy:=aA hX h1.2
         rw[af h1.2]at hy;obtain⟨_,_,F1,_,hX1,_⟩:=kq hX hy hb;have h3:=aA hX1 h1.1
         rw[af h1.1,hq]at h3;obtain⟨_,h4,_⟩:=h3;exact mK h4) h)
       unfold Oper.wp;have:(execOp a.eval o).run e.P w=.ok (.value y') w':=by
        simp only[execOp,ho,resolve,invoke,builtin,Sem.run_bind,Sem.run_pure,Result.andThen_ok,List.map_toArray,List.map_cons,List.map_nil];rw[e1];rfl
       rw[this];exact⟨t',hk,H',γ',F',aS et (by rw[hdd];exact e3)⟩
      have hX1:=e9 hX (evA s y)
      refine base hX1 ?_;unfold opK;rw[ho,hdd];obtain⟨H1,F1,h2⟩:=hX1;exact EH h1.1 h1.2 (d9 h2) (fun q hq=>by
       have h3:=aA h2 h1.1
       rw[af h1.1,hq]at h3;obtain⟨_,h4,_⟩:=h3;exact mK h4) h
   |delete=>
    match args,argTypes,h with
    |[x,i],t::ts,h=>
     have h1:ax x=true/\ax i=true:=by simpa using hcc
     have h2:=aA hX h1.1
     have h3:=aA hX h1.2
     rw[af h1.1]at h2;rw[af h1.2]at h3;obtain⟨t',w',F',e1,e2,e3⟩:=FM (tt:=o.type) hX h2 h3 h;unfold Oper.wp;have:(execOp a.eval o).run e.P w=.ok (.value (.tuple #[])) w':=by
      simp only[execOp,ho,resolve,invoke,builtin,Sem.run_bind,Sem.run_pure,Result.andThen_ok,List.map_toArray,List.map_cons,List.map_nil];rw[e1];rfl
     rw[this];exact⟨_,e2,H,γ,F',aS (aB t' o.dst (.tup [])) (e3.put hd ⟨#[],rfl,trivial⟩)⟩
   |_=>exact h.elim
  |value v=>
   cases v with
   |func f=>
    dsimp only at h;split at h
    ·rename_i C hg hf;have hC:=En.ok_get he hg hf
     have hr:(execOp a.eval o).run e.P w=.ok (.enter f (args.map a.eval).toArray) w:=by
      simp only[execOp,ho,resolve,Act.eval,Deferred.ofValue,Sem.run_bind,Sem.run_pure,Result.andThen_ok,invoke];rw[hC.run];simp
     unfold Oper.wp;rw[hr];refine Calls.mono (hC.call g e.pk s a w H γ F args _ hX hcc h) (fun e' w' hp=>?_);rcases hp with⟨r,s',av,H',γ',F',k1,k2,k3,k4⟩|⟨v,s',k1,k2,k4⟩
     ·subst k1;exact⟨_,k2,H',γ',F',aS (aB s' o.dst av) (k4.put hd k3)⟩
     ·subst k1;exact⟨_,hpk _ _ ⟨v,s',rfl,rfl,k2⟩,k4⟩
    ·exact h.elim
   |tmp t=>
    dsimp only at h;have hval:Nat.blt t 100000=true->AR w H γ s.toS.m (gtA s.t t).toV (a.tmps.getD t undef):=fun ht=>by
     have h3:=hX.t t
     rw[G.tv_lo (show t<TB from WT ht),show aL s.toS.t t=(gtA s.t t).toV from cj t s.t]at h3;exact h3
    split at h
    ·rename_i f ht hf;split at h
     ·rename_i C hg hfl;have hC:=En.ok_get he hg hfl
      have hv:a.eval (.tmp t)=.func (.func f) #[] #[]:=Rp (hval ht) hf
      have hr:(execOp a.eval o).run e.P w=.ok (.enter f (args.map a.eval).toArray) w:=by
       simp only[execOp,ho,resolve,hv,Deferred.ofValue,Sem.run_bind,Sem.run_pure,Result.andThen_ok,invoke];rw[hC.run];simp
      unfold Oper.wp;rw[hr];refine Calls.mono (hC.call g e.pk s a w H γ F args _ hX hcc h) (fun e' w' hp=>?_);rcases hp with⟨r,s',av,H',γ',F',k1,k2,k3,k4⟩|⟨v,s',k1,k2,k4⟩
      ·subst k1;exact⟨_,k2,H',γ',F',aS (aB s' o.dst av) (k4.put hd k3)⟩
      ·subst k1;exact⟨_,hpk _ _ ⟨v,s',rfl,rfl,k2⟩,k4⟩
     ·exact h.elim
    ·rename_i ht hf;split at h
     ·rename_i key hk2;split at h
      ·rename_i C hg;obtain⟨f,ps,rfl,hv⟩:=N6 (hval ht) hk2;have hv2:a.eval (.tmp t)=.func (.func f) #[] ps:=hv
       have hC:=(En.ok_get' he hg).2 Z1
       ·have hr:(execOp a.eval o).run e.P w=.ok (.enter f ((args.map a.eval).toArray++ps)) w:=by
         have h5:=hC.run
         rw[Yl]at h5;simp only[execOp,ho,resolve,hv2,Deferred.ofValue,Sem.run_bind,Sem.run_pure,Result.andThen_ok,invoke];rw[h5];simp
        unfold Oper.wp;rw[hr];have h6:=hC.call g e.pk s a w H γ F t args _ ps hX hcc (WT ht) (by rw[Yl];exact hv) h
        rw[Yl]at h6;refine Calls.mono h6 (fun e' w' hp=>?_);rcases hp with⟨r,s',av,H',γ',F',k1,k2,k3,k4⟩|⟨v,s',k1,k2,k4⟩
        ·subst k1;exact⟨_,k2,H',γ',F',aS (aB s' o.dst av) (k4.put hd k3)⟩
        ·subst k1;exact⟨_,hpk _ _ ⟨v,s',rfl,rfl,k2⟩,k4⟩
      ·exact h.elim
     ·exact h.elim
    ·exact h.elim
   |_=>exact h.elim
  |invoke r n=>exact h.elim
 |makeMap t r=>
  rw[ho]at h hcc;have key:∀d,o.dst=some d->eh e.P e.E (dK e.sh (4000000+t)).isSome s t d k->(∀v,r.map a.eval=some v->∃κ n,v=.int κ n)->o.wp e.P a w (fun a' w'=>∃s':St,k s'/\R g s'.toS a' w') (lift g Q):=by
   intro d hdd h hr;rw[hdd]at hd;obtain⟨t',y,w',γ',F',e1,e2,e3⟩:=C3 hX hd h hr;unfold Oper.wp;have:(execOp a.eval o).run e.P w=.ok (.value y) w':=by simp only[execOp,ho];rw[Sem.run_bind,e1];rfl
   rw[this];exact⟨t',e2,H,γ',F',by rw[hdd];exact e3⟩
  dsimp only at h;split at h
  ·rename_i d hdd;exact key d hdd h (fun v hv=>by cases hv)
  ·rename_i d x hdd;split at h
   ·rename_i κ n hx;refine key d hdd h (fun v hv=>?_);have h3:=aA hX (show ax x=true from hcc)
    rw[af hcc,hx]at h3;exact⟨κ,n,by rw[<- Option.some.inj hv];exact(ld h3).1⟩
   ·exact h.elim
  ·exact h.elim
 |lookup t x i ok=>
  rw[ho]at h hcc;have h1:ax x=true/\ax i=true:=by simpa using hcc
  have h2:=aA hX h1.1
  have h3:=aA hX h1.2
  rw[af h1.1]at h2;rw[af h1.2]at h3;dsimp only at h;split at h
  ·rename_i d _ hdd;rw[hdd]at hd;obtain⟨t',y,γ',F',e1,e2,e3⟩:=C9 hX hd h1.1 h1.2 h;unfold Oper.wp;have:(execOp a.eval o).run e.P w=.ok (.value y) w:=by simp only[execOp,ho];rw[Sem.run_bind,e1];rfl
   rw[this];exact⟨_,e2,H,γ',F',by rw[hdd];exact e3⟩
  ·obtain⟨z,v,e1,e2,e3⟩:=FP hX h2 h3 h;unfold Oper.wp;have:(execOp a.eval o).run e.P w=.ok (.value z) w:=by simp only[execOp,ho];rw[Sem.run_bind,e1];rfl
   rw[this];exact⟨_,e3,H,γ,F,aS (aB s o.dst v) (hX.put hd e2)⟩
 |mapUpdate t m i v=>
  rw[ho]at h hcc;have h1:(ax m=true/\ax i=true)/\ax v=true:=by simpa using hcc
  dsimp only at h;split at h
  ·have h2:=aA hX h1.1.1
   have h3:=aA hX h1.1.2
   have h4:=aA hX h1.2
   rw[af h1.1.1]at h2;rw[af h1.1.2]at h3;rw[af h1.2]at h4;obtain⟨t',w',F',e1,e2,e3⟩:=FR hX h2 h3 h4 h;unfold Oper.wp;have:(execOp a.eval o).run e.P w=.ok .skip w':=by simp only[execOp,ho];rw[Sem.run_bind,e1];rfl
   rw[this];exact⟨_,e2,H,γ,F',aS (aB t' o.dst .any) (e3.put hd trivial)⟩
  obtain⟨H1,F1,hX1⟩:=e9 hX (evA s v);generalize dV s (evA s v)=s1 at h hX1;have h2:=aA hX1 h1.1.1
  have h3:=aA hX1 h1.1.2
  have h4:=aA hX1 h1.2
  rw[af h1.1.1]at h2;rw[af h1.1.2]at h3;rw[af h1.2]at h4;obtain⟨t',w',F',e1,e2,e3⟩:=FT hX1 h2 h3 h4 h;unfold Oper.wp;have:(execOp a.eval o).run e.P w=.ok .skip w':=by simp only[execOp,ho];rw[Sem.run_bind,e1];rfl
  rw[this];exact⟨_,e2,H1,γ,F',aS (aB t' o.dst .any) (e3.put hd trivial)⟩
 |makeSlice t n c=>
  rw[ho]at h hcc;have h1:ax n=true/\ax c=true:=by simpa using hcc
  cases hdd:o.dst with
  |none=>rw[hdd]at h;exact h.elim
  |some d=>
   rw[hdd]at h hd;obtain⟨t',y,w',γ',F',e1,e2,e3⟩:=wW hX hd h1.1 h;unfold Oper.wp;have:(execOp a.eval o).run e.P w=.ok (.value y) w':=by simp only[execOp,ho];rw[Sem.run_bind,e1];rfl
   rw[this];exact⟨t',e2,H,γ',F',by rw[hdd];exact e3⟩
 |makeFunc fn first caps=>
  rw[ho]at h hcc;dsimp only at h;split at h
  ·rename_i f hfi;obtain⟨t',H',e1,e2⟩:=zC hX hd hcc h;unfold Oper.wp;have hf0:first=#[]:=by cases first with|mk l=>cases hfi;rfl
   have:(execOp a.eval o).run e.P w=.ok (.value (.func (.func f) #[] (caps.toList.map a.eval).toArray)) w:=by
    simp only[execOp,ho,hf0,Instr.makeFunc,Sem.run_bind,Sem.run_pure,Result.andThen_ok,Array.map_empty];simp[<- Array.toList_map]
   rw[this];exact⟨t',e1,H',γ,F,e2⟩
  ·exact h.elim
 |range t x=>
  rw[ho]at h hcc;cases hdd:o.dst with
  |none=>rw[hdd]at h;exact h.elim
  |some d=>
   rw[hdd]at h hd;obtain⟨t',y,w',H',γ',F',e1,e2,e3⟩:=LZ hX hd hcc h;unfold Oper.wp;have:(execOp a.eval o).run e.P w=.ok (.value y) w':=by simp only[execOp,ho];rw[Sem.run_bind,e1];rfl
   rw[this];exact⟨t',e2,H',γ',F',by rw[hdd];exact e3⟩
 |next x b=>
  rw[ho]at h hcc;cases b with
  |true=>exact h.elim
  |false=>
   have h1:=aA hX (show ax x=true from hcc)
   rw[af hcc]at h1;obtain⟨t',z,w',F',e1,e2,e3⟩:=O6 hX hd h1 o.type h;unfold Oper.wp;have:(execOp a.eval o).run e.P w=.ok (.value z) w':=by simp only[execOp,ho];rw[Sem.run_bind,e1];rfl
   rw[this];exact⟨t',e2,H,γ,F',e3⟩
 |entry x=>
  rw[ho]at h hcc;have h1:=aA hX (show ax x=true from hcc)
  rw[af hcc]at h1;obtain⟨t',z,e1,e2,e3⟩:=KX hX hd h1 h;unfold Oper.wp;have:(execOp a.eval o).run e.P w=.ok (.value z) w:=by simp only[execOp,ho];rw[Sem.run_bind,e1];rfl
  rw[this];exact⟨t',e2,H,γ,F,e3⟩
 |_=>rw[ho]at h;exact h.elim
theorem Av{e:En}(he:e.ok)(hpk:∀x s,PQ e.pk x s->Q x s){o:Oper}{k:St->Prop}(hc:opC g.nt o=true)(h:vE e o s k):AOt e.P g o k Q s:=by
 unfold vE at h;split at h
 ·rename_i hq;intro a w ⟨H,γ,F,hX⟩;obtain⟨H1,F1,hX1⟩:=ug hX o;obtain⟨z,d,B,_,e1,e2,e3⟩:=vT hX1 hc (PA hX1 hc h);obtain⟨v',rfl,hk⟩:=e3;unfold Oper.wp;rw[e1 w (fun _ _=>rfl)];exact⟨_,hk,H1,γ,F1,aS (aB _ _ _) (hX1.put (dy hc) e2)⟩
 ·rename_i hq;exact TO he hpk hc hq h
theorem Qc{e:En}(he:e.ok)(hpk:∀x s,PQ e.pk x s->Q x s){o:Oper}{k:St->Prop}(hc:opC g.nt o=true)(h:opT e o s k):AOt e.P g o k Q s:=by
 unfold opT at h;split at h
 ·rename_i hown;intro a w ⟨H,γ,F,hX⟩;unfold DK at h;have hcc:=hc
  unfold opC at hcc;rw[WI]at hcc;obtain⟨hd,hcc⟩:=hcc;split at h
  ·rename_i t x hi d ho hdd;rw[ho]at hcc;rw[hdd]at hd;simp only[WI,Option.all_none,Option.all_some,and_true]at hcc;obtain⟨t',y,γ',F',e1,e2,e3⟩:=Dw hX hd hcc.1 hcc.2 h;unfold Oper.wp;have:(execOp a.eval o).run e.P w=.ok (.value y) w:=by simp only[execOp,ho,X3,Option.map_some];rw[Sem.run_bind,e1];rfl
   rw[this];exact⟨t',e2,H,γ',F',by rw[hdd];exact e3⟩
  ·rename_i x d ho hdd;rw[ho]at hcc;rw[hdd]at hd;obtain⟨t',H',F',e2,e3⟩:=FN hX hd hcc h;unfold Oper.wp;have:(execOp a.eval o).run e.P w=.ok (.value (a.eval x)) w:=by simp only[execOp,ho];rfl
   rw[this];exact⟨t',e2,H',γ,F',by rw[hdd];exact e3⟩
  ·rename_i c d ho hdd;rw[ho]at hcc;rw[hdd]at hd;split at h
   ·rename_i x hx;obtain⟨t,kt,et,hcl,hty,htt⟩:=Pe ho hdd hown;have hox:ax x=true:=by
     have hcc:c.args.toList.all ax=true:=hcc
     rw[hx]at hcc;simpa using hcc
    have h1:=aA hX hox
    rw[af hox]at h1;obtain⟨t',z,e1,e2,e3⟩:=FQ (tt:=o.type) hX hd h1 htt h;unfold Oper.wp;have:(execOp a.eval o).run e.P w=.ok (.value z) w:=by
     obtain⟨callee,⟨args⟩,⟨argTypes⟩⟩:=c;have hx:args=[x]:=hx
     have hty:argTypes=[t]:=hty
     have hcl:callee=.builtin .len:=hcl
     subst hx hty hcl;simp only[execOp,ho,resolve,invoke,builtin,Sem.run_bind,Sem.run_pure,Result.andThen_ok,List.map_toArray,List.map_cons,List.map_nil];rw[e1];rfl
    rw[this];exact⟨t',e2,H,γ,F,by rw[hdd];exact e3⟩
   ·exact h.elim
  ·rename_i t x i d ho hdd;rw[ho]at hcc;simp only[WI]at hcc;obtain⟨H1,hX1⟩:=nj [evA s x] s H hX;dsimp only at h;generalize oe s [evA s x]=s1 at h hX1;split at h
   ·rename_i row hrow;split at h
    ·rename_i l hl;have e1:=yy hl
     have hk:=oh (m:=s1.m) (P:=e.P) (t:=t) (x:=.one (.c (.ga .s l 0))) (i:=evA s1 i) (fun q hq=>by simp at hq) h
     have e2:(At.one (.c (.ga .s l 0))).toV=ev s1.toS x:=by
      rw[af hcc.1,hrow,e1];show AV.one (.c (.el _ 0))=AV.one (.c (.el _ 0))
      rw[WZ];rfl
     rw[e2,<- af hcc.2]at hk;have hq:qK e.P o s1.toS (up fun v=>k (s1.put (some d) v)):=by unfold qK;rw[ho];exact hk
     obtain⟨z,d',B,_,e3,e4,v',rfl,e5⟩:=vT hX1 hc hq;unfold Oper.wp;rw[e3 w (fun _ _=>rfl)];exact⟨_,e5,H1,γ,F,by rw[hdd];exact aS (aB _ _ _) (hX1.put (by rw[<- hdd];exact dy hc) e4)⟩
    ·exact h.elim
   ·exact h.elim
  ·exact h.elim
 exact Av he hpk hc h
theorem Ml{o:Oper}{K:S->Prop}{s s':S}(e:SEq s s')(h:AO P g o K Q s'):AO P g o K Q s:=fun a w hR=>h a w (xG e hR)
theorem D2{ops rest:List Oper}{s s':S}(e:SEq s s')(h:AL P g ops rest Q s'):AL P g ops rest Q s:=fun a w hR=>h a w (xG e hR)
theorem GQ{o:Oper}{K:S->Prop}(h:AOt P g o (fun t=>K t.toS) Q s):AO P g o K Q s.toS:=fun a w hR=>
 bG (fun a' w'⟨s',hk,hR'⟩=>⟨s'.toS,hk,hR'⟩) (fun _ _ _ h=>h) (h a w hR)
theorem mR(s:St)(d:Nat)(b:Bool):SEq (s.toS.put (some d) (.one (.c (.d (.bool b))))) (s.put (some d) (sct (.bo b))).toS:=aB s (some d) (sct (.bo b))
theorem qj(s:St)(d:Nat)(b:Bool)(o:Option Tmp):SEq ((s.toS.put (some d) (.one (.c (.d (.bool b))))).put o (.tup [])) ((s.put (some d) (sct (.bo b))).put o (.tup [])).toS:=by
 have h1:=mR s d b
 have h2:=aB (s.put (some d) (sct (.bo b))) o (.tup [])
 refine⟨fun i=>?_,?_⟩
 ·rw[<- h2.1 i];cases o with
  |none=>exact h1.1 i
  |some o=>show aL (l6 _ o _) i=aL (l6 _ o _) i;rw[fS,fS,h1.1 i];rfl
 ·rw[<- h2.2];cases o<;>exact h1.2
theorem lc{e:En}(he:e.ok)(hpk:∀x s,PQ e.pk x s->Q x s){k:St->Prop}{all:List Oper}:∀{rest:List Oper}{s:St},Si g.nt all rest=true->jg e all rest s k->(∀t:St,k t->Q .normal t.toS)->AL e.P g all rest Q s.toS
 |[],s,_,h,hQ=>Mk (hQ s h)
 |o::r,s,hc,h,hQ=>by
  simp only[Si,WI]at hc;obtain⟨⟨hc1,hc2⟩,hc3⟩:=hc;simp only[jg]at h;have run:∀{s:St},opT e o s (fun s'=>jg e all r s' k)->AO e.P g o (AL e.P g all r Q) Q s.toS:=fun{s}h=>
   GQ (fun a w hR=>bG (fun a' w'⟨s',hk,hR'⟩=>⟨s',lc he hpk hc3 hk hQ,hR'⟩) (fun _ _ _ h=>h) (Qc he hpk hc1 h a w hR))
  cases hg:o.guard with
  |none=>
   rw[hg]at h;exact GP hg (run h)
  |some q=>
   obtain⟨j,want⟩:=q;rw[hg]at h hc2;dsimp only at h hc2;cases hj:(all[j]?).bind (·.dst)with
   |none=>rw[hj]at h;exact h.elim
   |some d=>
    rw[hj]at h hc2;dsimp only at h hc2;split at h
    ·rename_i c hcc;have hgt:aL s.toS.t d=.one (.c (.d (.bool c))):=fT hcc
     cases want with
     |true=>
      dsimp only at h;refine Au hg hj hgt hc2 (dy hc1) (fun hc=>?_) (fun hc=>?_)
      ·subst hc;rw[if_pos rfl]at h;exact Ml (mR s d true) (run h)
      ·subst hc;rw[if_neg (by simp)]at h;exact D2 (qj s d _ _) (lc he hpk hc3 h hQ)
     |false=>
      dsimp only at h;refine Au hg hj hgt hc2 (dy hc1) (fun hc=>?_) (fun hc=>?_)
      ·subst hc;rw[if_neg (by simp)]at h;exact Ml (mR s d false) (run h)
      ·subst hc;rw[if_pos (by rfl)]at h;exact D2 (qj s d _ _) (lc he hpk hc3 h hQ)
    ·rename_i hcc;exact D3 hg hj (fT hcc) (dy hc1) (D2 (aB s o.dst (.tup [])) (lc he hpk hc3 h hQ))
    ·exact h.elim
theorem vG{e:En}(he:e.ok){all:List Oper}{k k':St->Prop}:∀{rest:List Oper}{s:St},(∀s',Ext s s'->k s'->k' s')->jg e all rest s k->jg e all rest s k'
 |[],s,hk,h=>hk s (Ext.refl s) h
 |o::r,s,hk,h=>by
  have run:∀{s1:St},Ext s s1->opT e o s1 (fun s'=>jg e all r s' k)->opT e o s1 (fun s'=>jg e all r s' k'):=fun{s1}h1 h=>
   Sf he (fun s' h2 hs'=>vG he (fun s'' h3=>hk s'' ((h1.trans h2).trans h3)) hs') h
  have rest:∀{s1:St},Ext s s1->jg e all r s1 k->jg e all r s1 k':=fun{s1}h1 h=>vG he (fun s'' h3=>hk s'' (h1.trans h3)) h
  simp only[jg]at h⊢;split at h
  ·exact run (Ext.refl s) h
  ·rename_i j want hg;split at h
   ·rename_i d hj;split at h
    ·rename_i c hcc;cases want<;>cases c<;>simp only[WP,if_true,if_false]at h⊢
     ·exact run (aw _ _ _) h
     ·exact rest ((aw _ _ _).trans (aw _ _ _)) h
     ·exact rest ((aw _ _ _).trans (aw _ _ _)) h
     ·exact run (aw _ _ _) h
    ·exact rest (aw _ _ _) h
    ·exact h.elim
   ·exact h.elim
end
section
variable {e:En} {g:G} {k:St->Prop} {Q:Exit->S->Prop}
theorem La{x:At}(h:OC x=true):Cu x.toV=true:=by
 unfold OC at h;split at h
 ·rfl
 ·rfl
 ·cases h
theorem E4{s:St}{o:Oper}(hc:opC g.nt o=true)(h:jx s o=true):eT s.toS o:=by
 unfold jx at h;unfold eT;unfold opC at hc;rw[WI]at hc;cases ho:o.op with
 |load t x=>
  rw[ho]at h hc;dsimp only at hc⊢;rw[af hc.2];exact La h
 |_=>trivial
theorem Tv{ops:List Oper}{o:Oper}{s:St}{f no:St->Prop}(h:gT ops o s f no):gK ops o s.toS (upS f) (upS no):=by
 unfold gT at h;unfold gK;cases hg:o.guard with
 |none=>rw[hg]at h;exact⟨s,⟨fun _=>rfl,rfl⟩,h⟩
 |some q=>
  obtain⟨j,want⟩:=q;rw[hg]at h;dsimp only at h⊢;cases hj:(ops[j]?).bind (·.dst)with
  |none=>rw[hj]at h;exact h.elim
  |some d=>
   rw[hj]at h;dsimp only at h⊢;split at h
   ·rename_i c hcc;rw[fT hcc];simp only[At.toV,A1.toV,Tt.toT,C.toD];cases want<;>cases c<;>simp only[WP,if_true,if_false]at h<;>simp only[gsel]
    ·exact⟨_,mR s d false,h⟩
    ·exact⟨_,qj s d _ _,h⟩
    ·exact⟨_,qj s d _ _,h⟩
    ·exact⟨_,mR s d true,h⟩
   ·rename_i hcc;rw[fT hcc];exact⟨_,aB s o.dst (.tup []),h⟩
   ·exact h.elim
theorem E5{ops:List Oper}{o:Oper}{s:St}{f f' no no':St->Prop}(hf:∀s',Ext s s'->f s'->f' s')(hn:∀s',Ext s s'->no s'->no' s')(h:gT ops o s f no):gT ops o s f' no':=by
 unfold gT at h⊢;cases hg:o.guard with
 |none=>rw[hg]at h;exact hf _ (Ext.refl s) h
 |some q=>
  obtain⟨j,want⟩:=q;rw[hg]at h;dsimp only at h⊢;cases hj:(ops[j]?).bind (·.dst)with
  |none=>rw[hj]at h;exact h.elim
  |some d=>
   rw[hj]at h;dsimp only at h⊢;split at h
   ·rename_i c _;cases want<;>cases c<;>simp only[WP,if_true,if_false]at h⊢
    ·exact hf _ (aw _ _ _) h
    ·exact hn _ ((aw _ _ _).trans (aw _ _ _)) h
    ·exact hn _ ((aw _ _ _).trans (aw _ _ _)) h
    ·exact hf _ (aw _ _ _) h
   ·exact hn _ (aw _ _ _) h
   ·exact h.elim
theorem As{ops:Array Oper}{K:S->Prop}{fuel:Nat}{listed:Array Bool}{i:Nat}{A:List Nat}{fz:Bool}{o:Oper}(hC:jy g.nt ops=true)(hs:Region.noSelect ops=true)(hi:ops[i]? = some o)
  (ht:wm ops listed i A fz=true) {s:St} {D:St->Prop} (hD:∀s:St,D s->AD e.P g ops Q K fuel (listed.setIfInBounds i true) s.toS)
  (h:gT ops.toList o s (fun s=>(fz=true->jx s o=true)/\qT e o s fun v=>D (s.put o.dst v)) D):AD e.P g ops Q K (fuel+1) listed s.toS:=by
 intro a w H γ F Pr hX hPr;simp only[wm,WI]at ht;obtain⟨⟨⟨⟨t1,t2⟩,t3⟩,t4⟩,t5⟩:=ht;obtain⟨c1,c2⟩:=gO hC hi;have hready:=Region.ready_mem_of_contains t2
 have hbeh:behind .any ops i (fun j=>A.contains j) listed:=by
  intro j hj hun;have:=WY.1 t4 j (by simpa using hj)
  rw[dT.2 hun]at this;cases ho:ops[j]? with
  |none=>rw[ho]at this;simp at this
  |some oj=>
   rw[ho]at this;simp only[YA,XG]at this;obtain⟨e,he,h1⟩:=Array.any_eq_true'.1 this;simp only[WI,XB,beq_iff_eq]at h1;exact⟨oj,rfl,e,he,h1.1.1,dT.1 h1.1.2,h1.2⟩
 have hset:∀j,(listed.setIfInBounds i true).getD j true=false->listed.getD j true=false:=fun j h=>(fR h).1
 rcases pX hX (Tv h) (dy c1) c2 with⟨hw,s0,⟨s',e0,hf,hq⟩,hX0⟩|⟨hw,s0,⟨s',e0,hno⟩,hX0⟩
 ·have hX':=aS e0 hX0
  obtain⟨z,d,B,e0,e1,e2,v',e3,hk⟩:=vT hX' c1 (PA hX' c1 hq);subst e3;refine iw (pI g Q) (A:=fun j=>A.contains j) (B:=B) (v:=z) hi (Region.noSelect_spec hs) fuel listed Pr (fun j b=>Pr j b\/(A.contains j=false/\B b)) a w (fun j b h=>.inl h) (fun j b h1 h2=>.inr ⟨h1,h2⟩)
   (Region.free_spec hi t1) hbeh hready (.inl ⟨hw,fun w2 hs2=>e1 w2 hs2⟩) (hD _ hk (a.put o.dst z) w H γ F _ (aS (aB _ _ _) (hX'.put (dy c1) e2)) ?_)
  intro j oj hj hun;obtain⟨hun1,hji⟩:=fR hun;rcases hPr j oj hj hun1 with hp|hp
  ·exact .inl hp
  cases hfz:fz with
  |true=>
   refine .inr fun b hb=>?_
   rcases hb with hb|⟨_,hb⟩
   ·exact hp b hb
   ·exact e0 (E4 c1 (hf hfz)) b hb
  |false=>
   rw[hfz,XG]at t5;have:=WY.1 t5 j (Yi.2 (XU.1 hj).1)
   rw[dT.2 hun1,hj]at this;simp only[YA,XG,XB,beq_iff_eq]at this;rcases this with(this|this)|this
   ·exact absurd this hji
   ·refine .inr fun b hb=>?_
    rcases hb with hb|⟨hb,_⟩
    ·exact hp b hb
    ·rw[this]at hb;cases hb
   ·exact .inl this
 ·have hX':=aS e0 hX0
  refine iw (pI g Q) (A:=fun _=>false) (B:=fun _=>False) (v:=undef) hi (Region.noSelect_spec hs) fuel listed Pr Pr a w (fun j b h=>h) (fun j b _ h2=>h2.elim)
   (Region.free_spec hi t1) (fun j h=>by cases h) hready (.inr ⟨hw,rfl⟩) (hD _ hno (a.put o.dst undef) w H γ F _ hX' (hPr.mono hset (fun _ _ _ h=>h)))
theorem Mj{ops:Array Oper}{K:S->Prop}{fuel:Nat}{listed:Array Bool}{i:Nat}{o:Oper}(he:e.ok)(hpk:∀x s,PQ e.pk x s->Q x s)(hC:jy g.nt ops=true)(hun:listed.getD i true=false)(hi:ops[i]? = some o){s:St}
  {D:St->Prop} (hD:∀s:St,D s->AD e.P g ops Q K fuel (listed.setIfInBounds i true) s.toS) (h:gT ops.toList o s (fun s=>vE e.cl o s D) D) {a:Act} {w:World} {H:FH} {γ:Gam} {F:Nm->Fp} {Pr:Nat->Bs} (hX:RX g s.toS a w H γ F) (hPr:JM ops listed H Pr) :
  lOp e.P ops (Zx g Q) Pr i (fun a' w'=>∃Pr':Nat->Bs,(∀j b,Pr j b->Pr' j b)/\pi e.P .any ops (Zx g Q) (fun a w=>∃s',K s'/\R g s' a w) fuel (listed.setIfInBounds i true) Pr' a' w') a w:=by
 have hset:∀j,(listed.setIfInBounds i true).getD j true=false->listed.getD j true=false:=fun j h=>(fR h).1
 unfold lOp;rw[hi];obtain⟨c1,c2⟩:=gO hC hi;dsimp only;rcases pX hX (Tv h) (dy c1) c2 with⟨hw,s0,⟨s',e0,hop⟩,hX0⟩|⟨hw,s0,⟨s',e0,hno⟩,hX0⟩
 ·have hX':=aS e0 hX0
  rw[if_pos hw];by_cases hq:isQ o=true
  ·unfold vE at hop;rw[hq]at hop;dsimp only at hop;obtain⟨H1,F1,hX1,hH1⟩:=Bg hX' (fun g' H F hx=>ug hx o);obtain⟨z,d,B,_,e1,e2,e3⟩:=vT hX1 c1 (PA hX1 c1 hop);obtain⟨v',rfl,hk⟩:=e3;unfold Oper.wp;rw[e1 w (fun _ _=>rfl)];exact⟨fun _ _=>rfl,Pr,fun _ _ h=>h,hD _ hk (a.put o.dst z) w H1 γ F1 Pr (aS (aB _ _ _) (hX1.put (dy c1) e2)) (hPr.mono hset hH1)⟩
  ·have hp:∀b,Pr i b->∃x y,H b x=some y:=by
    rcases hPr i o hi hun with h|h
    ·exact absurd h hq
    ·exact h
   let g':G:=⟨g.nt,w,H,tot F s'.toS.m,g.out,g.ex,g.dfs⟩
   have hX2:RX g' s'.toS a w H γ F:=⟨hX'.mem,Fr.refl' rfl rfl rfl rfl (fun _ h=>h),hX'.nt,⟨hX'.df.1,hX'.df.2.1,ea hX'⟩,hX'.t⟩
   refine bG ?_ (fun x a' w' h=>?_) (Av (g:=g') (e:=e.cl) (Q:=PQ e.cl.pk) he (fun _ _ h=>h) c1 hop a w ⟨H,γ,F,hX2⟩)
   ·intro a' w' ⟨s2,hs2,H2,γ2,F2,hX3⟩;have hfr:=hX3.fr
    refine⟨fun b hb=>?_,Pr,fun _ _ h=>h,?_⟩
    ·obtain⟨x,y,hxy⟩:=hp b hb;have hc:=hX'.mem.agree b x y hxy
     refine hfr.block b ?_ ?_
     ·exact hc.lt
     ·show tot F s'.toS.m b=0
      rcases W7 (tot F s'.toS.m b)with h|h
      ·exact h
      ·have:=hX'.mem.nofz b Z1 x
       rw[hxy]at this;cases this
    ·exact hD _ hs2 a' w' H2 γ2 F2 Pr ⟨hX3.mem,hX'.fr.trans hfr,hX3.nt,⟨hX3.df.1,hX3.df.2.1,hX'.df.2.2⟩,hX3.t⟩ (hPr.mono hset hfr.hold)
   ·obtain⟨s2,⟨v,t,rfl,rfl,hv⟩,H2,γ2,F2,hX3⟩:=h;exact⟨t.clr.toS,rfl,hpk _ _ ⟨v,t.clr,rfl,rfl,hv⟩,H2,γ2,F2,Nb ⟨hX3.mem,hX'.fr.trans hX3.fr,hX3.nt,⟨hX3.df.1,hX3.df.2.1,hX'.df.2.2⟩,hX3.t⟩ rfl rfl⟩
 ·have hX':=aS e0 hX0
  rw[if_neg (by rw[hw];simp)];exact⟨Pr,fun _ _ h=>h,hD _ hno (a.put o.dst undef) w H γ F Pr hX' (hPr.mono hset (fun _ _ _ h=>h))⟩
theorem iY{ops:Array Oper}{listed:Array Bool}{s:St}{i:Nat}{A:List Nat}{fz:Bool}:∀{rd:List Nat},sL ops listed s rd=some (i,A,fz) ->
  ∃o,ops[i]? = some o/\wm ops listed i A fz=true/\(fz=true->jx s o=true)/\isQ o=true
 |[],h=>by cases h
 |j::r,h=>by
  simp only[sL]at h;split at h
  ·exact iY h
  ·rename_i o ho;split at h
   ·exact iY h
   ·rename_i hq;split at h
    ·rename_i hf;split at h
     ·rename_i ht;simp only[WG,Prod.mk.injEq]at h;obtain⟨rfl,rfl,rfl⟩:=h;exact⟨o,ho,ht,fun _=>hf,hq⟩
     ·exact iY h
    ·split at h
     ·rename_i ht;simp only[WG,Prod.mk.injEq]at h;obtain⟨rfl,rfl,rfl⟩:=h;exact⟨o,ho,ht,fun h=>(by cases h),hq⟩
     ·exact iY h
theorem Bn{f:Nat->Prop}:∀{l:List Nat},Ka f l->∀i∈l,f i
 |[i],h,j,hj=>by simp only[WU]at hj;subst hj;exact h
 |i::i'::r,h,j,hj=>by
  simp only[WR]at hj;rcases hj with rfl|hj
  ·exact h.1
  ·exact Bn h.2 j (by simpa using hj)
theorem LS{s:St}{o:Oper}{t:TypeId}{x:Operand}(h:o.op=.load t x):wY s o=s:=by unfold wY;rw[h]
theorem pj(he:e.ok)(hpk:∀x s,PQ e.pk x s->Q x s){ops:Array Oper}{K:S->Prop}(hC:jy g.nt ops=true)(hs:Region.noSelect ops=true)(hK:∀t:St,k t->K t.toS) :
  ∀(fuel:Nat)(listed:Array Bool)(s:St),fe e ops fuel listed s k->AD e.P g ops Q K fuel listed s.toS
 |0,listed,s,h=>by
  simp only[fe]at h;split at h
  ·rename_i hr;exact Mi hr (hK s h) 0
  ·exact h.elim
 |fuel+1,listed,s,h=>by
  simp only[fe]at h;split at h
  ·rename_i hr;exact Mi hr (hK s h) _
  ·rename_i i0 rd hr;split at h
   ·rename_i i A fz hp;obtain⟨o,hi,ht,hf,hq⟩:=iY hp;rw[hi]at h;dsimp only at h;obtain⟨c1,c2⟩:=gO hC hi;split at h
    ·rename_i hg;intro a w H γ F Pr hX hPr;obtain⟨H1,F1,hX1,hH1⟩:=Bg hX (fun g' H F hx=>ug hx o);refine As (D:=fun s'=>fe e ops fuel (listed.setIfInBounds i true) s' k) hC hs hi ht (fun s' hs'=>pj he hpk hC hs hK fuel _ _ hs') ?_ a w H1 γ F1 Pr hX1 (hPr.mono (fun _ h=>h) hH1);unfold gT;rw[hg];refine⟨fun hfz=>?_,h⟩;have:=hf hfz
     cases hop:o.op with
     |load t x=>rw[LS hop];exact this
     |_=>unfold jx;rw[hop]
    ·rename_i q hg;refine As (D:=fun s'=>fe e ops fuel (listed.setIfInBounds i true) s' k) hC hs hi ht (fun s' hs'=>pj he hpk hC hs hK fuel _ _ hs') ?_;refine E5 (fun s' _ hs'=>?_) (fun _ _ h=>h) h;split at hs'
     ·rename_i hb;refine⟨fun hfz=>?_,hs'⟩;rw[hfz]at hb;simpa using hb
     ·exact hs'.elim
   ·intro a w H γ F Pr hX hPr;refine⟨fun h0=>absurd (hr ▸ h0) (by simp),fun i hi=>?_⟩;have hun:listed.getD i true=false:=(mem_ready.1 hi).1
    have hfi:=Bn h i (hr ▸ hi)
    cases ho:ops[i]? with
    |none=>rw[ho]at hfi;exact hfi.elim
    |some o=>
     rw[ho]at hfi;exact Mj he hpk hC hun ho (fun s hs'=>pj he hpk hC hs hK fuel _ s hs') hfi hX hPr
theorem Mw{id:Nat}{l:List Oper}(he:e.ok)(hpk:∀x s,PQ e.pk x s->Q x s)(hm:e.P.follows .mixedOrders=true)(hC:jy g.nt l.toArray=true)(hs:Region.noSelect l.toArray=true){s:St}
  (hQ:∀t:St,k t->Q .normal t.toS) (h:fe e l.toArray l.toArray.size (Array.replicate l.toArray.size false) s k):AW e.P g (.region id l.toArray true) Q s.toS:=by
 intro a w hR;refine wp_region_any hm (lR (Z:=Zx g Q) (Q:=fun a w=>∃s',Q .normal s'/\R g s' a w) (fun a w h=>h) (fun e a w h=>Qt h) _ _ (fun _ _=>False) _ _ ?_);obtain⟨H,γ,F,hX⟩:=hR;exact pj (Q:=Q) he hpk hC hs hQ _ _ s h a _ H γ F _ (M6 hX _ rfl rfl rfl rfl) (fun j o _ _=>.inr fun b hb=>hb.elim)
theorem Bm{f f':Nat->Prop}(h:∀i,f i->f' i):∀{l:List Nat},Ka f l->Ka f' l
 |[],_=>trivial
 |[i],hh=>h i hh
 |i::i'::r,hh=>⟨h i hh.1,Bm h (l:=i'::r) hh.2⟩
theorem iz(he:e.ok){ops:Array Oper}{k':St->Prop}:∀{fuel:Nat}{listed:Array Bool}{s:St},(∀s',Ext s s'->k s'->k' s')->fe e ops fuel listed s k->fe e ops fuel listed s k'
 |0,listed,s,hk,h=>by
  simp only[fe]at h⊢;split at h
  ·exact hk _ (Ext.refl s) h
  ·exact h.elim
 |fuel+1,listed,s,hk,h=>by
  simp only[fe]at h⊢;split at h
  ·exact hk _ (Ext.refl s) h
  ·split at h
   ·split at h
    ·split at h
     ·exact zZ (fun v hv=>iz he (fun s' hE=>hk s' (((AE _ _).trans (aw _ _ _)).trans hE)) hv) h
     ·refine E5 (fun s1 h1 hs1=>?_) (fun s1 h1 hs1=>iz he (fun s' hE=>hk s' (h1.trans hE)) hs1) h;split at hs1
      ·exact zZ (fun v hv=>iz he (fun s' hE=>hk s' ((h1.trans (aw _ _ _)).trans hE)) hv) hs1
      ·exact hs1.elim
    ·exact h.elim
   ·refine Bm (fun i hi=>?_) h;split at hi
    ·exact E5 (fun s1 h1 hs1=>Dh (e:=e.cl) he (fun s2 h2 hs2=>iz he (fun s' hE=>hk s' ((h1.trans h2).trans hE)) hs2) hs1) (fun s1 h1 hs1=>iz he (fun s' hE=>hk s' (h1.trans hE)) hs1) hi
    ·exact hi.elim
end
def nV(N:List Nm):T->Prop
 |.pl p=>p.root∈N
 |.rf p=>p.root∈N
 |_=>True
def tK(N:List Nm):AV1->Prop
 |.c t=>nV N t
 |.agg ts=>∀t∈ts,nV N t
def D5(N:List Nm):AV->Prop
 |.one x=>tK N x
 |.tup xs=>∀x∈xs,tK N x
 |.any=>True
def jX(r:Root):Root:=⟨r.blk,r.cells.map T.canon⟩
def lg(r r':Root):Prop:=r'.blk=r.blk/\r'.cells.length=r.cells.length/\∀(i:Nat)t t',r.cells[i]? = some t->r'.cells[i]? = some t'->t'=t\/t'=t.canon
theorem lg.refl(r:Root):lg r r:=⟨rfl,rfl,fun i t t' h1 h2=>.inl (by rw[h1]at h2;exact(Option.some.inj h2).symm)⟩
theorem lg.canon(r:Root):lg r (jX r):=⟨rfl,by simp[jX],fun i t t' h1 h2=>.inr (by simp only[jX,WK,h1,Option.map_some,WG]at h2;exact h2.symm)⟩
theorem lg.of{r r':Root}(h:r'=r\/r'=jX r):lg r r':=by
 rcases h with rfl|rfl
 ·exact lg.refl _
 ·exact lg.canon _
theorem oT:∀{m:Mm}{n:Nm}{r:Root},(m.map (·.1)).Nodup->(n,r)∈m->ab m n=some r
 |[],_,_,_,h=>by cases h
 |(k,x)::m,n,r,hn,h=>by
  simp only[List.map_cons,Xl]at hn;simp only[ab];rcases WR.1 h with h|h
  ·cases h;rw[if_pos rfl]
  ·rw[if_neg (fun e=>hn.1 (by subst e;exact Xg (f:=(·.1)) h)),oT hn.2 h]
theorem DQ{F:Nm->Fp}{b:Nat}:∀{m' m:Mm},(m'.map (·.1)).Nodup->(m.map (·.1)).Nodup->(∀x∈m',∃r,ab m x.1=some r)->tot F m' b<=tot F m b
 |[],_,_,_,_=>Xq _
 |x::m',m,h1,h2,h=>by
  simp only[List.map_cons,Xl]at h1;obtain⟨r,hr⟩:=h x (by simp);have e:=jO (F:=F) hr b
  have ih:=DQ (F:=F) (b:=b) (m':=m') (m:=bz m x.1) h1.2 (vt h2) (fun y hy=>by
   obtain⟨r',hr'⟩:=h y (WV _ hy);refine⟨r',?_⟩;rw[iB (fun e=>h1.1 (by rw[<- e];exact Xg (f:=(·.1)) hy))];exact hr')
  show F x.1 b+tot F m' b<=tot F m b
  omega
section
variable {g:G} {a:Act} {w:World} {H:FH} {γ:Gam} {F:Nm->Fp}
theorem Ec{R R':T->Fp->Value->Prop}:∀{ts:List T}{ts':List T}{f:Fp}{vs:List Value},ts'.length=ts.length->(∀(i:Nat)t t' f v,ts[i]? = some t->ts'[i]? = some t'->R t f v->R' t' f v)->Ts R ts f vs->Ts R' ts' f vs
 |[],[],_,_,_,_,h=>h
 |t::ts,t'::ts',f,vs,hl,hi,h=>by
  obtain⟨v,r,f1,f2,e1,e2,h1,h2⟩:=h;exact⟨v,r,f1,f2,e1,e2,hi 0 t t' _ _ rfl rfl h1,Ec (by simpa using hl) (fun i=>hi (i+1)) h2⟩
theorem Nd{s s':S}(hX:RX g s a w H γ F)(hnd:(s'.m.map (·.1)).Nodup)
  (hm:∀x∈s'.m,∃r,ab s.m x.1=some r/\lg r x.2/\∀t∈r.cells,nV (s'.m.map (·.1)) t)
  (ht:∀i,aL s'.t i=.any\/((aL s'.t i=aL s.t i\/aL s'.t i=(aL s.t i).map T.canon)/\D5 (s'.m.map (·.1)) (aL s.t i))):RX g s' a w H γ F:=by
 have hget:∀n,n∈s'.m.map (·.1)->∃r r',ab s.m n=some r/\ab s'.m n=some r'/\lg r r':=by
  intro n hn;obtain⟨x,hx,rfl⟩:=Xa.1 hn;obtain⟨r,h1,h2,_⟩:=hm x hx;exact⟨r,x.2,h1,oT hnd hx,h2⟩
 have cell:∀{r r':Root},lg r r'->r'.cells.length=r.cells.length/\∀(i:Nat)sub l,r.cells[i]? = some (.ow sub l)->r'.cells[i]? = some (.ow sub l):=by
  rintro r r' ⟨_,h2,h3⟩
  refine⟨h2,fun i sub l h=>?_⟩;have hlt:i<r'.cells.length:=by rw[h2];exact ah h
  rw[WH hlt];rcases h3 i _ _ h (WH hlt)with e|e
  ·rw[e]
  ·rw[e];rfl
 have pl:∀p,p.root∈s'.m.map (·.1)->bD s.m p->bD s'.m p:=by
  intro p hp h;obtain⟨r,r',e1,e2,e3⟩:=hget _ hp;obtain⟨c1,c2⟩:=cell e3;unfold bD at h⊢;rw[e1]at h;rw[e2];dsimp only at h⊢;cases hpath:p.path with
  |nil=>rw[hpath]at h;dsimp only at h⊢;omega
  |cons st q=>
   rw[hpath]at h;dsimp only at h⊢;split at h
   ·rename_i sub l hc;rw[c2 _ _ _ hc];exact h
   ·exact h.elim
 have rf:∀p,p.root∈s'.m.map (·.1)->fh s.m p->fh s'.m p:=by
  intro p hp h;obtain⟨r,r',e1,e2,e3⟩:=hget _ hp;obtain⟨c1,c2⟩:=cell e3;unfold fh at h⊢;rw[e1]at h;rw[e2];dsimp only at h⊢;split at h
  ·rename_i sub l hc hpath;rw[c2 _ _ _ hc,hpath];trivial
  ·rename_i l hc hpath;have hlt:p.off<r'.cells.length:=by rw[c1];exact ah hc
   have hc':r'.cells[p.off]? = some (.mp l):=by
    rw[WH hlt];rcases e3.2.2 p.off _ _ hc (WH hlt)with e|e
    ·rw[e]
    ·rw[e];rfl
   rw[hc',hpath];trivial
  ·rename_i cur l hc hpath;have hlt:p.off<r'.cells.length:=by rw[c1];exact ah hc
   have hc':∃cur',r'.cells[p.off]? = some (.it cur' l):=by
    rw[WH hlt];rcases e3.2.2 p.off _ _ hc (WH hlt)with e|e
    ·exact⟨cur,by rw[e]⟩
    ·exact⟨none,by rw[e];rfl⟩
   obtain⟨cur',hc'⟩:=hc';rw[hc',hpath];trivial
  ·rename_i sub l st q hc hpath;rw[c2 _ _ _ hc,hpath];exact h
  ·exact h.elim
 have tr:∀{t:T}{f:Fp}{v:Value},nV (s'.m.map (·.1)) t->TR w H γ s.m t f v->TR w H γ s'.m t f v:=by
  intro t f v hin h;cases t with
  |pl p=>exact⟨h.1,pl p hin h.2.1,h.2.2⟩
  |rf p=>exact⟨h.1,rf p hin h.2.1,h.2.2⟩
  |_=>exact h
 have trc:∀{t:T}{f:Fp}{v:Value},nV (s'.m.map (·.1)) t->TR w H γ s.m t f v->TR w H γ s'.m t.canon f v:=by
  intro t f v hin h;have h':=tr hin h
  cases t with
  |nil=>exact⟨h'.1,(ct (w:=w) (H:=H) (γ:=γ) (m:=s'.m) .nil v ⟨fun _=>rfl,h'.2⟩).2⟩
  |it cur rest=>exact Tg h'
  |_=>exact h'
 have hsub:∀b,tot F s'.m b<=tot F s.m b:=fun b=>DQ hnd hX.mem.keys (fun x hx=>by obtain⟨r,h,_⟩:=hm x hx;exact⟨r,h⟩)
 refine⟨⟨hX.mem.agree,fun x hx=>?_,hnd,fun b=>Xo (hsub b) (hX.mem.le1 b),fun b hb=>hX.mem.lt b (by have:=hsub b;omega),fun b hb=>hX.mem.nofz b (by have:=hsub b;omega)⟩,
  ⟨hX.fr.size,hX.fr.os,hX.fr.tape,hX.fr.output,hX.fr.block,hX.fr.hold,hX.fr.hnew,fun b hb=>hX.fr.tt b (by have:=hsub b;omega),hX.fr.nz⟩,hX.nt,hX.df,fun i=>?_⟩
 ·obtain⟨r,h1,h2,h3⟩:=hm x hx;have hR:=hX.mem.roots _ (ae h1)
  have hlen:=(cell h2).1
  have key:∀(i:Nat)t t' f v,r.cells[i]? = some t->x.2.cells[i]? = some t'->TR w H γ s.m t f v->TR w H γ s'.m t' f v:=by
   intro i t t' f v e1 e2 h;have hin:=h3 t (W9 e1)
   rcases h2.2.2 i t t' e1 e2 with e|e
   ·rw[e];exact tr hin h
   ·rw[e];exact trc hin h
  have hblk:x.2.blk=r.blk:=h2.1
  unfold a8 at hR⊢;rw[hblk];split at hR
  ·rename_i hb;rw[if_pos hb];obtain⟨b,cs,ty,fz,g',k1,k2,k3,k4,k5,k6⟩:=hR;exact⟨b,cs,ty,fz,g',k1,k2,k3,by rw[hlen];exact k4,Ec hlen key k5,k6⟩
  ·rename_i hb;rw[if_neg hb];obtain⟨v,t,k1,k2,k3⟩:=hR;dsimp only at k2;rw[k2]at hlen key
   match hc:x.2.cells,hlen with
   |[t'],_=>exact⟨v,t',k1,rfl,key 0 t t' _ _ rfl (by rw[hc];rfl) k3⟩
 ·rcases ht i with h|⟨h,hin⟩
  ·rw[h];trivial
  ·have hv:=hX.t i
   have one:∀{x:AV1}{y:Value},tK (s'.m.map (·.1)) x->AR1 w H γ s.m x y->AR1 w H γ s'.m x y:=by
    intro x y hin h;cases x with
    |c t=>exact tr hin h
    |agg ts=>
     obtain⟨cs,e1,e2,e3⟩:=h;refine⟨cs,e1,e2,Ec rfl (fun i t t' f v h1 h2 h=>?_) e3⟩;rw[h1]at h2;obtain rfl:=Option.some.inj h2;exact tr (hin t (W9 h1)) h
   have all:AR w H γ s'.m (aL s.t i) (g.tv a i):=by
    revert hv hin
    cases aL s.t i with
    |one x=>exact fun hin hv=>one hin hv
    |tup xs=>
     rintro hin ⟨l,e,hl⟩
     refine⟨l,e,?_⟩;have:∀(xs:List AV1)(ys:List Value),(∀x∈xs,tK (s'.m.map (·.1)) x)->ARs w H γ s.m xs ys->ARs w H γ s'.m xs ys:=by
      intro xs;induction xs with
      |nil=>intro ys _ h;cases ys<;>exact h
      |cons x xs ih=>
       intro ys hin h;cases ys with
       |nil=>exact h.elim
       |cons y ys=>exact⟨one (hin x (by simp)) h.1,ih ys (fun z hz=>hin z (WV _ hz)) h.2⟩
     exact this xs _ hin hl
    |any=>exact fun _ _=>trivial
   rcases h with h|h
   ·rw[h];exact all
   ·rw[h];exact dW ct all
end
section
variable {g:G} {a:Act} {w:World}
theorem Ni{s:S}{H:FH}{γ:Gam}{F:Nm->Fp}(h:RX g s a w H γ F):R g s a w:=⟨H,γ,F,h⟩
theorem uX(n:Nm):∀m:List (Nm×Nat×Rt),bj (dC m n) n=none
 |[]=>rfl
 |(k,j,v)::m=>by
  simp only[dC];by_cases h:k=n
  ·rw[if_pos h];exact uX n m
  ·rw[if_neg h];simp only[bj];rw[if_neg h];exact uX n m
theorem E6(s:St)(n:Nm):bj (s.fresh n).m n=none:=by
 unfold St.fresh;split
 ·assumption
 ·show bj (bP _ _ (dC s.m n)) n=none
  rw[x5,uX];rfl
theorem xk(s:St)(k:Nat)(sh:List Sh)(u:U):Ext s (yk s k sh u):=by
 unfold yk;split
 ·refine(bB s (ik k)).trans ⟨Xt _,qQ _ _ _ (WN _),kg _ _ _ (WN _)⟩
 ·split
  ·refine((py s _).trans (bB _ (ik k))).trans ⟨Xt _,qQ _ _ _ (WN _),kg _ _ _ (WN _)⟩
  ·exact Ext.refl s
 ·exact Ext.refl s
theorem IE{s:St}(h:R g s.toS a w)(k:Nat)(sh:List Sh)(u:U):R g (yk s k sh u).toS a w:=by
 obtain⟨H,γ,F,hX⟩:=h;have hn:=d9 hX
 unfold yk;split
 ·rename_i hv;obtain⟨γ',F',h'⟩:=Iz hX k (ik k) sh;refine xG ?_ (Ni h');unfold LP;rw[fT hv];simp only[At.toV,A1.toV,Tt.toT];have e:ab (s.toS.fresh (ik k)).m (ik k)=none:=by
   rw[<- bk hn,show(s.fresh (ik k)).toS.m=toM (s.fresh (ik k)).m from rfl,pW,E6];rfl
  rw[e];show SEq ⟨l6 (s.toS.fresh (ik k)).t k _,_⟩ _
  rw[<- bk hn];refine⟨fun i=>?_,rfl⟩;show aL (l6 _ k _) i=aL ((k,_)::_) i
  rw[fS];rfl
 ·rename_i n hv;split
  ·rename_i sh' u' l' hne hr;obtain⟨γ',F',h'⟩:=Iz hX k (ik k) sh;refine xG ?_ (Ni h');unfold LP;rw[fT hv];simp only[At.toV,A1.toV,Tt.toT];rw[show ab s.toS.m n=some (⟨false,[.ow sh' u' l'],none⟩:Rt).toR from aR hr];show SEq ⟨l6 ((s.toS.drop n).fresh (ik k)).t k _,_⟩ _
   rw[<- bb hn,<- bk (Iw hn)];refine⟨fun i=>?_,rfl⟩;show aL (l6 _ k _) i=aL ((k,_)::_) i
   rw[fS];rfl
  ·exact⟨H,γ,F,hX⟩
 ·exact⟨H,γ,F,hX⟩
theorem dv(n:Nm)(us:List U):∀(sh:List Sh)(off:Nat)(s:St),Ext s (bm s n us sh off)
 |[],_,s=>Ext.refl s
 |.ow sub::r,off,s=>by
  simp only[bm];split
  ·split
   ·rename_i cells hr _ _ u hc hu;have h1:Ext s ⟨s.nx+1,s.t,cn s.m n s.nx ⟨true,cells.set off (.ow sub u []),none⟩⟩:=⟨Xt _,fun _ _ _ h _=>h,cq _ _ (WN _) _⟩
    exact h1.trans (dv n us r (off+1) _)
   ·exact dv n us r (off+1) s
  ·exact Ext.refl s
 |.fr::r,off,s=>by
  simp only[bm];split
  ·split
   ·exact(qR s _).trans (dv n us r (off+1) _)
   ·exact dv n us r (off+1) s
  ·exact Ext.refl s
theorem ID{s:St}(h:R g s.toS a w)(q:Pl):R g (pV s q).toS a w:=by
 obtain⟨H,γ,F,hX⟩:=h;obtain⟨H',F',h'⟩:=qV hX q;exact⟨H',γ,F',h'⟩
theorem IC{s:St}(h:R g s.toS a w)(v:At):R g (dV s v).toS a w:=by
 obtain⟨H,γ,F,hX⟩:=h;obtain⟨H',F',h'⟩:=e9 hX v;exact⟨H',γ,F',h'⟩
theorem cT(n:Nm)(us:List U):∀(sh:List Sh)(off:Nat){s:St},R g s.toS a w->R g (bm s n us sh off).toS a w
 |[],_,_,h=>h
 |.ow sub::r,off,s,h=>by
  simp only[bm];split
  ·rename_i cells hr;split
   ·rename_i u hc hu;refine cT n us r (off+1) ?_;obtain⟨H,γ,F,hX⟩:=h;have h':=Qq hX n off sub
    have e:s.toS.ownR n off sub=(⟨s.nx+1,s.t,cn s.m n s.nx ⟨true,cells.set off (.ow sub u []),none⟩⟩:St).toS:=by
     unfold S.ownR;rw[show ab s.toS.m n=some (⟨true,cells,none⟩:Rt).toR from aR hr];have ec:(⟨true,cells,none⟩:Rt).toR.cells[off]? = some .nil:=by
      show(cells.map Tt.toT)[off]? = _
      rw[WK,hc];rfl
     show(match(⟨true,cells,none⟩:Rt).toR.cells[off]? with|some .nil=>_|_=>_)=_
     rw[ec];refine bb.S_ext rfl ?_;show _=toM (cn s.m n s.nx _)
     rw[dJ]
     congr 1
     simp only[Rt.toR,holed,Xp,Tt.toT];rfl
    rw[<- e];exact Ni h'
   ·exact cT n us r (off+1) h
  ·exact h
 |.fr::r,off,s,h=>by
  simp only[bm];split
  ·split
   ·exact cT n us r (off+1) (ID h _)
   ·exact cT n us r (off+1) h
  ·exact h
theorem fj:∀(sp:List Sp)(s:St),Ext s (prep sp s)
 |[],s=>Ext.refl s
 |.sl k u::r,s=>(eY s _).trans (fj r _)
 |.ow k sh u::r,s=>(xk s k sh u).trans (fj r _)
 |.rt n sh u::r,s=>(dv n _ (unmark sh) 0 s).trans (fj r _)
 |.mp _ _ _::r,s=>fj r s
 |.mo _ _ _::r,s=>fj r s
 |.it _ _ _::r,s=>fj r s
 |.gw _ _ _::r,s=>fj r s
theorem lk:∀(sp:List Sp){s:St},R g s.toS a w->R g (prep sp s).toS a w
 |[],_,h=>h
 |.sl k u::r,_,h=>lk r (IC h _)
 |.ow k sh u::r,_,h=>lk r (IE h k sh u)
 |.rt n sh u::r,_,h=>lk r (cT n _ (unmark sh) 0 h)
 |.mp _ _ _::r,_,h=>lk r h
 |.mo _ _ _::r,_,h=>lk r h
 |.it _ _ _::r,_,h=>lk r h
 |.gw _ _ _::r,_,h=>lk r h
mutual
theorem SH:∀{a b:Sh},VO a b=true->a=b
 |.fr,.fr,_=>rfl
 |.ow a,.ow b,h=>by rw[gR (show kZ a b=true from h)]
theorem gR:∀{a b:List Sh},kZ a b=true->a=b
 |[],[],_=>rfl
 |a::r,b::q,h=>by
  simp only[kZ,WI]at h;rw[SH h.1,gR h.2]
end
def CL:List Tt->List C->Prop
 |[],[]=>True
 |t::ts,c::cs=>((t=.d c\/t=.d .nm/\∃k v,c=.mp k v none)\/(t=.nil/\∃u',c=.li u' []))/\CL ts cs
 |_,_=>False
theorem IR{u:U}{t:Tt}{x:El u}(h:wC u t=some x):(t=.d (aj u x)\/t=.d .nm/\∃k v,aj u x=.mp k v none)\/(t=.nil/\∃u',aj u x=.li u' []):=by
 unfold wC at h;split at h
 ·split at h
  ·simp only[WG]at h;subst h;exact .inl (.inr ⟨rfl,_,_,rfl⟩)
  ·cases h
 ·rw[cp h];exact .inl (.inl (by rw[<- cp h]))
 ·split at h
  ·simp only[WG]at h;subst h;exact .inr ⟨rfl,_,rfl⟩
  ·cases h
 ·cases h
theorem BM:∀{us:List U}{ts:List Tt}{x:Fl us},jq us ts=some x->CL ts (dB us x)
 |[],[],_,_=>trivial
 |u::r,c::cs,x,h=>by
  simp only[jq]at h;cases h1:wC u c with
  |none=>rw[h1]at h;cases h
  |some y=>
   cases h2:jq r cs with
   |none=>rw[h1,h2]at h;cases h
   |some z=>
    rw[h1,h2]at h;simp only[WG]at h;subst h;rw[dB,pY,qC];exact⟨IR h1,BM h2⟩
 |[],_::_,_,h=>by simp[jq]at h
 |_::_,[],_,h=>by simp[jq]at h
theorem lu{u:U}{ts:List Tt}{x:El u}(h:jW u ts=some x):CL ts (flat u x):=by
 cases u with
 |st n=>
  simp only[jW]at h;cases h1:jq (sd n).fs ts with
  |none=>rw[h1]at h;cases h
  |some y=>
   rw[h1]at h;have:=Option.some.inj h
   subst this;show CL ts (dB (sd n).fs ((sd n).un ((sd n).mkF y)))
   rw[(sd n).l2];exact BM h1
 |_=>
  cases ts with
  |nil=>cases h
  |cons t r=>cases r with
   |nil=>rw[iA rfl];exact⟨IR h,trivial⟩
   |cons _ _=>cases h
theorem tO:∀{ts:List Tt}{cs:List C},CL ts cs->(cs.map Tt.d).map Tt.toT=(ts.map Tt.toT).map T.canon/\∀N,∀t∈ts.map Tt.toT,nV N t
 |[],[],_=>⟨rfl,fun _ _ h=>by simp at h⟩
 |t::ts,c::cs,h=>by
  obtain⟨h1,h2⟩:=h;obtain⟨k1,k2⟩:=tO h2;simp only[List.map_cons,k1];rcases h1 with(rfl|⟨rfl,k,v,rfl⟩)|⟨rfl,u',rfl⟩
  ·exact⟨rfl,fun N t ht=>by
    rcases WR.1 ht with rfl|ht
    ·trivial
    ·exact k2 N t ht⟩
  ·exact⟨rfl,fun N t ht=>by
    rcases WR.1 ht with rfl|ht
    ·trivial
    ·exact k2 N t ht⟩
  ·exact⟨rfl,fun N t ht=>by
    rcases WR.1 ht with rfl|ht
    ·trivial
    ·exact k2 N t ht⟩
 |[],_::_,h=>h.elim
 |_::_,[],h=>h.elim
theorem uE{u:U}{v:At}{x:El u}(h:mw u v=some x):(wn u x).toV=v.toV.map T.canon/\∀N,D5 N v.toV:=by
 unfold mw at h;split at h
 ·rename_i y;unfold N1 at h;split at h
  ·rename_i t;split at h
   ·rename_i hl;have hc:=lu h
    rw[iA hl]at hc;obtain⟨k1,k2⟩:=tO hc;have e:(wn u x)=sct (aj u x):=by cases u<;>first|rfl|cases hl
    rw[e];refine⟨?_,fun N=>k2 N t.toT (by simp)⟩;have:=congrArg (·[0]?) k1
    simp only[List.map_cons,List.map_nil,Xi,WG]at this;simp only[At.toV,A1.toV,AV.map,AV1.map,this]
   ·cases h
  ·rename_i ts;split at h
   ·cases h
   ·rename_i hl;obtain⟨k1,k2⟩:=tO (lu h);have e:(wn u x)=.one (.agg ((flat u x).map Tt.d)):=by cases u<;>first|rfl|cases hl
    rw[e];exact⟨by simp only[At.toV,A1.toV,AV.map,AV1.map,k1],fun N=>k2 N⟩
 ·cases h
theorem tF:∀{sh:List Sh}{cells ts:List Tt}{cs:List C},eX sh cells=some ts->CL ts cs->(bh sh cs).map Tt.toT=(cells.map Tt.toT).map T.canon/\∀N,∀t∈cells.map Tt.toT,nV N t
 |[],[],ts,cs,h,hc=>by
  simp only[eX,WG]at h;subst h;cases cs with
  |nil=>exact⟨rfl,fun _ _ h=>by simp at h⟩
  |cons _ _=>exact hc.elim
 |.ow s::r,c::cells,ts,cs,h,hc=>by
  cases c with
  |ow s' u l=>
   simp only[eX]at h;split at h
   ·rename_i ts' hs hr;simp only[WG]at h;subst h;cases cs with
    |nil=>exact hc.elim
    |cons c cs=>
     obtain⟨h1,h2⟩:=hc;obtain⟨k1,k2⟩:=tF hr h2;rcases h1 with(h1|⟨h1,_⟩)|⟨h1,_⟩
     ·simp only[Tt.d.injEq]at h1;subst h1;rw[gR hs];simp only[bh,List.map_cons,k1];exact⟨rfl,fun N t ht=>by
       rcases WR.1 ht with rfl|ht
       ·trivial
       ·exact k2 N t ht⟩
     ·cases h1
     ·cases h1
   ·cases h
  |_=>simp[eX]at h
 |.fr::r,c::cells,ts,cs,h,hc=>by
  have go:∀{t:Tt}{ts':List Tt},c=t->eX r cells=some ts'->ts=t::ts'->(∃x,t=.d x)\/t=.nil->(bh (.fr::r) cs).map Tt.toT=((c::cells).map Tt.toT).map T.canon/\∀N,∀t∈(c::cells).map Tt.toT,nV N t:=by
   rintro t ts' rfl hr rfl hk
   cases cs with
   |nil=>exact hc.elim
   |cons c' cs=>
    obtain⟨h1,h2⟩:=hc;obtain⟨k1,k2⟩:=tF hr h2;have e:bh (.fr::r) (c'::cs)=.d c'::bh r cs:=by cases c'<;>rfl
    rw[e];simp only[List.map_cons,k1];rcases h1 with(rfl|⟨rfl,k,v,rfl⟩)|⟨rfl,u',rfl⟩
    ·exact⟨rfl,fun N t ht=>by
      rcases WR.1 ht with rfl|ht
      ·trivial
      ·exact k2 N t ht⟩
    ·exact⟨rfl,fun N t ht=>by
      rcases WR.1 ht with rfl|ht
      ·trivial
      ·exact k2 N t ht⟩
    ·exact⟨rfl,fun N t ht=>by
      rcases WR.1 ht with rfl|ht
      ·trivial
      ·exact k2 N t ht⟩
  cases c with
  |d x=>
   simp only[eX]at h;split at h
   ·rename_i ts' hr;exact go rfl hr (Option.some.inj h).symm (.inl ⟨x,rfl⟩)
   ·cases h
  |nil=>
   simp only[eX]at h;split at h
   ·rename_i ts' hr;exact go rfl hr (Option.some.inj h).symm (.inr rfl)
   ·cases h
  |_=>simp[eX]at h
 |[],_::_,_,_,h,_=>by simp[eX]at h
 |.ow _::_,[],_,_,h,_=>by simp[eX]at h
 |.fr::_,[],_,_,h,_=>by simp[eX]at h
theorem PX:∀{sh:List Sh}{cells ts:List Tt}{cs:List C},fI sh cells=some ts->CL ts cs ->
  (((cy sh cs).map Tt.toT).length=(cells.map Tt.toT).length/\∀(i:Nat)t t',(cells.map Tt.toT)[i]? = some t->((cy sh cs).map Tt.toT)[i]? = some t'->t'=t\/t'=t.canon)/\∀N,∀t∈cells.map Tt.toT,nV N t:=by
 intro sh;induction sh with
 |nil=>
  intro cells ts cs h hc;cases cells with
  |nil=>
   simp only[fI,WG]at h;subst h;cases cs with
   |nil=>exact⟨⟨rfl,fun i t t' h=>by simp at h⟩,fun _ _ h=>by simp at h⟩
   |cons _ _=>exact hc.elim
  |cons _ _=>simp[fI]at h
 |cons s r ih=>
  intro cells ts cs h hc;cases cells with
  |nil=>cases s with
   |fr=>simp[fI]at h
   |ow a=>cases a<;>simp[fI]at h
  |cons c cells=>
   have go:∀{t0:Tt}{c':C}{cs':List C}{ts':List Tt},fI r cells=some ts'->CL ts' cs'->cy (s::r) (c'::cs')=t0::cy r cs'->(t0.toT=c.toT\/t0.toT=c.toT.canon)->(∀N,nV N c.toT) ->
     (((cy (s::r) (c'::cs')).map Tt.toT).length=((c::cells).map Tt.toT).length/\∀(i:Nat)t t',((c::cells).map Tt.toT)[i]? = some t->((cy (s::r) (c'::cs')).map Tt.toT)[i]? = some t'->t'=t\/t'=t.canon)/\∀N,∀t∈(c::cells).map Tt.toT,nV N t:=by
    intro t0 c' cs' ts' h1 h2 h3 h4 h5;obtain⟨⟨k1,k2⟩,k3⟩:=ih h1 h2;rw[h3];refine⟨⟨by simp only[List.map_cons,WL,k1],fun i t t' e1 e2=>?_⟩,fun N t ht=>?_⟩
    ·cases i with
     |zero=>
      simp only[List.map_cons,Xi,WG]at e1 e2;rw[<- e1,<- e2];exact h4
     |succ i=>
      simp only[List.map_cons,Xx]at e1 e2;exact k2 i t t' e1 e2
    ·rcases WR.1 ht with rfl|ht
     ·exact h5 N
     ·exact k3 N t ht
   cases s with
   |fr=>
    have gofr:∀{t:Tt}{ts':List Tt},c=t->fI r cells=some ts'->ts=t::ts'->(∃x,t=.d x)\/t=.nil->(((cy (.fr::r) cs).map Tt.toT).length=((c::cells).map Tt.toT).length/\∀(i:Nat)t t',((c::cells).map Tt.toT)[i]? = some t->((cy (.fr::r) cs).map Tt.toT)[i]? = some t'->t'=t\/t'=t.canon)/\∀N,∀t∈(c::cells).map Tt.toT,nV N t:=by
     rintro t ts' rfl hr rfl hk
     cases cs with
     |nil=>exact hc.elim
     |cons c' cs=>
      have e:cy (.fr::r) (c'::cs)=.d c'::cy r cs:=by cases c'<;>rfl
      obtain⟨h1,h2⟩:=hc;refine go hr h2 e ?_ ?_
      ·rcases h1 with(h1|⟨h1,k,v,h1'⟩)|⟨h1,u',h1'⟩
       ·rw[h1];exact .inl rfl
       ·rw[h1,h1'];exact .inl rfl
       ·rw[h1,h1'];exact .inr rfl
      ·intro N;rcases hk with⟨x,hx⟩|hx
       ·rw[hx];trivial
       ·rw[hx];trivial
    cases c with
    |d x=>
     simp only[fI]at h;split at h
     ·rename_i ts' hr;exact gofr rfl hr (Option.some.inj h).symm (.inl ⟨x,rfl⟩)
     ·cases h
    |nil=>
     simp only[fI]at h;split at h
     ·rename_i ts' hr;exact gofr rfl hr (Option.some.inj h).symm (.inr rfl)
     ·cases h
    |_=>simp[fI]at h
   |ow a=>
    cases a with
    |nil=>
     cases c with
     |nil=>
      simp only[fI]at h;split at h
      ·rename_i ts' hr;simp only[WG]at h;subst h;cases cs with
       |nil=>exact hc.elim
       |cons c' cs=>exact go hr hc.2 rfl (.inl rfl) (fun N=>trivial)
      ·cases h
     |_=>simp[fI]at h
    |cons a b=>
     cases c with
     |ow s' u l=>
      simp only[fI]at h;split at h
      ·rename_i ts' hs hr;simp only[WG]at h;subst h;cases cs with
       |nil=>exact hc.elim
       |cons c' cs=>
        obtain⟨h1,h2⟩:=hc;rcases h1 with(h1|⟨h1,_⟩)|⟨h1,_⟩
        ·simp only[Tt.d.injEq]at h1;subst h1;refine go hr h2 rfl (.inl ?_) (fun N=>trivial);simp only[Tt.toT];rw[gR hs]
        ·cases h1
        ·cases h1
      ·cases h
     |_=>simp[fI]at h
theorem iC(k:Nat):∀t:List (Nat×Nat×At),gtA t k=match bJ t k with|some (_,v)=>v|none=>.any
 |[]=>rfl
 |(i,j,v)::t=>by
  simp only[gtA,bJ];cases Nat.beq i k with
  |true=>rfl
  |false=>exact iC k t
theorem zp{rs:List Nm}{t:Tt}(h:t.inR rs=true):nV rs t.toT:=by
 cases t with
 |pl p=>show p.root∈rs;simpa[Tt.inR]using h
 |rf p=>show p.root∈rs;simpa[Tt.inR]using h
 |_=>trivial
theorem OB{rs:List Nm}{x:A1}(h:x.inR rs=true):tK rs x.toV:=by
 cases x with
 |c t=>exact zp h
 |agg ts=>
  intro t ht;obtain⟨t',h1,rfl⟩:=Xa.1 ht;exact zp (WY.1 h t' h1)
theorem UA{rs:List Nm}{x:At}(h:x.inR rs=true):D5 rs x.toV:=by
 cases x with
 |one x=>exact OB h
 |tup xs=>
  intro t ht;obtain⟨t',h1,rfl⟩:=Xa.1 ht;exact OB (WY.1 h t' h1)
 |any=>trivial
theorem I4{p:Nat->At->Prop}:∀{t:List (Nat×Nat×At)},(∀x∈t,p x.1 x.2.2)->∀i,gtA t i=.any\/p i (gtA t i)
 |[],_,_=>.inl rfl
 |(k,j,v)::t,h,i=>by
  simp only[gtA];cases hb:Nat.beq k i with
  |true=>have:=WS hb;subst this;exact .inr (h (k,j,v) (by simp))
  |false=>exact I4 (fun x hx=>h x (WV _ hx)) i
theorem nL{t:List (Nat×Nat×At)}:∀{ks:List Nat}{x:Nat×Nat×At},x∈x9 t ks->x.1∈ks/\bJ t x.1=some x.2
 |[],x,h=>by simp[x9]at h
 |k::r,x,h=>by
  simp only[x9]at h;split at h
  ·rename_i j v hl;rcases WR.1 h with rfl|h
   ·exact⟨by simp,hl⟩
   ·have:=nL h;exact⟨WV _ this.1,this.2⟩
  ·have:=nL h;exact⟨WV _ this.1,this.2⟩
theorem nK{t:List (Nm×Nat×Rt)}:∀{ks:List Nm}{x:Nm×Nat×Rt},x∈mG t ks->x.1∈ks/\bZ t x.1=some x.2
 |[],x,h=>by simp[mG]at h
 |k::r,x,h=>by
  simp only[mG]at h;split at h
  ·rename_i j v hl;rcases WR.1 h with rfl|h
   ·exact⟨by simp,hl⟩
   ·have:=nK h;exact⟨WV _ this.1,this.2⟩
  ·have:=nK h;exact⟨WV _ this.1,this.2⟩
theorem B5{s0 s:St}{rs:List Nm}:∀{ks:List Nat},Rm s0 s rs ks=true->∀k∈ks,∃j v0 v,bJ s0.t k=some (j,v0)/\bJ s.t k=some (j,v)/\j<s0.nx/\v.inR rs=true
 |[],_,k,hk=>by simp at hk
 |i::r,h,k,hk=>by
  simp only[Rm,WI]at h;rcases WR.1 hk with rfl|hk
  ·have h1:=h.1
   split at h1
   ·rename_i j v0 j' v e1 e2;simp only[WI]at h1;have:=WS h1.1.1
    subst this;exact⟨_,_,_,e1,e2,WT h1.1.2,h1.2⟩
   ·cases h1
  ·exact B5 h.2 k hk
theorem uR{s0 s:St}{rs:List Nm}:∀{ks:List Nm},K5 s0 s rs ks=true->∀k∈ks,∃j v0 v,bZ s0.m k=some (j,v0)/\bZ s.m k=some (j,v)/\j<s0.nx/\v.cells.all (·.inR rs)=true
 |[],_,k,hk=>by simp at hk
 |i::r,h,k,hk=>by
  simp only[K5,WI]at h;rcases WR.1 hk with rfl|hk
  ·have h1:=h.1
   split at h1
   ·rename_i j v0 j' v e1 e2;simp only[WI]at h1;have:=WS h1.1.1
    subst this;exact⟨_,_,_,e1,e2,WT h1.1.2,h1.2⟩
   ·cases h1
  ·exact uR h.2 k hk
theorem B4{s:St}{rs:List Nm}:∀{ps:List (Nat×Nm×Nat)},Rl s rs ps=true->∀p∈ps,gtA s.t p.1=.one (.c (.pl ⟨p.2.1,p.2.2,[]⟩))/\p.2.1∈rs
 |[],_,p,hp=>by simp at hp
 |(k,n,o)::r,h,p,hp=>by
  simp only[Rl,WI]at h;rcases WR.1 hp with rfl|hp
  ·have h1:=h.1
   split at h1
   ·rename_i n' o' hg;simp only[WI,decide_eq_true_eq]at h1;obtain⟨⟨rfl,h2⟩,h3⟩:=h1;have:=WS h2
    subst this;exact⟨hg,by simpa using h3⟩
   ·cases h1
  ·exact B4 h.2 p hp
theorem u9{s0 s:St}{rs:List Nm}:∀{ks:List Nm},K5 s0 s rs ks=true->(mG s0.m ks).map (·.1)=ks
 |[],_=>rfl
 |k::r,h=>by
  have hh:=h
  simp only[K5,WI]at h;obtain⟨j,v0,v,e1,_⟩:=uR hh k (by simp);simp only[mG,e1,List.map_cons,u9 h.2]
theorem ff(nx:Nat):∀(sp:List Sp)(x:FSp sp),(dz nx sp x).map (·.1)=sp.flatMap Sp.rn
 |[],_=>rfl
 |.sl k u::r,x=>by simp only[dz,Xe,Sp.rn,X2];exact ff nx r _
 |.ow k sh u::r,x=>by simp only[dz,Xe,Sp.rn,List.map_cons,XP];rw[ff nx r]
 |.rt n sh u::r,x=>by simp only[dz,Xe,Sp.rn,List.map_cons,XP];rw[ff nx r]
 |.mp n ku vu::r,x=>by simp only[dz,Xe,Sp.rn,List.map_cons,XP];rw[ff nx r]
 |.mo n ku vu::r,x=>by simp only[dz,Xe,Sp.rn,List.map_cons,XP];rw[ff nx r]
 |.it n ku vu::r,x=>by simp only[dz,Xe,Sp.rn,List.map_cons,XP];rw[ff nx r]
 |.gw n sh u::r,x=>by simp only[dz,Xe,Sp.rn,List.map_cons,XP];rw[ff nx r]
theorem yi:∀{l:List Nm},zO l=true->l.Nodup
 |[],_=>List.nodup_nil
 |n::r,h=>by
  simp only[zO,WI,XE,List.contains_eq_mem,decide_eq_false_iff_not]at h;exact Xl.2 ⟨h.1,yi h.2⟩
theorem uG{ku vu ku' vu':U}{l:List (El ku×El vu)}{x:List (El ku'×El vu')}(h:BO ku vu ku' vu' l=some x):∃(e1:ku=ku')(e2:vu=vu'),x=e1 ▸ e2 ▸ l:=by
 unfold BO at h;split at h
 ·rename_i e;obtain⟨rfl,rfl⟩:=e;exact⟨rfl,rfl,(Option.some.inj h).symm⟩
 ·cases h
theorem OR{s:St}{nx:Nat}:∀{sp:List Sp}{x:FSp sp},unS s sp=some x ->
  (∀y∈jZ nx sp x,(y.2.2.toV=(gtA s.t y.1).toV\/y.2.2.toV=(gtA s.t y.1).toV.map T.canon)/\∀N,(∀n∈sp.flatMap Sp.rn,n∈N)->D5 N (gtA s.t y.1).toV) /\
  (∀y∈dz nx sp x,∃r,bj s.m y.1=some r/\lg r.toR y.2.2.toR/\∀N,∀t∈r.toR.cells,nV N t)
 |[],_,_=>⟨fun y h=>by simp[jZ]at h,fun y h=>by simp[dz]at h⟩
 |p::r,x,h=>by
  simp only[unS]at h;cases h1:DS s p with
  |none=>rw[h1]at h;cases h
  |some a=>
   cases h2:unS s r with
   |none=>rw[h1,h2]at h;cases h
   |some b=>
    rw[h1,h2]at h;simp only[WG]at h;obtain⟨i1,i2⟩:=OR (nx:=nx) h2;cases p with
    |sl k u=>
     have ha:FSp.hd (.sl k u) r x=a:=by rw[<- h];exact oD _ _ _ _
     have hb:FSp.tl (.sl k u) r x=b:=by rw[<- h];exact oE _ _ _ _
     refine⟨fun y hy=>?_,fun y hy=>?_⟩
     ·simp only[jZ,ha,hb,WR]at hy;rcases hy with rfl|hy
      ·obtain⟨k1,k2⟩:=uE (v:=gtA s.t k) h1;exact⟨.inr k1,fun N _=>k2 N⟩
      ·obtain⟨k1,k2⟩:=i1 y hy;exact⟨k1,fun N hN=>k2 N (fun n hn=>hN n (by simp only[Xe,WX];exact .inr hn))⟩
     ·simp only[dz,hb]at hy;exact i2 y hy
    |ow k sh u=>
     have ha:FSp.hd (.ow k sh u) r x=a:=by rw[<- h];exact oD _ _ _ _
     have hb:FSp.tl (.ow k sh u) r x=b:=by rw[<- h];exact oE _ _ _ _
     simp only[DS]at h1;split at h1
     ·rename_i n sh' u' l hv hr;cases hn:decide (n=ik k)<;>cases hsh:kZ sh sh'<;>rw[hn,hsh]at h1
      ·cases h1
      ·cases h1
      ·cases h1
      ·have hn':n=ik k:=by simpa using hn
       subst hn';obtain⟨e,rfl⟩:=gG h1;subst e;obtain rfl:=gR hsh;refine⟨fun y hy=>?_,fun y hy=>?_⟩
       ·simp only[jZ,hb,WR]at hy;rcases hy with rfl|hy
        ·refine⟨.inl (by rw[hv]),fun N hN=>?_⟩;rw[hv];exact hN _ (by simp[Xe,Sp.rn])
        ·obtain⟨k1,k2⟩:=i1 y hy;exact⟨k1,fun N hN=>k2 N (fun n hn=>hN n (by simp only[Xe,WX];exact .inr hn))⟩
       ·simp only[dz,ha,hb,WR]at hy;rcases hy with rfl|hy
        ·exact⟨_,hr,lg.refl _,fun N t ht=>by simp only[Rt.toR,holed,List.map_cons,List.map_nil,WU]at ht;subst ht;trivial⟩
        ·exact i2 y hy
     ·cases h1
    |mp n ku vu=>
     have ha:FSp.hd (.mp n ku vu) r x=a:=by rw[<- h];exact oD _ _ _ _
     have hb:FSp.tl (.mp n ku vu) r x=b:=by rw[<- h];exact oE _ _ _ _
     simp only[DS]at h1;split at h1
     ·rename_i ku' vu' l hr;obtain⟨e1,e2,rfl⟩:=uG h1;subst e1;subst e2;refine⟨fun y hy=>?_,fun y hy=>?_⟩
      ·simp only[jZ,hb]at hy;obtain⟨k1,k2⟩:=i1 y hy;exact⟨k1,fun N hN=>k2 N (fun n hn=>hN n (by simp only[Xe,WX];exact .inr hn))⟩
      ·simp only[dz,ha,hb,WR]at hy;rcases hy with rfl|hy
       ·exact⟨_,hr,lg.refl _,fun N t ht=>by simp only[Rt.toR,holed,List.map_cons,List.map_nil,WU]at ht;subst ht;trivial⟩
       ·exact i2 y hy
     ·cases h1
    |it n ku vu=>
     have ha:FSp.hd (.it n ku vu) r x=a:=by rw[<- h];exact oD _ _ _ _
     have hb:FSp.tl (.it n ku vu) r x=b:=by rw[<- h];exact oE _ _ _ _
     simp only[DS]at h1;split at h1
     ·rename_i ku' vu' cur l hr;obtain⟨e1,e2,rfl⟩:=uG h1;subst e1;subst e2;refine⟨fun y hy=>?_,fun y hy=>?_⟩
      ·simp only[jZ,hb]at hy;obtain⟨k1,k2⟩:=i1 y hy;exact⟨k1,fun N hN=>k2 N (fun n hn=>hN n (by simp only[Xe,WX];exact .inr hn))⟩
      ·simp only[dz,ha,hb,WR]at hy;rcases hy with rfl|hy
       ·exact⟨_,hr,⟨rfl,rfl,fun i t t' h1 h2=>by
         cases i with
         |zero=>
          have e1:T.it (cur.map (nY _ _)) (l.map (nY _ _))=t:=Option.some.inj h1
          have e2:T.it none (l.map (nY _ _))=t':=Option.some.inj h2
          subst e1 e2;exact .inr rfl
         |succ i=>simp[Rt.toR,holed]at h1⟩,fun N t ht=>by simp only[Rt.toR,holed,List.map_cons,List.map_nil,WU]at ht;subst ht;trivial⟩
       ·exact i2 y hy
     ·cases h1
    |gw n sh u=>
     have ha:FSp.hd (.gw n sh u) r x=a:=by rw[<- h];exact oD _ _ _ _
     have hb:FSp.tl (.gw n sh u) r x=b:=by rw[<- h];exact oE _ _ _ _
     simp only[DS]at h1;split at h1
     ·rename_i sh' u' l hr;cases hsh:kZ sh sh' with
      |false=>rw[hsh]at h1;cases h1
      |true=>
      rw[hsh]at h1;obtain⟨e,rfl⟩:=gG h1;subst e;obtain rfl:=gR hsh;refine⟨fun y hy=>?_,fun y hy=>?_⟩
      ·simp only[jZ,hb]at hy;obtain⟨k1,k2⟩:=i1 y hy;exact⟨k1,fun N hN=>k2 N (fun n hn=>hN n (by simp only[Xe,WX];exact .inr hn))⟩
      ·simp only[dz,ha,hb,WR]at hy;rcases hy with rfl|hy
       ·exact⟨_,hr,lg.refl _,fun N t ht=>by simp only[Rt.toR,holed,List.map_cons,List.map_nil,WU]at ht;subst ht;trivial⟩
       ·exact i2 y hy
     ·cases h1
    |mo n ku vu=>
     have ha:FSp.hd (.mo n ku vu) r x=a:=by rw[<- h];exact oD _ _ _ _
     have hb:FSp.tl (.mo n ku vu) r x=b:=by rw[<- h];exact oE _ _ _ _
     simp only[DS]at h1;split at h1
     ·rename_i ku' vu' l hr;obtain⟨e1,e2,rfl⟩:=uG h1;subst e1;cases e2;refine⟨fun y hy=>?_,fun y hy=>?_⟩
      ·simp only[jZ,hb]at hy;obtain⟨k1,k2⟩:=i1 y hy;exact⟨k1,fun N hN=>k2 N (fun n hn=>hN n (by simp only[Xe,WX];exact .inr hn))⟩
      ·simp only[dz,ha,hb,WR]at hy;rcases hy with rfl|hy
       ·exact⟨_,hr,lg.refl _,fun N t ht=>by simp only[Rt.toR,holed,List.map_cons,List.map_nil,WU]at ht;subst ht;trivial⟩
       ·exact i2 y hy
     ·cases h1
    |rt n sh u=>
     have ha:FSp.hd (.rt n sh u) r x=a:=by rw[<- h];exact oD _ _ _ _
     have hb:FSp.tl (.rt n sh u) r x=b:=by rw[<- h];exact oE _ _ _ _
     simp only[DS]at h1;split at h1
     ·rename_i cells hr;split at h1
      ·rename_i ts hts;obtain⟨k1,k2⟩:=PX hts (lu h1);refine⟨fun y hy=>?_,fun y hy=>?_⟩
       ·simp only[jZ,hb]at hy;obtain⟨k1,k2⟩:=i1 y hy;exact⟨k1,fun N hN=>k2 N (fun n hn=>hN n (by simp only[Xe,WX];exact .inr hn))⟩
       ·simp only[dz,ha,hb,WR]at hy;rcases hy with rfl|hy
        ·exact⟨_,hr,⟨rfl,k1.1,k1.2⟩,fun N t ht=>k2 N t ht⟩
        ·exact i2 y hy
      ·cases h1
     ·cases h1
def jn1(σ:Sg)(s0:St)(J:FSp σ.sp->Prop)(s:St):Prop:=σ.fit s0 s=true/\∃x,unS s σ.sp=some x/\J x
theorem OE{σ:Sg}{s0 s1:St}{J:FSp σ.sp->Prop}(hE1:Ext s0 s1)(h:jn1 σ s0 J s1)(hR1:R g s1.toS a w):∃v,J v/\R g (σ.st s0 v).toS a w:=by
   obtain⟨hf,v,hv,h⟩:=h;refine⟨v,h,?_⟩;obtain⟨H,γ,F,hX⟩:=hR1;simp only[Sg.fit,WI]at hf;obtain⟨⟨⟨f1,f2⟩,f3⟩,f4⟩:=hf;obtain⟨l1,l2⟩:=OR (nx:=s0.nx) hv;have hkeys:(σ.st s0 v).toS.m.map (·.1)=σ.rn:=by
    show(toM (mG s0.m σ.kr++dz s0.nx σ.sp v)).map (·.1)=_
    simp only[toM,WZ];show(mG s0.m σ.kr++dz s0.nx σ.sp v).map (·.1)=_
    rw[XC,u9 f4,ff];rfl
   refine⟨H,γ,F,Nd hX (by rw[hkeys];exact yi f1) (fun x hx=>?_) (fun i=>?_)⟩
   ·rw[hkeys];obtain⟨y,hy,rfl⟩:=Xa.1 (show x∈toM (mG s0.m σ.kr++dz s0.nx σ.sp v)from hx);rcases WX.1 hy with hy|hy
    ·obtain⟨hk,hl⟩:=nK hy;obtain⟨j,v0,v1,e1,e2,e3,e4⟩:=uR f4 y.1 hk;have e5:=hE1.m _ _ _ e2 e3
     rw[hl]at e5;have e6:=Option.some.inj e5
     have eg:bj s1.m y.1=some y.2.2:=by rw[lD,e2];simp[e6]
     refine⟨y.2.2.toR,aR eg,lg.refl _,fun t ht=>?_⟩;have hv1:y.2.2=v1:=by rw[e6]
     rw[hv1]at ht;have hH:=t7 v1.cells v1.hole
     obtain⟨i,hi,hit⟩:=List.getElem_of_mem ht;have hlen:=hH.len
     have hi':i<v1.cells.length:=by
      have:(v1.toR.cells).length=v1.cells.length:=hlen
      omega
     rcases hH.nth i _ t (WH hi') (by rw[<- hit];exact WH hi)with e|⟨_,_,_,_,_,e,_⟩
     ·rw[e];exact zp (WY.1 e4 _ (Xj hi'))
     ·rw[e];trivial
    ·obtain⟨r,k1,k2,k3⟩:=l2 y hy;exact⟨r.toR,aR k1,k2,k3 _⟩
   ·rw[hkeys];have key:∀y∈(σ.st s0 v).t,(y.2.2.toV=(gtA s1.t y.1).toV\/y.2.2.toV=(gtA s1.t y.1).toV.map T.canon)/\D5 σ.rn (gtA s1.t y.1).toV:=by
     intro y hy;rcases WX.1 hy with hy|hy
     ·obtain⟨hk,hl⟩:=nL hy;obtain⟨j,v0,v1,e1,e2,e3,e4⟩:=B5 f3 y.1 hk;have e5:=hE1.t _ _ _ e2 e3
      rw[hl]at e5;have e6:=Option.some.inj e5
      have eg:gtA s1.t y.1=v1:=by rw[iC,e2]
      rw[eg,e6];exact⟨.inl rfl,UA e4⟩
     ·rcases WX.1 hy with hy|hy
      ·obtain⟨p,hp,rfl⟩:=Xa.1 hy;obtain⟨e1,e2⟩:=B4 f2 p hp;dsimp only;rw[e1];exact⟨.inl rfl,e2⟩
      ·obtain⟨k1,k2⟩:=l1 y hy;exact⟨k1,k2 _ (fun n hn=>by unfold Sg.rn;exact Xs _ hn)⟩
    have hs1:aL s1.toS.t i=(gtA s1.t i).toV:=cj i s1.t
    have hst:aL (σ.st s0 v).toS.t i=(gtA (σ.st s0 v).t i).toV:=cj i (σ.st s0 v).t
    rw[hs1,hst];rcases I4 (p:=fun i v=>(v.toV=(gtA s1.t i).toV\/v.toV=(gtA s1.t i).toV.map T.canon)/\D5 σ.rn (gtA s1.t i).toV) key i with e|e
    ·rw[e];exact .inl rfl
    ·exact .inr e
theorem Tz{σ:Sg}{s0 s:St}{J:FSp σ.sp->Prop}(hE:Ext s0 s)(h:jn σ s0 J s)(hR:R g s.toS a w):∃v,J v/\R g (σ.st s0 v).toS a w:=by
 unfold jn at h;dsimp only at h;have hR1:=lk (g:=g) (a:=a) (w:=w) σ.sp hR
 have hE1:=hE.trans (fj σ.sp s)
 split at h
 ·rename_i hf;split at h
  ·rename_i v hv;exact OE hE1 ⟨hf,v,hv,h⟩ hR1
  ·exact h.elim
 ·exact h.elim
theorem yg{k:Nat}{y:Nat×At}:∀{t:List (Nat×Nat×At)},bJ t k=some y->(k,y)∈t
 |[],h=>by cases h
 |(i,j,v)::t,h=>by
  simp only[bJ]at h;split at h
  ·rename_i hb;have:=WS hb
   subst this;rw[<- Option.some.inj h];simp
  ·exact WV _ (yg h)
theorem ye{k:Nm}{y:Nat×Rt}:∀{t:List (Nm×Nat×Rt)},bZ t k=some y->(k,y)∈t
 |[],h=>by cases h
 |(i,j,v)::t,h=>by
  simp only[bZ]at h;split at h
  ·rename_i hb;subst hb;rw[<- Option.some.inj h];simp
  ·exact WV _ (ye h)
theorem mH(nx:Nat):∀(sp:List Sp)(x:FSp sp),(∀y∈jZ nx sp x,y.2.1=nx)/\∀y∈dz nx sp x,y.2.1=nx
 |[],_=>⟨fun y h=>by simp[jZ]at h,fun y h=>by simp[dz]at h⟩
 |.sl k u::r,x=>by
  obtain⟨h1,h2⟩:=mH nx r (FSp.tl (.sl k u) r x);refine⟨fun y h=>?_,fun y h=>h2 y h⟩;simp only[jZ,WR]at h;rcases h with rfl|h
  ·rfl
  ·exact h1 y h
 |.ow k sh u::r,x=>by
  obtain⟨h1,h2⟩:=mH nx r (FSp.tl (.ow k sh u) r x);refine⟨fun y h=>?_,fun y h=>?_⟩
  ·simp only[jZ,WR]at h;rcases h with rfl|h
   ·rfl
   ·exact h1 y h
  ·simp only[dz,WR]at h;rcases h with rfl|h
   ·rfl
   ·exact h2 y h
 |.rt n sh u::r,x=>by
  obtain⟨h1,h2⟩:=mH nx r (FSp.tl (.rt n sh u) r x);refine⟨fun y h=>h1 y h,fun y h=>?_⟩;simp only[dz,WR]at h;rcases h with rfl|h
  ·rfl
  ·exact h2 y h
 |.mp n ku vu::r,x=>by
  obtain⟨h1,h2⟩:=mH nx r (FSp.tl (.mp n ku vu) r x);refine⟨fun y h=>h1 y h,fun y h=>?_⟩;simp only[dz,WR]at h;rcases h with rfl|h
  ·rfl
  ·exact h2 y h
 |.mo n ku vu::r,x=>by
  obtain⟨h1,h2⟩:=mH nx r (FSp.tl (.mo n ku vu) r x);refine⟨fun y h=>h1 y h,fun y h=>?_⟩;simp only[dz,WR]at h;rcases h with rfl|h
  ·rfl
  ·exact h2 y h
 |.it n ku vu::r,x=>by
  obtain⟨h1,h2⟩:=mH nx r (FSp.tl (.it n ku vu) r x);refine⟨fun y h=>h1 y h,fun y h=>?_⟩;simp only[dz,WR]at h;rcases h with rfl|h
  ·rfl
  ·exact h2 y h
 |.gw n sh u::r,x=>by
  obtain⟨h1,h2⟩:=mH nx r (FSp.tl (.gw n sh u) r x);refine⟨fun y h=>h1 y h,fun y h=>?_⟩;simp only[dz,WR]at h;rcases h with rfl|h
  ·rfl
  ·exact h2 y h
theorem tU(σ:Sg)(s:St)(x:FSp σ.sp):Ext s (σ.st s x):=by
 obtain⟨l1,l2⟩:=mH s.nx σ.sp x;refine⟨Xt _,fun k j v h hj=>?_,fun n j r h hj=>?_⟩
 ·have hm:=yg h
  rcases WX.1 hm with hm|hm
  ·exact(nL hm).2
  ·rcases WX.1 hm with hm|hm
   ·obtain⟨p,_,e⟩:=Xa.1 hm;simp only[Prod.mk.injEq]at e;omega
   ·have:=l1 _ hm;dsimp only at this;omega
 ·have hm:=ye h
  rcases WX.1 hm with hm|hm
  ·exact(nK hm).2
  ·have:=l2 _ hm;dsimp only at this;omega
end
def fw(nt:Nat):Code->Bool
 |.region _ ops false=>Si nt ops.toList ops.toList
 |.region _ ops true=>jy nt ops&&Region.noSelect ops
 |.seq a b=>fw nt a&&fw nt b
 |.cond (.tmp t) a b=>Nat.blt t 100000&&(fw nt a&&fw nt b)
 |.block _ a=>fw nt a
 |.loop a=>fw nt a
 |_=>true
def LQ(pk:PKt)(K:Kt):Exit->S->Prop
 |.normal,s=>∃t:St,s=t.toS/\K.n t
 |.exit i,s=>∃t:St,s=t.toS/\K.x i t
 |.ret,s=>∃t:St,s=t.toS/\K.r t
 |.panic c,s=>∃v,∃t:St,c=chn v/\s=t.toS/\pk v t
 |_,_=>False
theorem Te{pk:PKt}{K:Kt}:∀x s,PQ pk x s->LQ pk K x s:=by
 rintro x s ⟨v,t,rfl,rfl,h2⟩
 exact⟨v,t,rfl,rfl,h2⟩
theorem RF{σ:Sg}{s0 s:St}{J J':FSp σ.sp->Prop}(hj:∀v,J v->J' v)(h:jn σ s0 J s):jn σ s0 J' s:=by
 unfold jn at h⊢;dsimp only at h⊢;split at h
 ·split at h
  ·exact hj _ h
  ·exact h.elim
 ·exact h.elim
theorem vj{α:Type}{b b':(α->Prop)->α->Prop}(hb:∀R R':α->Prop,(∀v,R v->R' v)->∀v,b R v->b' R' v):∀n v,mI b n v->mI b' n v
 |0,_,h=>h.elim
 |n+1,v,h=>hb _ _ (vj hb n) v h
theorem Aq{e:En}(he:e.ok):∀(c:Code)(an:An)(s:St)(K K':Kt),(∀s',Ext s s'->K.n s'->K'.n s')->(∀i s',Ext s s'->K.x i s'->K'.x i s')->(∀s',Ext s s'->K.r s'->K'.r s')->wpT e an c s K->wpT e an c s K':=by
 intro c;induction c with
 |skip=>intro an s K K' hn hx hr h;simp only[wpT]at h⊢;exact hn s (Ext.refl s) h
 |exit i=>intro an s K K' hn hx hr h;simp only[wpT]at h⊢;exact hx i s (Ext.refl s) h
 |ret=>intro an s K K' hn hx hr h;simp only[wpT]at h⊢;exact hr s (Ext.refl s) h
 |region id ops dr=>
  intro an s K K' hn hx hr h;cases dr with
  |false=>simp only[wpT]at h⊢;exact vG he hn h
  |true=>simp only[wpT]at h⊢;exact iz he hn h
 |seq a b iha ihb=>
  intro an s K K' hn hx hr h;cases an with
  |s p q=>
   simp only[wpT]at h⊢;exact iha p s ⟨fun s'=>wpT e (q.pick s') b s' K,K.x,K.r⟩ ⟨fun s'=>wpT e (q.pick s') b s' K',K'.x,K'.r⟩ (fun s1 h1 hs1=>ihb (q.pick s1) s1 K K' (fun s2 h2=>hn s2 (h1.trans h2)) (fun i s2 h2=>hx i s2 (h1.trans h2)) (fun s2 h2=>hr s2 (h1.trans h2)) hs1) hx hr h
  |j σ p q=>
   simp only[wpT]at h⊢;intro J hJ;refine iha p s ⟨jn σ s J,K.x,K.r⟩ ⟨jn σ s J,K'.x,K'.r⟩ (fun s1 _ h=>h) hx hr (h J (fun v hv=>hJ v ?_));exact ihb q _ K K' (fun s2 h2=>hn s2 ((tU σ s v).trans h2)) (fun i s2 h2=>hx i s2 ((tU σ s v).trans h2)) (fun s2 h2=>hr s2 ((tU σ s v).trans h2)) hv
  |_=>simp only[wpT]at h
 |cond t a b iha ihb=>
  intro an s K K' hn hx hr h;cases an with
  |c p q=>
   cases t with
   |tmp t=>
    simp only[wpT]at h⊢;split at h
    ·rename_i c _;cases c
     ·simp only[WP,if_false]at h⊢;exact ihb q s K K' hn hx hr h
     ·simp only[if_true]at h⊢;exact iha p s K K' hn hx hr h
    ·exact h.elim
   |_=>simp only[wpT]at h
  |_=>cases t<;>simp only[wpT]at h
 |block id a iha=>
  intro an s K K' hn hx hr h;cases an with
  |b p=>
   simp only[wpT]at h⊢;refine iha p s ⟨K.n,fun i s'=>match Nat.beq i id with|true=>K.n s'|false=>K.x i s',K.r⟩ ⟨K'.n,fun i s'=>match Nat.beq i id with|true=>K'.n s'|false=>K'.x i s',K'.r⟩ hn (fun i s' hE hs'=>?_) hr h;dsimp only at hs'⊢;cases hb:Nat.beq i id with
   |true=>rw[hb]at hs';exact hn s' hE hs'
   |false=>rw[hb]at hs';exact hx i s' hE hs'
  |_=>simp only[wpT]at h
 |loop a iha=>
  intro an s K K' hn hx hr h;cases an with
  |lp σ p=>
   simp only[wpT]at h⊢;have hEp:=fj σ.sp s
   generalize prep σ.sp s=s1 at h hEp;split at h
   ·split at h
    ·obtain⟨n,hl⟩:=h;refine⟨n,vj (fun R R' hR v hv=>?_) n _ hl⟩;have hE:=hEp.trans (tU σ s1 v)
     exact iha p _ ⟨jn σ s1 R,K.x,K.r⟩ ⟨jn σ s1 R',K'.x,K'.r⟩ (fun s2 _ h=>RF hR h) (fun i s2 h2=>hx i s2 (hE.trans h2)) (fun s2 h2=>hr s2 (hE.trans h2)) hv
    ·exact h.elim
   ·exact h.elim
  |un n p=>
   simp only[wpT]at h⊢;have key:∀n(s1:St),Ext s s1->oo (fun R s'=>wpT e p a s' ⟨R,K.x,K.r⟩) n s1->oo (fun R s'=>wpT e p a s' ⟨R,K'.x,K'.r⟩) n s1:=by
    intro n;induction n with
    |zero=>intro s1 _ h;exact h.elim
    |succ n ih=>
     intro s1 hE h;exact iha p s1 ⟨oo (fun R s'=>wpT e p a s' ⟨R,K.x,K.r⟩) n,K.x,K.r⟩ ⟨oo (fun R s'=>wpT e p a s' ⟨R,K'.x,K'.r⟩) n,K'.x,K'.r⟩ (fun s2 h2 hs2=>ih s2 (hE.trans h2) hs2) (fun i s2 h2=>hx i s2 (hE.trans h2)) (fun s2 h2=>hr s2 (hE.trans h2)) h
   exact key n s (Ext.refl s) h
  |_=>simp only[wpT]at h
 |_=>intro an s K K' hn hx hr h;cases an<;>simp only[wpT]at h
theorem l8{P:Program}{g:G}{c:Code}{Q Q':Exit->S->Prop}{s:S}(h:AW P g c Q s)(hq:∀e s' a w,Q e s'->R g s' a w->∃s'',Q' e s''/\R g s'' a w):AW P g c Q' s:=fun a w hR=>
 Code.wp_mono (fun e a' w'⟨s',h1,h2⟩=>hq e s' a' w' h1 h2) (h a w hR)
theorem lf{e:En}(he:e.ok)(hm:e.P.follows .mixedOrders=true){g:G}:∀(c:Code)(an:An)(s:St)(K:Kt),fw g.nt c=true->wpT e an c s K->AW e.P g c (LQ e.pk K) s.toS:=by
 intro c;induction c with
 |skip=>intro an s K hc h;simp only[wpT]at h;exact GX ⟨s,rfl,h⟩
 |exit i=>intro an s K hc h;simp only[wpT]at h;exact Qg ⟨s,rfl,h⟩
 |ret=>intro an s K hc h;simp only[wpT]at h;exact TQ ⟨s,rfl,h⟩
 |region id ops dr=>
  intro an s K hc h;obtain⟨l⟩:=ops;cases dr with
  |false=>
   simp only[wpT]at h;exact na (lc he Te hc h (fun t ht=>⟨t,rfl,ht⟩))
  |true=>
   simp only[wpT]at h;simp only[fw,WI]at hc;exact Mw he Te hm hc.1 hc.2 (fun t ht=>⟨t,rfl,ht⟩) h
 |seq a b iha ihb=>
  intro an s K hc h;simp only[fw,WI]at hc;cases an with
  |s p q=>
   simp only[wpT]at h;refine qO (AW.mono (iha p s _ hc.1 h) (fun e' s' h'=>?_));cases e' with
   |normal=>obtain⟨t,rfl,ht⟩:=h';exact ihb (q.pick t) t K hc.2 ht
   |exit i=>exact h'
   |ret=>exact h'
   |panic c=>exact h'
   |_=>exact h'
  |j σ p q=>
   simp only[wpT]at h;have h1:=h _ (fun v hv=>hv)
   have h2:=Aq he a p s ⟨jn σ s (fun v=>wpT e q b (σ.st s v) K),K.x,K.r⟩ ⟨fun s'=>Ext s s'/\jn σ s (fun v=>wpT e q b (σ.st s v) K) s',K.x,K.r⟩ (fun s' hE hs'=>⟨hE,hs'⟩) (fun _ _ _ h=>h) (fun _ _ h=>h) h1
   refine qO (AW.mono (iha p s _ hc.1 h2) (fun e' s' h'=>?_));cases e' with
   |normal=>
    obtain⟨t,rfl,hE,ht⟩:=h';intro a' w' hR;obtain⟨v,hv,hR'⟩:=Tz hE ht hR;exact ihb q _ K hc.2 hv a' w' hR'
   |exit i=>exact h'
   |ret=>exact h'
   |panic c=>exact h'
   |_=>exact h'
  |_=>simp only[wpT]at h
 |cond t a b iha ihb=>
  intro an s K hc h;cases an with
  |c p q=>
   cases t with
   |tmp t=>
    simp only[fw,WI]at hc;simp only[wpT]at h;split at h
    ·rename_i c hcc;refine yD (fT hcc) (fun hb=>?_) (fun hb=>?_) (WT hc.1)
     ·subst hb;rw[if_pos rfl]at h;exact iha p s K hc.2.1 h
     ·subst hb;rw[if_neg (by simp)]at h;exact ihb q s K hc.2.2 h
    ·exact h.elim
   |_=>simp only[wpT]at h
  |_=>cases t<;>simp only[wpT]at h
 |block id a iha=>
  intro an s K hc h;cases an with
  |b p=>
   simp only[wpT]at h;refine Mv (AW.mono (iha p s _ hc h) (fun e' s' h'=>?_));cases e' with
   |normal=>exact h'
   |exit i=>
    obtain⟨t,rfl,ht⟩:=h';simp only[EN];dsimp only at ht;cases hb:Nat.beq i id with
    |true=>
     rw[hb]at ht;rw[if_pos (WS hb)];exact⟨t,rfl,ht⟩
    |false=>
     rw[hb]at ht;rw[if_neg (fun e=>by rw[e,Yq]at hb;cases hb)];exact⟨t,rfl,ht⟩
   |ret=>exact h'
   |_=>exact h'
  |_=>simp only[wpT]at h
 |loop a iha=>
  intro an s K hc h;cases an with
  |lp σ p=>
   simp only[wpT]at h;have hRp:∀a' w',R g s.toS a' w'->R g (prep σ.sp s).toS a' w':=fun a' w' hR=>lk σ.sp hR
   generalize prep σ.sp s=s1 at h hRp;split at h
   ·rename_i hf;split at h
    ·rename_i x0 hx0;obtain⟨n,hl⟩:=h;intro a0 w0 hR0;have hj:jn1 σ s1 (fun v=>v=x0) s1:=⟨hf,x0,hx0,rfl⟩
     obtain⟨v,rfl,hR1⟩:=OE (Ext.refl s1) hj (hRp _ _ hR0);refine GW (fun n S'=>∃v,mI (fun R v=>wpT e p a (σ.st s1 v) ⟨jn σ s1 R,K.x,K.r⟩) n v/\S'=(σ.st s1 v).toS) n ⟨v,hl,rfl⟩ (fun n S' hS=>?_) a0 w0 hR1
     ·obtain⟨v,hv,rfl⟩:=hS;cases n with
      |zero=>exact hv.elim
      |succ n=>
       have h2:=Aq he a p (σ.st s1 v) ⟨jn σ s1 (mI (fun R v=>wpT e p a (σ.st s1 v) ⟨jn σ s1 R,K.x,K.r⟩) n),K.x,K.r⟩ ⟨fun s'=>Ext (σ.st s1 v) s'/\jn σ s1 (mI (fun R v=>wpT e p a (σ.st s1 v) ⟨jn σ s1 R,K.x,K.r⟩) n) s',K.x,K.r⟩ (fun s' hE hs'=>⟨hE,hs'⟩) (fun _ _ _ h=>h) (fun _ _ h=>h) hv
       refine l8 (iha p _ _ hc h2) (fun e' s' a' w' h' hR'=>?_);cases e' with
       |normal=>
        obtain⟨t,rfl,hE,ht⟩:=h';obtain⟨v',hv',hR2⟩:=Tz ((tU σ s1 v).trans hE) ht hR';exact⟨_,⟨n,Nat.lt_succ_self n,v',hv',rfl⟩,hR2⟩
       |exit i=>exact⟨s',h',hR'⟩
       |ret=>exact⟨s',h',hR'⟩
       |panic c=>exact⟨s',h',hR'⟩
       |_=>exact h'.elim
    ·exact h.elim
   ·exact h.elim
  |un n p=>
   simp only[wpT]at h;refine GW (fun n S'=>∃t:St,S'=t.toS/\oo (fun R s'=>wpT e p a s' ⟨R,K.x,K.r⟩) n t) n ⟨s,rfl,h⟩ (fun n S' hS=>?_);obtain⟨t,rfl,ht⟩:=hS;cases n with
   |zero=>exact ht.elim
   |succ n=>
    refine l8 (iha p t ⟨oo (fun R s'=>wpT e p a s' ⟨R,K.x,K.r⟩) n,K.x,K.r⟩ hc ht) (fun e' s' a' w' h' hR'=>?_);cases e' with
    |normal=>
     obtain⟨t2,rfl,ht2⟩:=h';exact⟨_,⟨n,Nat.lt_succ_self n,t2,rfl,ht2⟩,hR'⟩
    |exit i=>exact⟨s',h',hR'⟩
    |ret=>exact⟨s',h',hR'⟩
    |panic c=>exact⟨s',h',hR'⟩
    |_=>exact h'.elim
  |_=>simp only[wpT]at h
 |_=>intro an s K hc h;cases an<;>simp only[wpT]at h
def eL:(us:List U)->Fl us->List AV
 |[],_=>[]
 |u::r,x=>(wn u (Fl.hd u r x)).toV::eL r (Fl.tl u r x)
def q8:(us:List U)->Fl us->List AV1
 |[],_=>[]
 |u::r,x=>(xb u (Fl.hd u r x)).toV::q8 r (Fl.tl u r x)
theorem qE(u:U)(x:El u):wn u x=.one (xb u x):=by cases u<;>rfl
theorem oK{u:U}{v:At}{x:El u}(h:mw u v=some x):v.noRf=true/\v.toV.isFz=true:=by
 have cl:∀{ts:List Tt}{cs:List C},CL ts cs->ts.all Tt.noRf=true/\(ts.map Tt.toT).all T.isFz=true:=by
  intro ts;induction ts with
  |nil=>exact fun _=>⟨rfl,rfl⟩
  |cons t ts ih=>
   intro cs hc;cases cs with
   |nil=>exact hc.elim
   |cons c cs=>
    obtain⟨h1,h2⟩:=ih hc.2;rcases hc.1 with(rfl|⟨rfl,_⟩)|⟨rfl,_⟩
    ·exact⟨by simp only[W0,h1];rfl,by simp only[List.map_cons,W0,h2];rfl⟩
    ·exact⟨by simp only[W0,h1];rfl,by simp only[List.map_cons,W0,h2];rfl⟩
    ·exact⟨by simp only[W0,h1];rfl,by simp only[List.map_cons,W0,h2];rfl⟩
 unfold mw at h;split at h
 ·unfold N1 at h;split at h
  ·split at h
   ·obtain⟨h1,h2⟩:=cl (lu h);refine⟨?_,?_⟩
    ·rename_i t _ _;show t.noRf=true;simpa using h1
    ·rename_i t _ _;show t.toT.isFz=true;simpa using h2
   ·cases h
  ·split at h
   ·cases h
   ·obtain⟨h1,h2⟩:=cl (lu h);exact⟨h1,h2⟩
 ·cases h
theorem dl:∀{us:List U}{vs:List At}{x:Fl us},bC us vs=some x->vs.all At.noRf=true/\(vs.map At.toV).all AV.isFz=true/\(vs.map At.toV).map (AV.map T.canon)=eL us x
 |[],[],_,_=>⟨rfl,rfl,rfl⟩
 |u::r,v::vs,x,h=>by
  simp only[bC]at h;cases h1:mw u v with
  |none=>rw[h1]at h;cases h
  |some a=>
   cases h2:bC r vs with
   |none=>rw[h1,h2]at h;cases h
   |some b=>
    rw[h1,h2]at h;simp only[WG]at h;subst h;obtain⟨i1,i2,i3⟩:=dl h2;obtain⟨k1,k2⟩:=oK h1;refine⟨by simp only[W0,k1,i1,Ye],by simp only[List.map_cons,W0,k2,i2,Ye],?_⟩;simp only[List.map_cons,eL,pY,qC,i3,(uE h1).1]
 |[],_::_,_,h=>by simp[bC]at h
 |_::_,[],_,h=>by simp[bC]at h
section
variable {P:Program}
theorem dR{s:St}{ops:List Operand}(h:ops.all ax=true):ops.map (ev s.toS)=(ops.map (evA s)).map At.toV:=by
 rw[WZ];exact W1 fun x hx=>af (WY.1 h x hx)
theorem sg{f:Nat}{φ:List AV->(AV->Prop)->Prop}{ps rs:List U}{pre:Fl ps->Prop}{F:Fl ps->Fl rs}(hφ:∀x K,pre x->K (bL rs (F x)).toV->φ (eL ps x) K)(h:Con P f (mQ φ)):Cont P f (cY ps rs pre F):=by
 refine⟨h.run,fun pk s ops k k' hk hc=>?_,fun g pk s a w H γ F1 ops k hX hops hc=>?_⟩
 ·unfold cY at hc⊢;dsimp only at hc⊢;split at hc
  ·exact⟨hc.1,hk _ _ (bN _ _) hc.2⟩
  ·exact hc.elim
 ·unfold cY at hc;dsimp only at hc;obtain⟨H1,F2,h1⟩:=cE (ops.map (evA s)) s H F1 hX;generalize bw s (ops.map (evA s))=s1 at hc h1;split at hc
  ·rename_i x hx;obtain⟨c1,c2,c3⟩:=dl hx;refine Calls.mono (h.call g s1.toS a w H1 γ F2 ops (fun s' av=>∃t v',SEq s' t.toS/\av=v'.toV/\k t v') h1 hops ?_) ?_
   ·unfold mQ;dsimp only;rw[dR hops,dE c1];have e:(ops.map fun x=>(ev s1.toS x).map T.canon)=(ops.map (ev s1.toS)).map (AV.map T.canon):=by rw[WZ];rfl
    rw[e,dR hops];refine⟨c2,?_⟩;rw[c3];exact hφ x _ hc.1 ⟨s1,_,⟨fun _=>rfl,rfl⟩,rfl,hc.2⟩
   ·rintro e w' ⟨r,s',av,H',γ',F',k1,⟨t,v',e1,rfl,k2⟩,k3,k4⟩
    refine .inl ⟨r,t,v',H',γ',F',k1,k2,?_,aS e1 k4⟩;rw[e1.2]at k3;exact k3
  ·exact hc.elim
theorem yE{f:Nat}{ps rs:List U}{F:Fl ps->Fl rs}(h:Cont P f (cY ps rs (fun _=>True) F)):Cont P f (gY ps rs F):=by
 have e:∀pk s ops k,gY ps rs F pk s ops k->cY ps rs (fun _=>True) F pk s ops k:=by
  intro pk s ops k hc;unfold gY at hc;unfold cY;dsimp only at hc⊢;split at hc
  ·exact⟨trivial,hc⟩
  ·exact hc.elim
 refine⟨h.run,fun pk s ops k k' hk hc=>?_,fun g pk s a w H γ F1 ops k hX hops hc=>h.call g pk s a w H γ F1 ops k hX hops (e _ _ _ _ hc)⟩;unfold gY at hc⊢;dsimp only at hc⊢;split at hc
 ·exact hk _ _ (bN _ _) hc
 ·exact hc.elim
theorem cP{s:St}:∀{rs:List ResultVar}{k:List At->Prop},(∀vs,¬ k vs)->¬ cx P s rs k
 |[],k,hk,h=>hk _ h
 |r::rs,k,hk,h=>by
  have key:∀v,¬ cx P s rs (fun vs=>k (v::vs)):=fun v=>cP fun vs=>hk _
  simp only[cx]at h;unfold jK at h;cases r with
  |tmp t=>exact key _ h
  |cell a t=>
   dsimp only at h;split at h
   ·split at h
    ·split at h
     ·exact loadT_false key h
     ·exact h
    ·exact h
   ·exact h
where
 loadT_false {m:List (Nm×Nat×Rt)} {t:TypeId} {x:At} {k:At->Prop} (hk:∀v,¬ k v) (h:iU P m t x k):False:=by
  unfold iU at h;split at h
  ·split at h
   ·split at h<;>split at h<;>first|exact hk _ h|exact h
   ·split at h
    ·exact hk _ h.2
    ·exact h
   ·split at h<;>split at h<;>first|exact hk _ h|exact h
   ·exact h
  ·exact h
theorem jL{s:St}(hop:∀p i,gtA s.t i=.one (.c (.pl p))->okP (toM s.m) p):∀{rs:List ResultVar}{us:List U}{K:Fl us->Prop}{k:List At->Prop},(∀vs,k vs->∃x,bC us vs=some x/\K x)->cx P s rs k ->
  dS P s.toS rs (fun xs=>∃x:Fl us,xs.map (·.map T.canon)=q8 us x/\xs.all AV1.isFz=true/\K x)
 |[],us,K,k,hk,h=>by
  obtain⟨x,hx,hK⟩:=hk _ h;cases us with
  |nil=>exact⟨x,rfl,rfl,hK⟩
  |cons u us=>simp[bC]at hx
 |r::rs,us,K,k,hk,h=>by
  simp only[cx]at h;simp only[dS];have step:∀{v:At},cx P s rs (fun vs=>k (v::vs))->(match v.toV with
    |.one x=>dS P s.toS rs fun xs=>∃y:Fl us,(x::xs).map (·.map T.canon)=q8 us y/\(x::xs).all AV1.isFz=true/\K y
    |_=>False):=by
   intro v hv;cases us with
   |nil=>exact(cP (fun vs hvs=>by obtain⟨x,hx,_⟩:=hk _ hvs;simp[bC]at hx) hv).elim
   |cons u us=>
    cases hc:mw u v with
    |none=>exact(cP (fun vs hvs=>by obtain⟨x,hx,_⟩:=hk _ hvs;simp only[bC,hc]at hx;cases hx) hv).elim
    |some a=>
     obtain⟨c1,_⟩:=uE hc;obtain⟨_,c3⟩:=oK hc;have ih:=jL hop (us:=us) (K:=fun y=>K (Fl.cons u us a y)) (fun vs hvs=>by
      obtain⟨x,hx,hK⟩:=hk _ hvs;simp only[bC,hc]at hx;cases h2:bC us vs with
      |none=>rw[h2]at hx;cases hx
      |some b=>rw[h2]at hx;simp only[WG]at hx;subst hx;exact⟨b,rfl,hK⟩) hv
     rw[qE]at c1;cases v with
     |one x=>
      refine resGets_mono ?_ ih;rintro xs ⟨y,e1,e2,hK⟩
      refine⟨_,?_,?_,hK⟩
      ·simp only[List.map_cons,q8,pY,qC,e1];simp only[At.toV,AV.map,AV.one.injEq]at c1;rw[c1]
      ·simp only[W0,e2,XZ];exact c3
     |tup _=>simp[mw]at hc
     |any=>simp[mw]at hc
  cases r with
  |tmp t=>
   simp only[jK]at h;simp only[rZ];rw[show aL s.toS.t t=(gtA s.t t).toV from cj t s.t];exact step h
  |cell a t=>
   simp only[jK]at h;simp only[rZ];split at h
   ·rename_i p hp;split at h
    ·split at h
     ·have hl:=vi (m:=s.m) (x:=gtA s.t a) (fun q hq=>hop q a hq) h
      rw[show aL s.toS.t a=(gtA s.t a).toV from cj a s.t];refine loadK_mono ?_ hl;rintro _ ⟨v,rfl,hv⟩
      exact step hv
     ·exact h.elim
    ·exact h.elim
   ·exact h.elim
where
 loadK_mono {m:Mm} {t:TypeId} {x:AV} {k k':AV->Prop} (hk:∀v,k v->k' v) (h:p5 P m t x k):p5 P m t x k':=by
  unfold p5 at h⊢;refine⟨h.1,?_⟩
  replace h:=h.2
  split at h
  ·split at h
   ·rename_i ha;rw[if_pos ha];exact⟨h.1,fun hh=>hk _ (h.2 hh)⟩
   ·rename_i ha;rw[if_neg ha];split at h
    ·exact fun hh=>hk _ (h hh)
    ·exact h.elim
  ·split at h
   ·rename_i ha;rw[if_pos ha];exact atK_mono (fun ts hts hh=>hk _ (hts hh)) h
   ·rename_i ha;rw[if_neg ha];refine atK_mono (fun ts hts=>?_) h;split at hts
    ·exact fun hh=>hk _ (hts hh)
    ·exact hts.elim
  ·exact h.elim
 atK_mono {m:Mm} {p:Pl} {n:Nat} {k k':List T->Prop} (hk:∀v,k v->k' v) (h:atK m p n k):atK m p n k':=by
  unfold atK at h⊢;split at h
  ·exact h.elim
  ·split at h
   ·exact⟨h.1,hk _ h.2⟩
   ·exact inK_mono hk h
   ·exact h.elim
 inK_mono {k k':List T->Prop} (hk:∀v,k v->k' v):∀{path:List Step}{sub:List Sh}{l:List (List D)}{n:Nat},inK sub l n path k->inK sub l n path k'
  |[],_,_,_,h=>h.elim
  |[st],sub,l,n,h=>by
   simp only[inK]at h⊢;refine⟨h.1,?_⟩
   replace h:=h.2
   split at h
   ·exact hk _ h
   ·exact h.elim
  |st::st'::r,sub,l,n,h=>by
   simp only[inK]at h⊢;split at h
   ·split at h
    ·exact inK_mono hk h
    ·exact h.elim
   ·exact h.elim
 resGets_mono {s:S}:∀{rs:List ResultVar}{k k':List AV1->Prop},(∀v,k v->k' v)->dS P s rs k->dS P s rs k'
  |[],k,k',hk,h=>hk _ h
  |r::rs,k,k',hk,h=>by
   simp only[dS]at h⊢;have st:∀v:AV,(match v with|.one x=>dS P s rs fun xs=>k (x::xs)|_=>False)->(match v with|.one x=>dS P s rs fun xs=>k' (x::xs)|_=>False):=by
    intro v hv;cases v with
    |one x=>exact resGets_mono (fun xs=>hk _) hv
    |_=>exact hv
   cases r with
   |tmp t=>exact st _ h
   |cell a t=>exact loadK_mono st h
theorem Jp{s:S}{rs:List ResultVar}{us:List U}{K:AV->Prop}{Q:Fl us->Prop}(hfrz:fB s rs=s)(hQ:∀x,Q x->K (bL us x).toV)(h:dS P s rs (fun xs=>∃x:Fl us,xs.map (·.map T.canon)=q8 us x/\xs.all AV1.isFz=true/\Q x)):qv P s rs K:=by
 unfold qv;rw[hfrz];refine jL.resGets_mono ?_ h;rintro xs ⟨x,e1,e2,hq⟩
 have hK:=hQ x hq
 have resL_eq:∀(us:List U)(x:Fl us),(bL.resL us x).map A1.toV=q8 us x:=by
  intro us;induction us with
  |nil=>intro _;rfl
  |cons u r ih=>intro x;simp only[bL.resL,List.map_cons,q8,ih]
 match xs,e2,us,x,e1,hK with
 |[],_,[],x,_,hK=>exact⟨rfl,hK⟩
 |[y],e2,[u],x,e1,hK=>
  simp only[List.map_cons,List.map_nil,q8,List.cons.injEq,and_true]at e1;refine⟨by simpa using e2,?_⟩;rw[e1];have:(bL [u] x).toV=.one (xb u (Fl.hd u [] x)).toV:=by show(wn u x).toV=_;rw[qE];rfl
  rw[<- this];exact hK
 |y::y'::ys,e2,u::v::r,x,e1,hK=>
  refine⟨e2,?_⟩;rw[e1,<- resL_eq];exact hK
 |[],_,_::_,_,e1,_=>simp[q8]at e1
 |[_],_,[],_,e1,_=>simp[q8]at e1
 |[_],_,_::_::_,_,e1,_=>simp[q8]at e1
 |_::_::_,_,[],_,e1,_=>simp[q8]at e1
 |_::_::_,_,[_],_,e1,_=>simp[q8]at e1
end
section
variable {P:Program}
theorem OZ{m:List (Nm×Nat×Rt)}{t:TypeId}{x:At}{k:At->Prop}(h:iU P m t x k):∃v,k v:=by
 rcases Classical.em (∃v,k v)with hh|hh
 ·exact hh
 ·exact(cP.loadT_false (fun v hv=>hh ⟨v,hv⟩) h).elim
theorem Pf{t:Tt}(h:t.owned=false):∀sub l,t.toT≠.ow sub l:=by
 cases t with
 |ow _ _ _=>cases h
 |_=>intro _ _ h;cases h
theorem uV{s:St}{n:Nm}{r:Rt}(hr:bj s.m n=some r)(hh:r.hole=none)(hc:r.cells.all (fun t=>!t.owned)=true):∀i,lA s.toS n i=s.toS
 |0=>rfl
 |i+1=>by
  simp only[lA];rw[uV hr hh hc i];unfold Ce;have e:aQ s.toS.m ⟨n,i,[]⟩=(r.cells.map Tt.toT)[i]? := by
   unfold aQ;rw[show ab s.toS.m n=some r.toR from aR hr];show(holed (r.cells.map Tt.toT) r.hole)[i]? = _
   rw[hh];rfl
  rw[e,WK];cases hi:r.cells[i]? with
  |none=>rfl
  |some t=>
   have:=WY.1 hc t (W9 hi)
   have ho:t.owned=false:=by simpa using this
   have hne:=Pf ho
   simp only[Option.map_some];cases ht:t.toT with
   |ow sub l=>exact(hne _ _ ht).elim
   |_=>rfl
theorem oS{s:St}:∀{rs:List ResultVar}{us:List U}{k:List At->Prop},(∀vs,k vs->∃x,bC us vs=some x)->cx P s rs k->fB s.toS rs=s.toS
 |[],_,_,_,_=>rfl
 |r::rs,us,k,hk,h=>by
  simp only[cx]at h;have step:∀{v:At},cx P s rs (fun vs=>k (v::vs))->v.noRf=true/\fB s.toS rs=s.toS:=by
   intro v hv;cases us with
   |nil=>exact(cP (fun vs hvs=>by obtain⟨x,hx⟩:=hk _ hvs;simp[bC]at hx) hv).elim
   |cons u us=>
    cases hc:mw u v with
    |none=>exact(cP (fun vs hvs=>by obtain⟨x,hx⟩:=hk _ hvs;simp only[bC,hc]at hx;cases hx) hv).elim
    |some a=>
     exact⟨(oK hc).1,oS (us:=us) (fun vs hvs=>by
      obtain⟨x,hx⟩:=hk _ hvs;simp only[bC,hc]at hx;cases h2:bC us vs with
      |none=>rw[h2]at hx;cases hx
      |some b=>exact⟨b,rfl⟩) hv⟩
  simp only[fB];cases r with
  |tmp t=>
   simp only[jK]at h;obtain⟨h1,h2⟩:=step h;have e:mE s.toS (.tmp t)=s.toS:=by
    simp only[mE];rw[show aL s.toS.t t=(gtA s.t t).toV from cj t s.t];exact rC h1
   rw[e];exact h2
  |cell a t=>
   simp only[jK]at h;split at h
   ·rename_i p hp;split at h
    ·rename_i r hr;split at h
     ·rename_i hb;simp only[WI,Option.isNone_iff_eq_none]at hb;obtain⟨v,hv⟩:=OZ h;have e:mE s.toS (.cell a t)=s.toS:=by
       simp only[mE];rw[fT hp];simp only[At.toV,A1.toV,Tt.toT];rw[show ab s.toS.m p.root=some r.toR from aR hr];exact uV hr hb.1 hb.2 _
      rw[e];exact(step hv).2
     ·exact h.elim
    ·exact h.elim
   ·exact h.elim
variable {g:G} {a:Act} {w:World}
theorem uh{s:St}(h:R g s.toS a w)(n:Nm):∀i,R g (uU s n i).toS a w
 |0=>h
 |i+1=>ID (uh h n i) _
theorem JV{s:St}(h:R g s.toS a w)(r:ResultVar):R g (zi s r).toS a w:=by
 cases r with
 |tmp t=>exact IC h _
 |cell a' t=>
  simp only[zi];split
  ·split
   ·exact uh h _ _
   ·exact h
  ·exact h
theorem oH:∀(rs:List ResultVar){s:St},R g s.toS a w->R g (iP s rs).toS a w
 |[],_,h=>h
 |r::rs,_,h=>oH rs (JV h r)
theorem TG{s:St}(h:R g s.toS a w):∀p i,gtA s.t i=.one (.c (.pl p))->okP (toM s.m) p:=by
 intro p i e;obtain⟨H,γ,F,hX⟩:=h;have:=hX.t i
 rw[fT e]at this;obtain⟨_,h1,_⟩:=this;exact F6 h1
theorem lN{rs:List ResultVar}{us:List U}{KK:Fl us->Prop}{K:AV->Prop}{t:St}(hK:∀r,KK r->K (bL us r).toV)(h:pd P rs us KK t)(hR:R g t.toS a w):∃s'',qv P s'' rs K/\R g s'' a w:=by
 unfold pd at h;have hR1:=oH rs hR
 refine⟨_,Jp (us:=us) (Q:=KK) (oS (us:=us) ?_ h) hK (jL (TG hR1) ?_ h),hR1⟩
 ·intro vs hvs;split at hvs
  ·rename_i x hx;exact⟨x,hx⟩
  ·exact hvs.elim
 ·intro vs hvs;split at hvs
  ·rename_i x hx;exact⟨x,hx,hvs⟩
  ·exact hvs.elim
theorem iN:∀(i:Nat)(us:List U)(x:Fl us),(wF i us x).map (fun y=>(y.1,y.2.2.toV))=bv i (eL us x)
 |_,[],_=>rfl
 |i,u::r,x=>by simp only[wF,List.map_cons,eL,bv,iN (i+1) r]
theorem cV:∀(us:List U)(x:Fl us),(eL us x).length=us.length
 |[],_=>rfl
 |u::r,x=>by simp only[eL,WL,cV r]
end
theorem xf{e:En}(he:e.ok)(hm:e.P.follows .mixedOrders=true){f:Nat}{fn:Func}(hf:e.P.funcs[f]? = some fn) (hname:(fn.name == "runtime.NumGoroutine")=false) (hb:fn.body.isSome=true) {an:An} {ps rs:List U} {pre:Fl ps->Prop} {F:Fl ps->Fl rs}
  (hlen:Nat.ble ps.length fn.ntmps=true) (hc:fw fn.ntmps (fn.body.getD .skip)=true) (law:∀x,pre x->∀KK:Fl rs->Prop,KK (F x)->ib e fn an ps rs x KK):Cont e.P f (cY ps rs pre F):=by
 have hb':fn.body=some (fn.body.getD .skip):=by cases h:fn.body with
  |none=>rw[h]at hb;cases hb
  |some c=>rfl
 refine sg (φ:=fun avs K=>∃x:Fl ps,avs=eL ps x/\pre x/\K (bL rs (F x)).toV) (fun x K hp hk=>⟨x,rfl,hp,hk⟩)
  (tP hf hname hb' _ (fun avs K⟨x,hx,_,_⟩=>by rw[hx,cV];exact WT hlen) (fun g avs K hg⟨x,hx,hp,hk⟩=>?_))
 subst hx;have h:=law x hp (fun r=>r=F x) rfl
 have h1:=lf (e:=⟨e.P,e.E,e.cs,e.sh,fun _ _=>False⟩) he hm (g:=g) _ an (uM ps x) _ (by rw[hg];exact hc) h
 have e0:(uM ps x).toS=⟨bv 0 (eL ps x),[]⟩:=bb.S_ext (iN 0 ps x) rfl
 rw[e0]at h1;refine l8 h1 (fun ex s' a w h' hR=>?_);cases ex with
 |normal=>
  obtain⟨t,rfl,ht⟩:=h';exact lN (fun r hr=>by rw[hr];exact hk) ht hR
 |ret=>
  obtain⟨t,rfl,ht⟩:=h';exact lN (fun r hr=>by rw[hr];exact hk) ht hR
 |exit i=>exact h'.elim (fun t ht=>ht.2.elim)
 |panic c=>obtain⟨_,_,_,_,hf⟩:=h';exact hf.elim
 |_=>exact h'.elim
theorem tR{e:En}(he:e.ok)(hm:e.P.follows .mixedOrders=true){f:Nat}{fn:Func}(hf:e.P.funcs[f]? = some fn) (hname:(fn.name == "runtime.NumGoroutine")=false) (hb:fn.body.isSome=true) {an:An} {ps rs:List U} {F:Fl ps->Fl rs}
  (hlen:Nat.ble ps.length fn.ntmps=true) (hc:fw fn.ntmps (fn.body.getD .skip)=true) (law:∀x,∀KK:Fl rs->Prop,KK (F x)->ib e fn an ps rs x KK):Cont e.P f (gY ps rs F):=
 yE (xf he hm hf hname hb hlen hc (fun x _=>law x))
def Gt(s:S)(rs:List ResultVar)(K:List Sh->List (List D)->Prop):Prop:=
 match rs with
 |[.tmp t]=>match aL s.t t with
  |.one (.c (.rf ⟨n,0,[]⟩))=>match ab s.m n with
   |some ⟨false,[.ow sub l]⟩=>K sub l
   |_=>False
  |_=>False
 |_=>False
def VJ(rs:List ResultVar)(K:List Sh->List (List D)->Prop):Exit->S->Prop
 |.normal,s=>Gt s rs K
 |.ret,s=>Gt s rs K
 |_,_=>False
def Pd(φ:List AV->List Sh->List (List D)->(List (List D)->Prop)->Prop):CK1:=fun s ops k=>
 match ops with
 |[]=>False
 |o::os=>
  let s1:=iQ s (os.map (ev s))
  match ev s1 o with
  |.one (.c (.rf ⟨r,0,[]⟩))=>match ab s1.m r with
   |some ⟨false,[.ow sub l]⟩=>(os.map (ev s1)).all AV.isFz=true /\
     φ (os.map fun x=>(ev s1 x).map T.canon) sub l (fun l'=>k ⟨kG (aX r) s1.t,(r,⟨false,[.ow sub l']⟩)::aC (aX r) (bz s1.m r)⟩ (.one (.c (.rf ⟨r,0,[]⟩))))
   |_=>False
  |_=>False
section
variable {P:Program}
theorem Qi{f:Nat}{fn:Func}{c:Code}(hf:P.funcs[f]? = some fn) (hname:(fn.name == "runtime.NumGoroutine")=false) (hb:fn.body=some c) (φ:List AV->List Sh->List (List D)->(List (List D)->Prop)->Prop)
  (hlen:∀avs sub l K,φ avs sub l K->avs.length+1<=fn.ntmps)
  (hbody:∀(g:G)avs sub l K,g.nt=fn.ntmps->φ avs sub l K->AW P g c (VJ fn.results.toList (fun sub' l'=>sub'=sub/\K l')) ⟨bv 0 (.one (.c (.rf ⟨.out 0,0,[]⟩))::avs),[(.out 0,⟨false,[.ow sub l]⟩)]⟩):Con P f (Pd φ):=by
 refine⟨fun args w=>?_,?_⟩
 ·have h1:fn.name ≠ "runtime.NumGoroutine" := by simpa using hname
  simp[callFunc,hf,h1,hb]
 ·intro g s a w H γ F ops k hX hops hK;cases ops with
  |nil=>exact hK.elim
  |cons o os=>
  unfold Pd at hK;dsimp only at hK;obtain⟨H1,F1,h1⟩:=km (os.map (ev s)) s H F hX;generalize iQ s (os.map (ev s))=s1 at hK h1;have hops':ax o=true/\os.all ax=true:=by simpa using hops
  split at hK
  rotate_left
  ·exact hK.elim
  rename_i r heo;split at hK
  rotate_left
  ·exact hK.elim
  rename_i sub l hroot;obtain⟨hfz,hφ⟩:=hK;have hevo:=aA h1 hops'.1
  rw[heo]at hevo;obtain⟨_,hokr,hval⟩:=hevo;have hR:=h1.mem.roots _ (ae hroot)
  have hR2:=hR
  unfold a8 at hR2;rw[if_neg (by simp)]at hR2;obtain⟨v0,t0,hγr,hcells,hTR⟩:=hR2;simp only[List.cons.injEq,and_true]at hcells;subst hcells;have hv0:a.eval o=v0:=by
   simp only[plV,hγr,aq]at hval
   first|exact(Option.some.inj hval).symm|(simp at hval;exact hval.symm)
  have hle:=hlen _ _ _ _ hφ
  rw[WJ]at hle
  let γc:Gam:=fun n=>if n=.out 0 then .gh v0 else γ n
  let mc:Mm:=[(.out 0,⟨false,[.ow sub l]⟩)]
  let g1:G:=⟨fn.ntmps,w,H1,F1 r,fun _=>none,none,[]⟩
  have hγc:γc (.out 0)=.gh v0:=by simp[γc]
  have hRc:a8 w H1 γc mc (.out 0) ⟨false,[.ow sub l]⟩ (F1 r):=by
   unfold a8;rw[if_neg (by simp)];exact⟨v0,_,hγc,rfl,hTR⟩
  have hge:∀c,F1 r c<=tot F1 s1.m c:=fun c=>aW (F:=F1) (ae hroot) c
  let Fc:Nm->Fp:=fun _=>F1 r
  have htc:∀c,tot Fc mc c=F1 r c:=fun c=>(Yn (F1 r c))
  have hmc:Mem w H1 γc mc Fc:=by
   refine⟨h1.mem.agree,fun x hx=>?_,by simp[mc],fun c=>by rw[htc];exact Xo (hge c) (h1.mem.le1 c),fun c hc=>by rw[htc]at hc;exact h1.mem.lt c (by have:=hge c;omega),fun c hc=>by rw[htc]at hc;exact h1.mem.nofz c (by have:=hge c;omega)⟩;simp only[mc,WU]at hx;subst hx;exact hRc
  refine calls_of_wp hf hb (Code.wp_mono (fun e a' w' hl=>?_) (hbody g1 _ _ _ _ rfl hφ _ w ⟨H1,γc,Fc,?_⟩))
  ·obtain⟨s',hq,H',γ',F',hX'⟩:=hl;have fin:Gt s' fn.results.toList (fun sub' l'=>sub'=sub/\k ⟨kG (aX r) s1.t,(r,⟨false,[.ow sub l']⟩)::aC (aX r) (bz s1.m r)⟩ (.one (.c (.rf ⟨r,0,[]⟩)))) ->
     a'.defers=[]/\∃v,(results fn a'.tmps).run P w'=.ok v w'/\∃rr s'' av H'' γ'' F'',Ending.returned v=.returned rr/\k s'' av/\AR w' H'' γ'' s''.m av rr/\RX g s'' a w' H'' γ'' F'':=by
    intro hq;unfold Gt at hq;split at hq
    rotate_left
    ·exact hq.elim
    rename_i t hrs;split at hq
    rotate_left
    ·exact hq.elim
    rename_i n hgt;split at hq
    rotate_left
    ·exact hq.elim
    rename_i sub' l' hout;obtain⟨rfl,hk⟩:=hq;have hrun:(results fn a'.tmps).run P w'=.ok (a'.tmps.getD t undef) w':=by
     rw[gc,Ya,hrs];simp[jb]
    have hres:AR w' _ _ _ _ (a'.tmps.getD t undef):=hX'.t t
    rw[hgt]at hres;obtain⟨_,_,hpv⟩:=hres;have hRn:=hX'.mem.roots _ (ae hout)
    unfold a8 at hRn;rw[if_neg (by simp)]at hRn;obtain⟨v1,t1,hγn,hc1,hTR1⟩:=hRn;simp only[List.cons.injEq,and_true]at hc1;subst hc1;have hv1:a'.tmps.getD t undef=v1:=by
     simp only[plV,hγn,aq]at hpv
     first|exact(Option.some.inj hpv).symm|(simp at hpv;exact hpv.symm)
    have hfr:=hX'.fr
    dsimp only[g1]at hfr;have hd:=pE h1 r
    have hmdm:(s1.drop r).m=aC (aX r) (bz s1.m r):=rfl
    have hdm:=hd.mem
    rw[hmdm]at hdm;generalize hmd0:aC (aX r) (bz s1.m r)=md at hdm hk;have tdel:∀c,tot F1 md c+F1 r c=tot F1 s1.m c:=fun c=>by
     rw[<- hmd0,aV];exact jO hroot c
    have hsame:∀c,tot F1 md c≠0->w'.heap[c]? = w.heap[c]? := fun c hc=>
     hfr.block c (h1.mem.lt c (by have:=tdel c;omega)) (by have:=tdel c;have:=h1.mem.le1 c;omega)
    have hnewc:∀c,c<w.heap.size->F1 r c=0->H1 c=H' c:=by
     intro c hc h0
     funext o
     cases hh:H1 c o with
     |some y=>rw[hfr.hold c o y hh]
     |none=>
      cases hh2:H' c o with
      |none=>rfl
      |some y=>
       rcases hfr.hnew c o (by rw[hh2];simp) hh with h'|h'
       ·exact absurd h0 h'
       ·omega
    have hKp:=cD (w':=w') hdm hsame
    have hmd:Mem w' H' γ md F1:=by
     refine⟨hX'.mem.agree,fun x hx=>aN hKp hfr.hold rfl (fun c hc=>hsame c (by have:=aW (F:=F1) hx c;omega)) (hdm.roots x hx),hdm.keys,hdm.le1,fun c hc=>by have:=hdm.lt c hc;have:=hfr.size;omega,fun c hc o=>?_⟩;rw[<- hnewc c (hdm.lt c hc) (by have:=tdel c;have:=h1.mem.le1 c;omega)];exact hdm.nofz c hc o
    have hnone:ab md r=none:=by rw[<- hmd0];exact Ci h1.mem.keys
    have hRr:a8 w' H' (upd γ r (.gh v1)) ((r,⟨false,[.ow sub' l']⟩)::md) r ⟨false,[.ow sub' l']⟩ (F' n):=by
     unfold a8;rw[if_neg (by simp)];exact⟨v1,_,cQ,rfl,hTR1⟩
    have hf1:∀c,F' n c<=tot F' s'.m c:=fun c=>aW (F:=F') (ae hout) c
    have hf2:∀c,F' n c≠0->F1 r c≠0\/w.heap.size<=c:=fun c hc=>hfr.tt c (by have:=hf1 c;omega)
    have hmd0':∀c,F' n c≠0->tot F1 md c=0:=fun c hc=>by
     rcases hf2 c hc with h'|h'
     ·have:=tdel c;have:=h1.mem.le1 c;omega
     ·rcases W7 (tot F1 md c)with h0|h0
      ·exact h0
      ·have:=hdm.lt c Z1;omega
    obtain⟨hM,htot⟩:=tf hmd (n:=r) (rc:=.gh v1) (r:=⟨false,[.ow sub' l']⟩) (f:=F' n) hnone hRr (fun c=>by
      by_cases hc:F' n c=0
      ·have:=hdm.le1 c;omega
      ·have:=hmd0' c hc;have:=hX'.mem.le1 c;have:=hf1 c;omega)
     (fun c hc=>⟨hX'.mem.lt c (by have:=hf1 c;omega),hX'.mem.nofz c (by have:=hf1 c;omega)⟩)
    have hFr:Fr w H1 (tot F1 s1.m) w' H' (tot (upd F1 r (F' n)) ((r,⟨false,[.ow sub' l']⟩)::md)):=by
     refine⟨hfr.size,hfr.os,hfr.tape,hfr.output,fun c hc h0=>hfr.block c hc (by have:=hge c;omega),hfr.hold,fun c o h2 h3=>?_,fun c hc=>?_,hfr.nz⟩
     ·rcases hfr.hnew c o h2 h3 with h'|h'
      ·exact .inl (by have:=hge c;omega)
      ·exact .inr h'
     ·rw[htot]at hc;by_cases h0:F' n c=0
      ·exact .inl (by have:=tdel c;omega)
      ·rcases hf2 c h0 with h'|h'
       ·exact .inl (by have:=hge c;omega)
       ·exact .inr h'
    have hKB:KeepsB (aX r) w γ s1.m w' (upd γ r (.gh v1)) ((r,⟨false,[.ow sub' l']⟩)::md):=by
     have hKa:=kj (w:=w') (γ:=γ) (rc:=.gh v1) (r:=⟨false,[.ow sub' l']⟩) hnone
     have hKd:KeepsB (aX r) w γ s1.m w γ md:=by rw[<- hmd0];exact cZ
     constructor
     ·intro q hbq hq;obtain⟨k1,k2⟩:=hKd.pl q hbq hq;obtain⟨k3,k4⟩:=hKp.pl q k1;obtain⟨k5,k6⟩:=hKa.pl q k3;exact⟨k5,k6.trans (k4.trans k2)⟩
     ·intro q hbq hq;obtain⟨k1,k2⟩:=hKd.rf q hbq hq;obtain⟨k3,k4⟩:=hKp.rf q k1;obtain⟨k5,k6⟩:=hKa.rf q k3;exact⟨k5,k6.trans (k4.trans k2)⟩
    refine⟨hX'.df.1,_,hrun,_,_,_,H',upd γ r (.gh v1),_,rfl,hk,?_,hM,h1.fr.trans hFr,h1.nt,⟨h1.df.1,fun j b e=>?_,h1.df.2.2⟩,fun i=>?_⟩
    ·refine⟨fun _=>rfl,?_,?_⟩
     ·simp[fh,ab]
     ·rw[hv1];simp[plV,cQ,aq]
    ·have:=h1.df.2.1 j b e
     by_cases hj:Nm.out j=r
     ·rw[hj,hγr]at this;cases this
     ·rw[jd hj];exact this
    ·rw[lE];exact pq hKB hfr.hold (h1.t i)
   cases e with
   |normal=>exact fin hq
   |ret=>exact fin hq
   |_=>exact hq.elim
  ·refine⟨hmc,⟨WN _,rfl,rfl,rfl,fun _ _ _=>rfl,fun _ _ _ h=>h,fun b o h2 h3=>absurd h3 h2,fun c hc=>.inl (by rw[htc]at hc;exact hc),jE⟩,?_,⟨rfl,fun i b' e=>by simp[g1]at e,ea h1⟩,fun i=>?_⟩
   ·simp[g1];omega
   ·have hget:∀x,(o::os)[i]? = some x->(((o::os).map a.eval).toArray++Array.replicate (fn.ntmps - ((o::os).map a.eval).toArray.size) undef).getD i undef=a.eval x:=by
     intro x hx;rw[Xf,XD (by simp;have:=ah hx;simp at this;omega)];have e:((o::os).map a.eval)[i]? = some (a.eval x):=by rw[WK,hx];rfl
     rw[List.getElem?_toArray,e];rfl
    cases i with
    |zero=>
     rw[G.tv_none rfl,hget o rfl,hv0];simp only[bv,aL,if_true];refine⟨fun _=>rfl,?_,?_⟩
     ·simp[fh,ab,mc]
     ·simp[plV,hγc,aq]
    |succ i=>
     have hent:aL (bv 0 (.one (.c (.rf ⟨.out 0,0,[]⟩))::os.map fun x=>(ev s1 x).map T.canon)) (i+1)=((os.map fun x=>(ev s1 x).map T.canon)[i]?).getD .any:=by
      simp only[bv,aL];rw[if_neg Z1];rw[dF];simp
     show AR w H1 γc mc (aL (bv 0 (.one (.c (.rf ⟨.out 0,0,[]⟩))::os.map fun x=>(ev s1 x).map T.canon)) (i+1)) _
     rw[hent,WK];cases hi:os[i]? with
     |none=>simp only[X3,Yh];trivial
     |some x=>
      have hx:=aA h1 (WY.1 hops'.2 x (W9 hi))
      simp only[Option.map_some,Xb];have hz:(ev s1 x).isFz=true:=by
       have:=WY.1 hfz (ev s1 x) (Xg (W9 hi))
       exact this
      rw[G.tv_none rfl,hget x (by simpa using hi)];exact dW ct (l7 (fun _ _ _ h=>h) hz hx)
end
section
variable {α β γ' δ:Type} {P:Program} {f:Nat} {fn:Func} {co:Code}
def fo0(c:Rw α)(n:Nat)(pre:List α->Prop)(f:List α->List α):List AV->List Sh->List (List D)->(List (List D)->Prop)->Prop
 |[],sub,l,K=>match cg c l with
  |some s=>sub=List.replicate n .fr/\pre s/\K ((f s).map c.enc)
  |_=>False
 |_,_,_,_=>False
def fo1(c:Rw α)(n:Nat)(a:Cd β)(pre:List α->β->Prop)(f:List α->β->List α):List AV->List Sh->List (List D)->(List (List D)->Prop)->Prop
 |[.one x],sub,l,K=>match cg c l,a.dec x with
  |some s,some x=>sub=List.replicate n .fr/\pre s x/\K ((f s x).map c.enc)
  |_,_=>False
 |_,_,_,_=>False
def fo2(c:Rw α)(n:Nat)(a:Cd β)(b:Cd δ)(pre:List α->β->δ->Prop)(f:List α->β->δ->List α):List AV->List Sh->List (List D)->(List (List D)->Prop)->Prop
 |[.one x,.one y],sub,l,K=>match cg c l,a.dec x,b.dec y with
  |some s,some x,some y=>sub=List.replicate n .fr/\pre s x y/\K ((f s x y).map c.enc)
  |_,_,_=>False
 |_,_,_,_=>False
end
attribute [push_cast] Pd fo0 fo1 fo2 Gt VJ
section
variable {P:Program} {g:G} {a:Act} {w:World} {H:FH} {γ:Gam} {F:Nm->Fp}
theorem yP{m:Mm}{t:T}{f:Fp}{v:Value}(h:TR w H γ m t f v):nV (m.map (·.1)) t:=by
 have key:∀{n:Nm}{r:Root},ab m n=some r->n∈m.map (·.1):=fun h=>Xg (f:=(·.1)) (ae h)
 cases t with
 |pl p=>
  obtain⟨_,h1,_⟩:=h;unfold bD at h1;split at h1
  ·exact h1.elim
  ·rename_i hr;exact key hr
 |rf p=>
  obtain⟨_,h1,_⟩:=h;unfold fh at h1;split at h1
  ·exact h1.elim
  ·rename_i hr;exact key hr
 |_=>trivial
theorem GR{m:Mm}{x:AV1}{y:Value}(h:AR1 w H γ m x y):tK (m.map (·.1)) x:=by
 cases x with
 |c t=>exact yP h
 |agg ts=>
  obtain⟨cs,_,_,h1⟩:=h;intro t ht;obtain⟨i,hi,e⟩:=List.getElem_of_mem ht;obtain⟨v,g',_,h2,_⟩:=yQ h1 (i:=i) (t:=t) (by rw[WH hi,e]);exact yP h2
theorem TP{m:Mm}{x:AV}{y:Value}(h:AR w H γ m x y):D5 (m.map (·.1)) x:=by
 cases x with
 |one x=>exact GR h
 |tup xs=>
  obtain⟨l,_,h1⟩:=h;have:∀(xs:List AV1)(ys:List Value),ARs w H γ m xs ys->∀x∈xs,tK (m.map (·.1)) x:=by
   intro xs;induction xs with
   |nil=>intro _ _ x hx;simp at hx
   |cons x xs ih=>
    intro ys h z hz;cases ys with
    |nil=>exact h.elim
    |cons y ys=>
     rcases WR.1 hz with rfl|hz
     ·exact GR h.1
     ·exact ih ys h.2 z hz
  exact this xs _ h1
 |any=>trivial
theorem Nl{m:Mm}{n:Nm}{r:Root}{f:Fp}(h:a8 w H γ m n r f):∀t∈r.cells,nV (m.map (·.1)) t:=by
 intro t ht;unfold a8 at h;split at h
 ·obtain⟨b,cs,ty,fz,g',_,_,_,_,h1,_⟩:=h;obtain⟨i,hi,e⟩:=List.getElem_of_mem ht;obtain⟨v,g'',_,h2,_⟩:=yQ h1 (i:=i) (t:=t) (by rw[WH hi,e]);exact yP h2
 ·obtain⟨v,t',_,h1,h2⟩:=h;rw[h1]at ht;simp only[WU]at ht;subst ht;exact yP h2
theorem xE{s:S}(hX:RX g s a w H γ F)(n:Nm):RX g ⟨s.t,s.m.map fun x=>(x.1,if x.1=n then jX x.2 else x.2)⟩ a w H γ F:=by
 have hk:(s.m.map fun x=>(x.1,if x.1=n then jX x.2 else x.2)).map (·.1)=s.m.map (·.1):=by rw[WZ];rfl
 refine Nd hX (by rw[hk];exact hX.mem.keys) (fun x hx=>?_) (fun i=>.inr ⟨.inl rfl,by rw[hk];exact TP (hX.t i)⟩);rw[hk];obtain⟨y,hy,rfl⟩:=Xa.1 hx;refine⟨y.2,oT hX.mem.keys hy,?_,Nl (hX.mem.roots y hy)⟩;dsimp only;split
 ·exact lg.canon _
 ·exact lg.refl _
theorem oM{sh:List Sh}{cells ts:List Tt}{j:Nm}(h:eX sh cells=some ts):(cells.map Tt.toT).all (T.self j)=true/\∀r:Nm,(cells.map Tt.toT).map (T.ren r j)=cells.map Tt.toT:=by
 induction cells generalizing sh ts with
 |nil=>exact⟨rfl,fun _=>rfl⟩
 |cons c cells ih=>
  cases sh with
  |nil=>simp[eX]at h
  |cons s sh=>
   have key:∀{ts'},eX sh cells=some ts'->(T.self j c.toT=true/\∀r,T.ren r j c.toT=c.toT)->((c::cells).map Tt.toT).all (T.self j)=true/\∀r:Nm,((c::cells).map Tt.toT).map (T.ren r j)=(c::cells).map Tt.toT:=by
    intro ts' h1 h2;obtain⟨i1,i2⟩:=ih h1;exact⟨by simp only[List.map_cons,W0,h2.1,i1,Ye],fun r=>by rw[List.map_cons,List.map_cons,h2.2 r,i2 r]⟩
   cases s with
   |fr=>
    cases c with
    |d x=>
     simp only[eX]at h;split at h
     ·rename_i hr;exact key hr ⟨rfl,fun _=>rfl⟩
     ·cases h
    |nil=>
     simp only[eX]at h;split at h
     ·rename_i hr;exact key hr ⟨rfl,fun _=>rfl⟩
     ·cases h
    |_=>simp[eX]at h
   |ow sub=>
    cases c with
    |ow s' u l=>
     simp only[eX]at h;split at h
     ·rename_i hr;exact key hr ⟨rfl,fun _=>rfl⟩
     ·cases h
    |_=>simp[eX]at h
theorem yq{a b:Nm}:∀{ts:List T}{sh:List Sh}{cs:List C},ts.map T.canon=(bh sh cs).map Tt.toT->ts.map (T.ren a b)=ts
 |[],_,_,_=>rfl
 |t::ts,sh,cs,h=>by
  cases sh with
  |nil=>simp[bh]at h
  |cons s r=>cases cs with
   |nil=>cases s<;>simp[bh]at h
   |cons c cs=>
    have hd:∃t0:Tt,(∀p,t0≠.pl p)/\bh (s::r) (c::cs)=t0::bh r cs:=by
     cases s with
     |fr=>exact⟨.d c,(fun _ h=>by cases h),(by cases c<;>rfl)⟩
     |ow sub=>cases c with
      |li u l=>exact⟨.ow sub u l,(fun _ h=>by cases h),rfl⟩
      |_=>exact⟨.d _,(fun _ h=>by cases h),rfl⟩
    obtain⟨t0,h0,h1⟩:=hd;rw[h1]at h;simp only[List.map_cons,List.cons.injEq]at h;rw[List.map_cons,yq h.2]
    congr 1
    cases t with
    |pl p=>
     have:=h.1
     cases t0 with
     |pl q=>exact(h0 q rfl).elim
     |_=>simp[T.canon,Tt.toT]at this
    |_=>rfl
theorem Jo:∀(us:List U)(x:Fl us),(bL us x).toV.isFz=true:=by
 have one:∀(u:U)(x:El u),(xb u x).toV.isFz=true:=by
  intro u x;cases u with
  |st n=>simp only[xb,A1.toV,AV1.isFz,WZ,Yk];exact WY.2 fun _ _=>rfl
  |_=>rfl
 have all:∀(us:List U)(x:Fl us),((bL.resL us x).map A1.toV).all AV1.isFz=true:=by
  intro us;induction us with
  |nil=>intro _;rfl
  |cons u r ih=>intro x;simp only[bL.resL,List.map_cons,W0,one,ih,Ye]
 intro us x
 match us,x with
 |[],_=>rfl
 |[u],x=>show(wn u x).toV.isFz=true;rw[qE];exact one u x
 |u::v::r,x=>exact all (u::v::r) x
theorem Ef(s:St)(k:Nat)(sh:List Sh)(u:U):Ext s (rP s k sh u):=by
 unfold rP;split
 ·exact xk s k sh u
 ·exact Ext.refl s
theorem Nh{s:St}(h:R g s.toS a w)(k:Nat)(sh:List Sh)(u:U):R g (rP s k sh u).toS a w:=by
 unfold rP;split
 ·exact IE h k sh u
 ·exact h
theorem MB{e:En}(he:e.ok)(hm:e.P.follows .mixedOrders=true){f:Nat}{fn:Func}(hf:e.P.funcs[f]? = some fn) (hname:(fn.name == "runtime.NumGoroutine")=false) (hb:fn.body.isSome=true) {an:An} {u:U} {ps:List U} {pre:List (El u)->Fl ps->Prop} {Fn:List (El u)->Fl ps->List (El u)}
  (hlen:Nat.ble (ps.length+1) fn.ntmps=true) (hc:fw fn.ntmps (fn.body.getD .skip)=true) (law:∀x y,pre x y->∀KK:List (El u)->Prop,KK (Fn x y)->NB e fn an u ps x y KK):Cont e.P f (Sk u ps pre Fn):=by
 have hb':fn.body=some (fn.body.getD .skip):=by cases h:fn.body with
  |none=>rw[h]at hb;cases hb
  |some c=>rfl
 let φ:List AV->List Sh->List (List D)->(List (List D)->Prop)->Prop:=fun avs sub l K=>∃(x:List (El u))(y:Fl ps),avs=eL ps y/\sub=List.replicate (nc u) .fr/\l=x.map (al u)/\pre x y/\K ((Fn x y).map (al u))
 have hcon:Con e.P f (Pd φ):=by
  refine Qi hf hname hb' φ (fun avs sub l K⟨x,y,hx,_⟩=>by rw[hx,cV];exact WT hlen) (fun g avs sub l K hg⟨x,y,hx,hsub,hl,hp,hk⟩=>?_);subst hx;subst hsub;subst hl;have h:=law x y hp (fun r=>r=Fn x y) rfl
  have h1:=lf (e:=⟨e.P,e.E,e.cs,e.sh,fun _ _=>False⟩) he hm (g:=g) _ an _ _ (by rw[hg];exact hc) h
  have e0:(⟨1,(0,0,.one (.c (.rf ⟨.out 0,0,[]⟩)))::wF 1 ps y,[(.out 0,0,⟨false,[.ow (List.replicate (nc u) .fr) u x],none⟩)]⟩:St).toS=⟨bv 0 (.one (.c (.rf ⟨.out 0,0,[]⟩))::eL ps y),[(.out 0,⟨false,[.ow (List.replicate (nc u) .fr) (x.map (al u))]⟩)]⟩:=by
   refine bb.S_ext ?_ rfl;simp only[List.map_cons,bv,iN];rfl
  rw[e0]at h1;refine AW.mono h1 (fun ex s' h'=>?_);have fin:∀t:St,Jq fn.results.toList u (fun r=>r=Fn x y) t->Gt t.toS fn.results.toList (fun sub' l'=>sub'=List.replicate (nc u) .fr/\K l'):=by
   intro t ht;unfold Jq at ht;unfold Gt;split at ht
   ·rename_i tt hrs;rw[hrs];dsimp only;split at ht
    ·rename_i n hgt;rw[fT hgt];simp only[At.toV,A1.toV,Tt.toT];split at ht
     ·rename_i sh u' l hr;rw[show ab t.toS.m n=some (⟨false,[.ow sh u' l],none⟩:Rt).toR from aR hr];split at ht
      ·rename_i l' hs hcast;obtain⟨e1,rfl⟩:=gG hcast;subst e1;refine⟨gR hs,?_⟩;have hx2:l=Fn x y:=ht
       show K (l.map (al u'))
       rw[hx2];exact hk
      ·exact ht.elim
     ·exact ht.elim
    ·exact ht.elim
   ·exact ht.elim
  cases ex with
  |normal=>obtain⟨t,rfl,ht⟩:=h';exact fin t ht
  |ret=>obtain⟨t,rfl,ht⟩:=h';exact fin t ht
  |exit i=>exact h'.elim (fun t ht=>ht.2.elim)
  |panic c=>obtain⟨_,_,_,_,hf⟩:=h';exact hf.elim
  |_=>exact h'.elim
 refine⟨hcon.run,fun pk s ops k k' hk hcc=>?_,fun g pk s a w H γ F1 ops k hX hops hcc=>?_⟩
 ·unfold Sk at hcc⊢;split at hcc
  ·dsimp only at hcc⊢;split at hcc
   ·split at hcc
    ·split at hcc
     ·refine⟨hcc.1,hk _ _ ?_ hcc.2⟩;exact((Ef _ _ _ _).trans (bN _ _)).trans ⟨Xt _,fM (WN _),((l9 _).trans (dt (WN _))).trans (kg _ _ _ (WN _))⟩
     ·exact hcc.elim
    ·exact hcc.elim
   ·exact hcc.elim
  ·exact hcc.elim
 ·unfold Sk at hcc;split at hcc
  ·rename_i t os;have hops':os.all ax=true:=by
    have:=hops
    simp only[W0,WI]at this;exact this.2
   dsimp only at hcc;obtain⟨H0,γ0,F0,h0⟩:=Nh (Ni hX) t (List.replicate (nc u) .fr) u;generalize rP s t (List.replicate (nc u) .fr) u=s0 at hcc h0;obtain⟨H1,F2,h1⟩:=cE (os.map (evA s0)) s0 H0 F0 h0;generalize bw s0 (os.map (evA s0))=s1 at hcc h1;have hn1:=d9 h1
   split at hcc
   ·rename_i r hev;split at hcc
    ·rename_i sh u' l hroot;split at hcc
     ·rename_i l' x hs hcast hx;obtain⟨e1,rfl⟩:=gG hcast;subst e1;obtain⟨c1,c2,c3⟩:=dl hx;refine Calls.mono (hcon.call g s1.toS a w H1 γ0 F2 (.tmp t::os) (fun s' av=>∃t' v',s'=t'.toS/\av=v'.toV/\k t' v') h1 hops ?_) ?_
      ·unfold Pd;dsimp only;rw[dR hops',dE c1];rw[show ev s1.toS (.tmp t)=(evA s1 (.tmp t)).toV from cj t s1.t,hev];simp only[At.toV,A1.toV,Tt.toT];rw[show ab s1.toS.m r=some (⟨false,[.ow sh u' l],none⟩:Rt).toR from aR hroot];dsimp only[Rt.toR,holed,List.map_cons,List.map_nil,Tt.toT];refine⟨by rw[dR hops'];exact c2,l,x,?_,gR hs,rfl,hcc.1,_,_,?_,?_,hcc.2⟩
       ·have e:(os.map fun x=>(ev s1.toS x).map T.canon)=(os.map (ev s1.toS)).map (AV.map T.canon):=by rw[WZ];rfl
        rw[e,dR hops'];exact c3
       ·refine(bb.S_ext (kE _ _ _) ?_).symm;simp only[List.map_cons]
        congr 1
        have:=dc (aX r) s1.nx (dC s1.m r)
        rw[kz _ _ hn1]at this;exact this
       ·rfl
      ·rintro e' w' ⟨rr,s',av,H',γ',F',q1,⟨t',v',rfl,rfl,q4⟩,q5,q6⟩
       exact .inl ⟨rr,t',v',H',γ',F',q1,q4,q5,q6⟩
     ·exact hcc.elim
    ·exact hcc.elim
   ·exact hcc.elim
  ·exact hcc.elim
end
end Go.Am
end

section
namespace Go.Am
open Go Go.RowKit Go.Proofs
section
variable {P:Program}
theorem xe{f:Nat}{φ:List AV->(AV->Prop)->Prop}(hrun:∀args w,(callFunc f args).run P w=.ok (.enter f args) w)
  (hbody:∀(avs:List AV)(K:AV->Prop)(args:List Value)(w:World)(H:FH)(γ:Gam),φ avs K->args.length=avs.length->(∀(i:Nat)v,avs[i]? = some v->∃y,args[i]? = some y/\AR w H γ [] v y)->Globs H ->
   (∀b o y,H b o=some y->RdV w b o y) ->
   Calls P f args.toArray w (fun e w'=>∃r av H2,e=.returned r/\K av/\Below w.heap.size w w'/\(∀b o y,H b o=some y->H2 b o=some y)/\(∀b o,H2 b o≠none->H b o=none->w.heap.size<=b)/\(∀b o x l c,H2 b o=some (.c (.slice x l c))->H b o=none->Thawed w' b) /\
    (∀b o y,H2 b o=some y->RdV w' b o y)/\av.isFz=true/\AR w' H2 γ [] av r)):Con P f (mQ φ):=by
 refine⟨hrun,fun g s a w H γ F ops k hX hops hK=>?_⟩;unfold mQ at hK;dsimp only at hK;obtain⟨H1,F1,h1⟩:=km (ops.map (ev s)) s H F hX;generalize iQ s (ops.map (ev s))=s1 at hK h1;obtain⟨hfz,hφ⟩:=hK;refine(hbody _ _ (ops.map a.eval) w H1 γ hφ (by simp) (fun i v hi=>?_) (ea h1) h1.mem.agree).mono ?_
 ·rw[WK]at hi;obtain⟨x,hx0,rfl⟩:=WW.1 hi;have hx:=aA h1 (WY.1 hops x (W9 hx0))
  have hz:(ev s1 x).isFz=true:=WY.1 hfz (ev s1 x) (Xg (W9 hx0))
  exact⟨a.eval x,by rw[WK,hx0];rfl,dW ct (l7 (fun _ _ _ h=>h) hz hx)⟩
 ·rintro e w' ⟨r,av,H2,rfl,hk,hb,hh,hn,hnz,hag,hz,har⟩
  have hold:∀b,b<w.heap.size->w'.heap[b]? = w.heap[b]? := hb.block
  have hnew:∀b,b<w.heap.size->H1 b=H2 b:=by
   intro b hb
   funext o
   cases hc:H1 b o with
   |some y=>rw[hh b o y hc]
   |none=>
    cases hc2:H2 b o with
    |none=>rfl
    |some y=>have:=hn b o (by rw[hc2];simp) hc;omega
  have hsame:∀b,tot F1 s1.m b≠0->w'.heap[b]? = w.heap[b]? := fun b hb=>hold b (h1.mem.lt b hb)
  have hKp:=cD (w':=w') h1.mem hsame
  have hmem:Mem w' H2 γ s1.m F1:=by
   refine⟨hag,fun x hx=>aN hKp hh rfl (fun b hb=>hsame b (by have:=aW (F:=F1) hx b;omega)) (h1.mem.roots x hx),h1.mem.keys,h1.mem.le1,fun b hb'=>by have:=h1.mem.lt b hb';have:=hb.size;omega,fun b hb o=>?_⟩;rw[<- hnew b (h1.mem.lt b hb)];exact h1.mem.nofz b hb o
  have hFr:Fr w H1 (tot F1 s1.m) w' H2 (tot F1 s1.m):=
   ⟨hb.size,hb.os,hb.tape,hb.output,fun b hb _=>hold b hb,hh,fun b o h2 h3=>.inr (hn b o h2 h3),fun b hb=>.inl hb,fun b h0=>h0.of_block (hold b h0.lt),hnz⟩
  exact⟨r,s1,av,H2,γ,F1,rfl,hk,l7 (fun _ _ _ h=>h) hz har,fp h1 hmem hFr (fun i=>bV hKp hh (h1.t i)) (fun _=>rfl)⟩
theorem iH{f:Nat}{ps rs:List U}{pre:Fl ps->Prop}{F:Fl ps->Fl rs}(hrun:∀args w,(callFunc f args).run P w=.ok (.enter f args) w)
  (hbody:∀(x:Fl ps)(args:List Value)(w:World)(H:FH)(γ:Gam),pre x->args.length=(eL ps x).length->(∀(i:Nat)v,(eL ps x)[i]? = some v->∃y,args[i]? = some y/\AR w H γ [] v y)->Globs H ->
   (∀b o y,H b o=some y->RdV w b o y) ->
   Calls P f args.toArray w (fun e w'=>∃r H2,e=.returned r/\Below w.heap.size w w'/\(∀b o y,H b o=some y->H2 b o=some y)/\(∀b o,H2 b o≠none->H b o=none->w.heap.size<=b)/\(∀b o x l c,H2 b o=some (.c (.slice x l c))->H b o=none->Thawed w' b) /\
    (∀b o y,H2 b o=some y->RdV w' b o y)/\AR w' H2 γ [] (bL rs (F x)).toV r)):Cont P f (cY ps rs pre F):=
 sg (φ:=fun avs K=>∃x:Fl ps,avs=eL ps x/\pre x/\K (bL rs (F x)).toV) (fun x K hp hk=>⟨x,rfl,hp,hk⟩)
  (xe hrun (fun avs K args w H γ⟨x,hx,hp,hk⟩hl ha hg hag=>by
   subst hx;refine(hbody x args w H γ hp hl ha hg hag).mono ?_;rintro e w' ⟨r,H2,h1,h2,h3,h4,hz,h5,h6⟩
   exact⟨r,_,H2,h1,hk,h2,h3,h4,hz,h5,Jo rs (F x),h6⟩))
theorem gp{f:Nat}{fn:Func}(hf:P.funcs[f]? = some fn) (hname:(fn.name == "runtime.NumGoroutine")=false) (hb:fn.body.isSome=true) (args:Array Value) (w:World):(callFunc f args).run P w=.ok (.enter f args) w:=by
 have h1:fn.name ≠ "runtime.NumGoroutine" := by simpa using hname
 cases hc:fn.body with
 |none=>rw[hc]at hb;cases hb
 |some c=>simp[callFunc,hf,h1,hc]
theorem jh{w:World}{H:FH}{γ:Gam}{l:List UInt8}{y:Value}(h:AR w H γ [] (.one (.c (.d (.str l)))) y):y=.string ⟨l.toArray⟩/\l.length<=BIG:=by
 obtain⟨_,m,h⟩:=h;cases m<;>exact h
theorem Ms{w:World}{H:FH}{γ:Gam}{m:Mm}{l:List UInt8}(h:l.length<=BIG):AR w H γ m (.one (.c (.d (.str l)))) (.string ⟨l.toArray⟩):=⟨fun _=>rfl,0,rfl,h⟩
theorem nw(l:List UInt8):(⟨l.toArray⟩:ByteArray).data.toList=l:=by simp
theorem pM(l:List UInt8):(⟨l.toArray⟩:ByteArray).size=l.length:=by simp[ByteArray.size]
theorem IK{args:List Value}{x y:AV}{w:World}{H:FH}{γ:Gam}(hl:args.length=2)(ha:∀(i:Nat) v,[x,y][i]? = some v->∃y,args[i]? = some y/\AR w H γ [] v y):∃u v,args=[u,v]/\AR w H γ [] x u/\AR w H γ [] y v:=by
 match args,hl with
 |[u,v],_=>
  obtain⟨u',h1,h2⟩:=ha 0 x rfl;obtain⟨v',h3,h4⟩:=ha 1 y rfl;simp only[Xi,Xx,WG]at h1 h3;subst h1;subst h3;exact⟨u,v,rfl,h2,h4⟩
theorem Bx(B:Nat)(w:World)(n:Nat):Below B w (w.drewN n):=⟨rfl,rfl,rfl,WN _,fun _ _=>rfl⟩
theorem x7{w:World}{H:FH}(hg:Globs H)(hag:∀b o y,H b o=some y->RdV w b o y){k:Nat}(hk:RY=some k):∃n,w.cell? ⟨k,0,none⟩=some (.int .i64 n):=by
 obtain⟨n,m,h⟩:=hg.2 k hk;obtain⟨y,h1,h2⟩:=h 0 (by simp);have h2:FD H m (.int .i64 n) y:=h2
 have:y=.int .i64 n:=by cases m<;>exact h2.1
 subst this;exact⟨n,hag k 0 _ h1⟩
end
end Go.Am
end
