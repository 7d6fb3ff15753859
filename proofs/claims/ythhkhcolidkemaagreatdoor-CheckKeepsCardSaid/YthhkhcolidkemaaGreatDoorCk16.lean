/-
  Part 16: AmIt · AmE3i · AmE5 · AmE6 · AmE7 · AmE8 · AmE9 · AmE10 · AmE11 · AmOwnCon · AmE12 · AmLib.
-/
import Derived.Test.YthhkhcolidkemaaGreatDoorCk15
import Derived.Maps.RangeRun
set_option linter.unusedSimpArgs false
set_option linter.unusedVariables false
set_option linter.unusedSectionVars false
set_option linter.unnecessarySimpa false
section
namespace Go.Am
open MapKept
open Go.ChangeMaps (setBlock)
theorem NM{H:FH}:∀{l:List (D×D)}{es:List MapEntry},ItL H l es->l.length=es.length
 |[],[],_=>rfl
 |_::_,_::_,h=>by simp[NM h.2]
 |[],_::_,h=>h.elim
 |_::_,[],h=>h.elim
theorem NL{H:FH}:∀{l:List (D×D)}{es:List MapEntry},ItL H l es->∀{i:Nat}{e:MapEntry},es[i]? = some e->∃x,l[i]? = some x/\x.1.isKey=true/\FDx H x.1 e.key/\FDx H x.2 e.val
 |x::l,e0::es,h,i,e,he=>by
  cases i with
  |zero=>
   obtain rfl:e0=e:=by simpa using he
   exact⟨x,rfl,h.1⟩
  |succ i=>exact NL h.2 (by simpa using he)
 |[],[],_,i,e,he=>by simp at he
 |[],_::_,h,_,_,_=>h.elim
 |_::_,[],h,_,_,_=>h.elim
theorem Bw{H:FH}:∀{l:List (D×D)}{es:List MapEntry},ItL H l es->∀i,ItL H (l.eraseIdx i) (es.eraseIdx i)
 |[],[],_,i=>by simp[ItL]
 |x::l,e::es,h,i=>by
  cases i with
  |zero=>exact h.2
  |succ i=>exact⟨h.1,Bw h.2 i⟩
 |[],_::_,h,_=>h.elim
 |_::_,[],h,_=>h.elim
theorem yB:∀{L:List MapEntry}{i:Nat}{e:MapEntry},(L.map (·.born)).Nodup->L[i]? = some e->L.filter (fun x=>!(x.born==e.born))=L.eraseIdx i
 |[],i,e,_,h=>by simp at h
 |x::L,i,e,hn,h=>by
  simp only[List.map_cons,aeD]at hn;cases i with
  |zero=>
   obtain rfl:x=e:=by simpa using h
   simp only[List.filter_cons,beq_self_eq_true,Bool.not_true,ac4,if_false,List.eraseIdx_cons_zero];refine List.filter_eq_self.2 fun y hy=>?_
   have:y.born≠x.born:=fun e=>hn.1 (e ▸ adO hy)
   simpa using this
  |succ i=>
   have h:L[i]? = some e:=by simpa using h
   have hne:x.born≠e.born:=fun e2=>hn.1 (e2 ▸ adO (adK h))
   simp only[List.filter_cons,List.eraseIdx_cons_succ];rw[if_pos (by simpa using hne),yB hn.2 h]
theorem SG{H:FH}{m:Nat}:∀{l:List (D×D)}{es:List MapEntry},es.length=l.length->(∀(i:Nat)(x:D×D)(y:MapEntry),l[i]? = some x->es[i]? = some y->FD H m x.1 y.key/\FD H m x.2 y.val)->(∀e∈l,e.1.isKey=true)->ItL H l es
 |[],[],_,_,_=>trivial
 |x::l,e::es,hl,h,hk=>by
  have h0:=h 0 x e rfl rfl
  exact⟨⟨hk x (by simp),⟨m,h0.1⟩,m,h0.2⟩,SG (by simpa using hl) (fun i a b ha hb=>h (i+1) a b (by simpa using ha) (by simpa using hb)) (fun a ha=>hk a (by simp[ha]))⟩
 |[],_::_,h,_,_=>by simp at h
 |_::_,[],h,_,_=>by simp at h
section
variable {P:Program} {g:G} {s:S} {a:Act} {w:World} {H:FH} {γ:Gam} {F:Nm->Fp}
theorem SP(h:RX g s a w H γ F){z:Option (List (D×D))}{v:Value}(hv:FDx H (.mp z) v)(hk:∀e∈z.getD [],e.1.isKey=true){n:Nm}(hno:n.isOut=false)(hn:aa s.m n=none){t kt et:TypeId}(ht:P.underlying t=some (.map kt et)) :
  ∃w' γ' F',(Instr.range t v).run P w=.ok (.pointer (some ⟨w.heap.size,0,none⟩)) w'/\RX g ⟨s.t,(n,⟨false,[.it none (z.getD [])]⟩)::s.m⟩ a w' H γ' F'/\γ' n=.gh (.pointer (some ⟨w.heap.size,0,none⟩)):=by
 have main:∀o:Obj,(∃q a c,o=.mapIter q a #[] c/\ItR H none (z.getD []) q a #[] c)->∃γ' F',RX g ⟨s.t,(n,⟨false,[.it none (z.getD [])]⟩)::s.m⟩ a (w.alloc o) H γ' F'/\γ' n=.gh (.pointer (some ⟨w.heap.size,0,none⟩)):=by
  rintro o ⟨q,a',c,rfl,hi⟩
  have hold:∀k,k<w.heap.size->(w.alloc (.mapIter q a' #[] c)).heap[k]? = w.heap[k]? := fun k hk=>bR hk
  have h1:=n9 h (w':=w.alloc (.mapIter q a' #[] c)) (by simp) rfl rfl rfl (fun b hb=>.inl (hold b hb))
  have hz:tot F s.m w.heap.size=0:=by
   rcases adM (tot F s.m w.heap.size)with h'|h'
   ·exact h'
   ·have:=h.mem.lt w.heap.size kQ1;omega
  refine cR h1 hno hn (v:=.pointer (some ⟨w.heap.size,0,none⟩)) (t:=.it none (z.getD [])) (f:=fun b=>if b=w.heap.size then 1 else 0) ⟨w.heap.size,q,a',#[],c,rfl,bq,hi,fun _=>rfl⟩ (fun b=>?_) (fun b hb=>?_) (fun b hb=>?_)
  ·by_cases e:b=w.heap.size
   ·subst e;rw[hz];simp
   ·rw[if_neg e];have:=h.mem.le1 b;omega
  ·have e:b=w.heap.size:=by
    by_cases e:b=w.heap.size
    ·exact e
    ·rw[if_neg e]at hb;exact absurd rfl hb
   subst e;refine⟨by simp,fun o=>?_⟩;cases hc:H w.heap.size o with
   |none=>rfl
   |some y=>have:=(h.mem.agree _ _ _ hc).lt;simp at this
  ·right
   have e:b=w.heap.size:=by
    by_cases e:b=w.heap.size
    ·exact e
    ·rw[if_neg e]at hb;exact absurd rfl hb
   have:=h.fr.size
   omega
 cases z with
 |none=>
  have hv:v=.map none:=by obtain⟨m,hv⟩:=hv;cases m<;>exact hv
  subst hv;obtain⟨γ',F',h1,h2⟩:=main (.mapIter none 0 #[] 0) ⟨_,_,_,rfl,rfl,rfl⟩;exact⟨_,γ',F',by simp[Instr.range,run_underlying ht,Sem.run_bind,Result.andThen,newObj,Sem.run],h1,h2⟩
 |some l=>
  obtain⟨m,hv⟩:=hv;cases m with
  |zero=>exact hv.elim
  |succ m=>
   obtain⟨b,es,ck,rfl,k2,k3,k4⟩:=hv;obtain⟨k5,k6⟩:=h.mem.agree b 0 _ k2;obtain⟨γ',F',h1,h2⟩:=main (.mapIter (some b) ck #[] ck) ⟨_,_,_,rfl,es,ck,k2,rfl,rfl,by rw[List.filter_eq_self.2 (fun e _=>by simp)];exact SG k3 k4 hk,trivial⟩;exact⟨_,γ',F',by simp[Instr.range,run_underlying ht,getObj,k5,Sem.run_bind,Result.andThen,newObj,Sem.run],h1,h2⟩
theorem YH(h:Mem w H γ s.m F){n:Nm}{cur:Option (D×D)}{rest:List (D×D)}(hr:aa s.m n=some ⟨false,[.it cur rest]⟩) :
  ∃r q x y c,γ n=.gh (.pointer (some ⟨r,0,none⟩))/\w.heap[r]? = some (.mapIter q x y c)/\ItR H cur rest q x y c/\∀k,F n k=if k=r then 1 else 0:=by
 have hroot:=h.roots _ (ac hr)
 unfold ba at hroot;dsimp only at hroot;rw[if_neg (by simp)]at hroot;obtain⟨v,t,h1,h2,h3⟩:=hroot;obtain rfl:t=.it cur rest:=by simpa using h2.symm
 obtain⟨r,q,x,y,c,rfl,k2,k3,k4⟩:=h3;exact⟨r,q,x,y,c,h1,k2,k3,k4⟩
theorem Pj(h:RX g s a w H γ F){n:Nm}{cur:Option (D×D)}{rest:List (D×D)}(hr:aa s.m n=some ⟨false,[.it cur rest]⟩)(ty:TypeId) :
  ∃v,γ n=.gh v/\((rest=[]/\(Instr.next v false ty).run P w=.ok (.tuple #[.bool false]) w) \/
   ∃i x ky vl w' F',i<rest.length/\rest[i]? = some x/\(Instr.next v false ty).run P w=.ok (.tuple #[.bool true,ky,vl]) w'/\FDx H x.1 ky/\FDx H x.2 vl /\
    RX g ⟨s.t,bA s.m n ⟨false,[.it (some x) (rest.eraseIdx i)]⟩⟩ a w' H γ F'):=by
 obtain⟨r,q,x,y,c,h1,h2,h3,h4⟩:=YH h.mem hr;refine⟨_,h1,?_⟩;cases q with
 |none=>
  obtain⟨rfl,rfl⟩:=h3;exact .inl ⟨rfl,by simp[Instr.next,getObj,Sem.run_bind,Sem.run,h2,Result.andThen]⟩
 |some b=>
  obtain⟨es,ck,k1,k2,k3,k4,k5⟩:=h3;obtain⟨k6,k7⟩:=h.mem.agree b 0 _ k1;have hst:=(stamped_iff es ck).1 k7
  have hL:(leftOf es y).toList=es.toList.filter fun e=>!y.contains e.born:=by simp[leftOf]
  rcases run_next_at (P:=P) w ty r b x c y es ck h2 k6 (fun e he=>by rw[k2];exact hst.1 e he) kQ1 with⟨h5,h6⟩|⟨e,he,w1,hw1,h6⟩
  ·refine .inl ⟨?_,h6⟩;have:=NM k4
   have h7:(leftOf es y).toList.length=0:=h5
   rw[hL]at h7;exact adZ kQ1
  ·refine .inr ?_;rw[hL]at he;obtain⟨i,hi⟩:=List.getElem?_of_mem he;obtain⟨z,z1,z2,z3,z4⟩:=NL k4 hi;have hil:i<rest.length:=(adV.1 z1).1
   have hbe:w1.heap=w.heap/\w1.os=w.os/\w1.tape=w.tape/\w1.output=w.output:=by rcases hw1 with rfl|rfl<;>exact⟨rfl,rfl,rfl,rfl⟩
   obtain⟨e1,e2,e3,e4⟩:=hbe;have hset:=heap_set (o':=.mapIter (some b) x (y.push e.born) ck) h2
   have htr:tot F s.m r≠0:=by have:=aQ (F:=F) (ac hr) r;have:=h4 r;rw[if_pos rfl]at this;dsimp only at *;omega
   have hbr:b≠r:=fun e=>by subst e;rw[h2]at k6;cases k6
   have hnd:((es.toList.filter fun e=>!y.contains e.born).map (·.born)).Nodup:=(hst.2.1.sublist ((List.filter_sublist (p:=fun e:MapEntry=>!y.contains e.born) (l:=es.toList)).map _))
   have hmem:e∈es.toList:=(afN.1 he).1
   have hfil:es.toList.filter (fun x=>!(y.push e.born).contains x.born)=(es.toList.filter fun e=>!y.contains e.born).eraseIdx i:=by
    rw[<- yB hnd hi,List.filter_filter];refine List.filter_congr fun x _=>?_
    simp only[Array.contains_push];cases y.contains x.born<;>cases hb:(x.born==e.born)<;>simp_all
   refine⟨i,z,e.key,e.val,setBlock w1 r (.mapIter (some b) x (y.push e.born) ck),upd F n (F n),hil,z1,h6,z3,z4,?_⟩;have hheap:(setBlock w1 r (.mapIter (some b) x (y.push e.born) ck)).heap=w.heap.setIfInBounds r (.mapIter (some b) x (y.push e.born) ck):=by show w1.heap.setIfInBounds _ _=_;rw[e1]
   refine SO h rfl rfl hr h1 (f':=F n) ⟨r,some b,x,y.push e.born,ck,rfl,by rw[hheap];exact hset.1,⟨es,ck,k1,k2,rfl,by rw[hfil];exact Bw k4 i,y,e,rfl,hmem,z2,z3,z4⟩,h4⟩ (fun c=>by have:=h.mem.le1 c;omega) (fun c hc=>?_) (by rw[hheap];simp) e2 e3 e4 (fun c hc=>?_) (fun _ _ _ h=>h) (fun b' o y' hy=>(h.mem.agree b' o y' hy).frame ?_) (fun b o h1 h2=>absurd h2 h1) ⟨fun b' h'=>h'.of_block ?_,fun c o x y z h1 h2=>by rw[h2]at h1;cases h1⟩
   ·have:tot F s.m c≠0:=by have:=aQ (F:=F) (ac hr) c;dsimp only at *;omega
    exact⟨h.mem.lt c this,h.mem.nofz c this,h.fr.tt c this⟩
   ·rw[hheap];exact hset.2 c fun e=>by rw[h4,if_pos e]at hc;cases hc
   ·rw[hheap];exact hset.2 b' fun e=>by subst e;rw[h.mem.nofz _ htr o]at hy;cases hy
   ·rw[hheap];refine hset.2 b' fun e=>?_
    subst e;obtain⟨cs,ty,e⟩:=h';rw[h2]at e;cases e
theorem KL(h:RX g s a w H γ F){n:Nm}{x:D×D}{rest:List (D×D)}(hr:aa s.m n=some ⟨false,[.it (some x) rest]⟩) :
  ∃v ky vl,γ n=.gh v/\(Instr.entry v).run P w=.ok (.tuple #[ky,vl]) w/\x.1.isKey=true/\FDx H x.1 ky/\FDx H x.2 vl:=by
 obtain⟨r,q,a',y,c,h1,h2,h3,h4⟩:=YH h.mem hr;cases q with
 |none=>obtain⟨h3,_⟩:=h3;cases h3
 |some b=>
  obtain⟨es,ck,k1,k2,k3,k4,sn,e,rfl,k5,k8,k9,k10⟩:=h3;obtain⟨k6,k7⟩:=h.mem.agree b 0 _ k1;have hst:=(stamped_iff es ck).1 k7
  subst k3;exact⟨_,e.key,e.val,h1,run_entry_at w r b a' sn es c e h2 k6 k5 hst.2.1,k8,k9,k10⟩
theorem RT{m:Mm}{n:Nm}{cur:Option (D×D)}{rest:List (D×D)}{v:Value}(hn:aa m n=some ⟨false,[.it cur rest]⟩)(hg:γ n=.gh v):AR w H γ m (.one (.c (.rf ⟨n,0,[]⟩))) v:=by
 refine⟨fun _=>rfl,?_,?_⟩
 ·rw[bw];exact⟨_,hn,trivial⟩
 ·unfold plV;dsimp only;rw[hg];rfl
end
end Go.Am
end

section
namespace Go.Am
section
variable {P:Program} {g:G} {a:Act} {w:World} {H:FH} {γ:Gam} {F:Nm->Fp} {s:St} {k k':St->Prop}
theorem Mz{t:TypeId}{x:Operand}{d:Tmp}(hk:∀s',Ext s s'->k s'->k' s')(h:u7 P s t x d k):u7 P s t x d k':=by
 unfold u7 at h⊢;dsimp only at h⊢
 (repeat' split at h)<;>first|exact h.elim|exact hk _ ((((fu _ _).trans (bx _ _)).trans (cf _ _ _)).trans (ay _ _ _)) h
theorem Q0{x:At}{d:Option Tmp}(hk:∀s',Ext s s'->k s'->k' s')(h:Cn s x d k):Cn s x d k':=by
 unfold Cn at h⊢;split at h
 ·exact⟨fun e=>hk _ (ay _ _ _) (h.1 e),fun i hi=>hk _ ((rX _ _ _).trans (ay _ _ _)) (h.2 i hi)⟩
 ·exact h.elim
theorem Lp{x:At}{d:Option Tmp}(hk:∀s',Ext s s'->k s'->k' s')(h:pB s x d k):pB s x d k':=by
 unfold pB at h⊢;split at h
 ·exact hk _ (ay _ _ _) h
 ·exact h.elim
theorem IW{x:At}{d:Tmp}(hk:∀s',Ext s s'->k s'->k' s')(h:pJ s x d k):pJ s x d k':=by
 unfold pJ at h⊢
 (repeat' split at h)<;>first|exact h.elim|exact⟨h.1,hk _ (ay _ _ _) h.2⟩
theorem Px{n:Nm}{row:List C}:∀{t:Tt},t.hit (aM n)=false->t.frB n row=t:=by
 intro t h;cases t with
 |pl p=>
  have h:decide (p.root=n)=false:=h
  have h:p.root≠n:=of_decide_eq_false h
  simp only[Tt.frB];split
  ·rw[if_neg h]
  ·simp[Tt.kill,aM,h]
 |rf p=>
  have h:decide (p.root=n)=false:=h
  have h:p.root≠n:=of_decide_eq_false h
  simp[Tt.frB,Tt.kill,aM,h]
 |_=>rfl
theorem Pb(s:St)(n:Nm):Ext s (G7 s n):=by
 unfold G7;split
 ·split
  ·exact⟨ad3 _,rV (·.hit (aM n)) (·.map (Tt.frB n _)) (fun _ h=>tJ Px h) (ac1 _),(lO n).trans (cQ (ac1 _))⟩
  ·exact Ext.refl s
 ·exact Ext.refl s
theorem pg:∀(vs:List At)(s:St),Ext s (qh s vs)
 |[],s=>Ext.refl s
 |v::vs,s0=>by
  unfold qh;split
  ·exact Ext.refl _
  ·rename_i h;cases h;exact(Pb _ _).trans (pg _ _)
  ·rename_i h;cases h;exact pg _ _
theorem AJ{f:Nat}{caps:List Operand}{d:Option Tmp}(hk:∀s',Ext s s'->k s'->k' s')(h:jA s f caps d k):jA s f caps d k':=by
 unfold jA at h⊢;dsimp only at h⊢;split at h
 ·exact hk _ ((pg _ _).trans (ay _ _ _)) h
 ·exact h.elim
theorem WW{ku vu:U}(h1:leaf ku=true)(h2:leaf vu=true)(z:Option (List (El ku×El vu))):(C.mp ku vu z).toD=.mp (z.map fun l=>l.map (p8 ku vu)):=by
 show D.mp _=D.mp _
 congr 1
 cases z with
 |none=>rfl
 |some l=>
  show some _=some _
  congr 1
  refine adG fun x _=>?_
  show((al ku x.1).headD .any,(al vu x.2).headD .any)=_
  rw[im h1,im h2];rfl
theorem Rd{t:TypeId}{x:Operand}{d:Tmp}(hX:RX g s.toS a w H γ F)(hd:okD g.nt (some d)=true)(hx:aw x=true)(h:u7 P s t x d k) :
  ∃t' y w' H' γ' F',(Instr.range t (a.eval x)).run P w=.ok y w'/\k t'/\RX g t'.toS (a.put (some d) y) w' H' γ' F':=by
 unfold u7 at h;dsimp only at h;obtain⟨H1,F1,h1⟩:=fw hX (evA s x);generalize ef s (evA s x)=s1 at h h1;split at h
 ·rename_i kt et ht;split at h
  ·rename_i ku vu z hv;split at h
   ·rename_i hc;simp only[acX]at hc;obtain⟨_,td,_,hu,htd,_⟩:=aR ht (by simp);obtain rfl:=qx htd;have h2:=bV h1 (.gh d)
    rw[<- br (d9 h1)]at h2;have h3:=aA h2 hx
    rw[ae hx,hv]at h3;have h4:FDx H1 (.mp (z.map fun l=>l.map (p8 ku vu))) (a.eval x):=by rw[<- WW (zg hc.1) hc.2];exact h3.2
    have hn:=bG h1 (.gh d)
    rw[<- br (d9 h1)]at hn;obtain⟨w',γ',F',e1,e2,e3⟩:=SP (P:=P) h2 h4 (fun e he=>by
     cases z with
     |none=>cases he
     |some l=>
      obtain⟨y,_,rfl⟩:=adR.1 (show e∈l.map (p8 ku vu)from he);exact nf (eE hc.1 y.1)) (n:=.gh d) rfl hn hu
    refine⟨_,_,w',H1,γ',F',e1,h,?_⟩;have ez:(z.map fun l=>l.map (p8 ku vu)).getD []=(z.getD []).map (p8 ku vu):=by cases z<;>rfl
    rw[ez]at e2;have e:((s1.fresh (.gh d)).root (.gh d) ⟨false,[.it ku vu none (z.getD [])],none⟩).toS=⟨(s1.fresh (.gh d)).toS.t,(.gh d,⟨false,[.it none ((z.getD []).map (p8 ku vu))]⟩)::(s1.fresh (.gh d)).toS.m⟩:=rfl
    rw[<- e]at e2;refine aV (aD _ (some d) (.one (.c (.rf ⟨.gh d,0,[]⟩)))) (e2.put hd ?_);exact RT (cur:=none) (rest:=(z.getD []).map (p8 ku vu)) (by rw[e];simp[aa]) e3
   ·exact h.elim
  ·exact h.elim
 ·exact h.elim
theorem OG{x:At}{n:Nm}{ku vu:U}{cur:Option (El ku×El vu)}{rest:List (El ku×El vu)}(h:Xe s.m x=some (n,⟨ku,vu,cur,rest⟩)) :
  x=.one (.c (.rf ⟨n,0,[]⟩))/\aa s.toS.m n=some ⟨false,[.it (cur.map (p8 ku vu)) (rest.map (p8 ku vu))]⟩:=by
 unfold Xe at h;split at h
 ·split at h
  ·rename_i hr;cases h;exact⟨rfl,aP hr⟩
  ·cases h
 ·cases h
theorem YI{n:Nm}{v y:Value}{m:Mm}(hg:γ n=.gh v)(h:AR w H γ m (.one (.c (.rf ⟨n,0,[]⟩))) y):y=v:=by
 obtain⟨_,_,hv⟩:=h;unfold plV at hv;dsimp only at hv;rw[hg]at hv;exact(Option.some.inj hv).symm
theorem UP{x:At}{d:Option Tmp}(hX:RX g s.toS a w H γ F)(hd:okD g.nt d=true){y:Value}(hy:AR w H γ s.toS.m x.toV y)(ty:TypeId)(h:Cn s x d k) :
  ∃t' z w' F',(Instr.next y false ty).run P w=.ok z w'/\k t'/\RX g t'.toS (a.put d z) w' H γ F':=by
 unfold Cn at h;split at h
 ·rename_i n ku vu cur rest hi;obtain⟨rfl,hr⟩:=OG hi;obtain⟨v,hg,hnx⟩:=Pj (P:=P) hX hr ty;obtain rfl:=YI hg hy;rcases hnx with⟨h1,h2⟩|⟨i,e,ky,vl,w',F',h1,h2,h3,h4,h5,h6⟩
  ·refine⟨_,_,w,F,h2,h.1 (List.map_eq_nil_iff.1 h1),aV (aD _ _ _) (hX.put hd ?_)⟩;exact⟨_,rfl,⟨fun _=>rfl,0,rfl⟩,trivial⟩
  ·have hil:i<rest.length:=by simpa using h1
   refine⟨_,_,w',F',h3,h.2 i hil,?_⟩;have ee:e=p8 ku vu (rest.getD i (dflt ku,dflt vu)):=by
    rw[acZ,acW hil]at h2;rw[List.getD,acW hil];exact(Option.some.inj h2).symm
   have e2:(⟨s.nx+1,s.t,cu s.m n s.nx ⟨false,[.it ku vu (some (rest.getD i (dflt ku,dflt vu))) (rest.eraseIdx i)],none⟩⟩:St).toS=⟨s.toS.t,bA s.toS.m n ⟨false,[.it (some e) ((rest.map (p8 ku vu)).eraseIdx i)]⟩⟩:=by
    rw[ee,<- Go.ChangeMaps.map_eraseIdx];show(⟨_,toM (cu s.m n s.nx _)⟩:S)=_
    rw[dO];rfl
   rw[<- e2]at h6;refine aV (aD _ _ _) (h6.put hd ?_);rw[ee]at h4 h5;exact⟨_,rfl,⟨fun _=>rfl,0,rfl⟩,⟨fun _=>rfl,h4⟩,⟨fun _=>rfl,h5⟩,trivial⟩
 ·exact h.elim
theorem Qm{x:At}{d:Option Tmp}(hX:RX g s.toS a w H γ F)(hd:okD g.nt d=true){y:Value}(hy:AR w H γ s.toS.m x.toV y)(h:pB s x d k) :
  ∃t' z,(Instr.entry y).run P w=.ok z w/\k t'/\RX g t'.toS (a.put d z) w H γ F:=by
 unfold pB at h;split at h
 ·rename_i n ku vu e rest hi;obtain⟨rfl,hr⟩:=OG hi;obtain⟨v,ky,vl,hg,h1,_,h2,h3⟩:=KL (P:=P) hX hr;obtain rfl:=YI hg hy;exact⟨_,_,h1,h,aV (aD _ _ _) (hX.put hd ⟨_,rfl,⟨fun _=>rfl,h2⟩,⟨fun _=>rfl,h3⟩,trivial⟩)⟩
 ·exact h.elim
theorem zL{t tt:TypeId}{kt et:TypeId}{b:Nat}{es:Array MapEntry}{ck:Nat}(hu:P.underlying t=some (.map kt et))(hb:w.heap[b]? = some (.map es ck)) :
  (Builtin.len_ #[t] tt #[.map (some b)]).run P w=.ok (.int .i64 (es.size:Int)) w:=by
 simp[Builtin.len_,run_underlying hu,getObj,Sem.run,Sem.run_bind,hb,Result.andThen,goInt]
theorem Jm{t tt:TypeId}{kt et:TypeId}(hu:P.underlying t=some (.map kt et)) :
  (Builtin.len_ #[t] tt #[.map none]).run P w=.ok (.int .i64 0) w:=by
 simp[Builtin.len_,run_underlying hu,Sem.run,Sem.run_bind,Result.andThen,goInt]
theorem NO{w:World}{H:FH}:∀{l:List (D×Sh×D)}{es:List MapEntry}{f:Fp},MpO w H l es f->l.length=es.length
 |[],[],_,_=>rfl
 |_::_,_::_,_,h=>by obtain⟨_,f1,f2,k,_,_,h⟩:=h;simp[NO h]
 |[],_::_,_,h=>h.elim
 |_::_,[],_,h=>h.elim
theorem L6{x:At}{d:Tmp}(hX:RX g s.toS a w H γ F)(hd:okD g.nt (some d)=true){y:Value}(hy:AR w H γ s.toS.m x.toV y){t tt:TypeId}{kt et:TypeId}(ht:(ty P t).k=.mp kt et)(h:pJ s x d k) :
  ∃t' z,(Builtin.len_ #[t] tt #[y]).run P w=.ok z w/\k t'/\RX g t'.toS (a.put (some d) z) w H γ F:=by
 obtain⟨_,td,_,hu,htd,_⟩:=aR ht (by simp);obtain rfl:=qx htd;have big:∀n:Nat,n<=4611686018427387904->(Lit.int .i64 (n:Int)).wf=true:=fun n h=>Ai (by unfold BIG;omega)
 unfold pJ at h;split at h
 ·rename_i ku vu z;have hd2:FDx H (.mp (z.map fun l=>l.map fun x=>((al ku x.1).headD .any,(al vu x.2).headD .any))) y:=hy.2
  cases z with
  |none=>
   have hy0:y=.map none:=by obtain⟨m,hd2⟩:=hd2;cases m<;>exact hd2
   subst hy0;exact⟨_,_,Jm hu,h.2,aV (aD _ _ _) (hX.put hd ⟨fun _=>rfl,0,rfl,big 0 kQ1⟩)⟩
  |some l=>
   obtain⟨m,hd2⟩:=hd2;cases m with
   |zero=>exact hd2.elim
   |succ m=>
    obtain⟨b,es,ck,rfl,k2,k3,k4⟩:=hd2;obtain⟨k5,k6⟩:=hX.mem.agree b 0 _ k2;have e:es.size=l.length:=by rw[acY]at k3;exact k3
    exact⟨_,_,zL hu k5,h.2,aV (aD _ _ _) (hX.put hd ⟨fun _=>rfl,0,by rw[e];rfl,big _ h.1⟩)⟩
 ·rename_i p;split at h
  ·rename_i ku vu l hm;obtain⟨n,rfl,hr⟩:=pH hm;obtain⟨b,es,ck,f,rfl,_,c2,c3,c4,_⟩:=rD hX hr hy;have e:es.size=l.length:=by have:=NO c4;rw[acY]at this;exact this.symm
   exact⟨_,_,zL hu c2,h.2,aV (aD _ _ _) (hX.put hd ⟨fun _=>rfl,0,by rw[e],big _ h.1⟩)⟩
  ·exact h.elim
 ·exact h.elim
theorem Vw:∀{cells:List Tt}{row:List C},tdC cells=some row->(cells.map Tt.toT).all T.isD=true/\(cells.map Tt.toT).map T.toD=row.map C.toD
 |[],row,h=>by cases h;exact⟨rfl,rfl⟩
 |t::ts,row,h=>by
  cases t with
  |d c=>
   have h':∃r,tdC ts=some r/\row=c::r:=by
    cases c with
    |any=>cases h
    |_=>obtain⟨r,h1,h2⟩:=adA.1 h;exact⟨r,h1,h2.symm⟩
   obtain⟨r,h1,rfl⟩:=h';obtain⟨k1,k2⟩:=Vw h1;exact⟨by simp only[List.map_cons,adE,k1];rfl,by simp only[List.map_cons,k2];rfl⟩
  |_=>simp[tdC]at h
theorem KV(n:Nm)(row:List C)(t:Tt):(t.frB n row).toT=t.toT.frB n (row.map C.toD):=by
 cases t with
 |pl p=>
  obtain⟨r,o,path⟩:=p;cases path with
  |nil=>
   show(if r=n then Tt.el row o else Tt.pl ⟨r,o,[]⟩).toT=if r=n then T.el (row.map C.toD) o else T.pl ⟨r,o,[]⟩
   by_cases e:r=n
   ·rw[if_pos e,if_pos e];rfl
   ·rw[if_neg e,if_neg e];rfl
  |cons st u=>exact da (aM n) (.pl ⟨r,o,st::u⟩)
 |rf p=>exact da (aM n) (.rf p)
 |_=>rfl
theorem Pq(h:RX g s.toS a w H γ F)(n:Nm):∃H',RX g (G7 s n).toS a w H' γ F:=by
 unfold G7;split
 ·rename_i cells hr;split
  ·rename_i row hrow;obtain⟨h1,h2⟩:=Vw hrow;obtain⟨H',h'⟩:=V6 h n;refine⟨H',?_⟩;have eg:aa s.toS.m n=some ⟨true,cells.map Tt.toT⟩:=aP hr
   have e:s.toS.frzB n=(⟨s.nx+1,s.t.map fun x=>(x.1,stp (x.2.2.hit (aM n)) s.nx x.2.1,x.2.2.map (Tt.frB n row)),bH (aM n) s.nx (dq s.m n)⟩:St).toS:=by
    unfold S.frzB;rw[eg];dsimp only;rw[if_pos h1,h2];refine aY.S_ext ?_ ?_
    ·simp only[St.toS,ri,adD];exact adG fun x _=>by simp only[Function.comp,qy (KV n row)]
    ·have h3:=cN (aM n) s.nx (dq s.m n)
     rw[jV n s.m (d9 h)]at h3;exact h3.symm
   rw[<- e];exact h'
  ·exact⟨H,h⟩
 ·exact⟨H,h⟩
theorem pq:∀(vs:List At)(s:St)(H:FH),RX g s.toS a w H γ F->∃H',RX g (qh s vs).toS a w H' γ F
 |[],s,H,h=>⟨H,h⟩
 |v::vs,s0,H,h=>by
  unfold qh;split
  ·exact⟨H,h⟩
  ·rename_i e;cases e;obtain⟨H1,h1⟩:=Pq h _;exact pq _ _ H1 h1
  ·rename_i e;cases e;exact pq _ _ H h
theorem yt{row:List C}{c:Lt.Cap}:∀{l:List Sn},GJ row l=some c->row=flat (.st (Du c).1) (Du c).2/\c.enc=row.map C.toD
 |[],h=>by cases h
 |n::r,h=>by
  unfold GJ at h;split at h
  ·rename_i x hx;split at h
   ·rename_i c' hc;cases h;obtain⟨h1,h2⟩:=WR hc;have h3:=vg hx
    refine⟨by rw[h1];exact h3,?_⟩;rw[h2,h3,bm];rfl
   ·exact yt h
  ·exact yt h
theorem BT(hX:RX g s.toS a w H γ F):∀{ops:List Operand}{cs:List Lt.Cap},ops.all aw=true->Dv s ops=some cs->cs.length=ops.length/\∃m,∀(i:Nat)(row:List D)(y:Value),(cs.map Lt.Cap.enc)[i]? = some row->(ops.map a.eval)[i]? = some y ->
   ∃b o,y=.pointer (some ⟨b,o,none⟩)/\∀j,j<row.length->∃z:Value,H b (o+j)=some z/\FD H m (row.getD j default) z
 |[],cs,_,h=>by cases h;exact⟨rfl,0,fun i row y h=>by simp at h⟩
 |x::ops,cs,ho,h=>by
  simp only[adE,acX]at ho;unfold Dv at h;split at h
  ·rename_i row hv;split at h
   ·rename_i c cs' hc hcs;cases h;obtain⟨h1,m1,h2⟩:=BT hX ho.2 hcs;have h3:=aA hX ho.1
    rw[ae ho.1,hv]at h3;obtain⟨_,b,o,m2,h4,h5⟩:=h3;obtain⟨_,h6⟩:=yt hc;refine⟨by simp[h1],m1+m2,fun i row' y hi hy=>?_⟩;have mono:=fun{m:Nat}(hm:m<=m1+m2){d:D}{v:Value}(h:FD H m d v)=>eM (fun _ _ _ h=>h) m (m1+m2) d v hm h
    cases i with
    |zero=>
     have hi:c.enc=row':=by simpa using hi
     have hy:a.eval x=y:=by simpa using hy
     subst hi hy;rw[h6];refine⟨b,o,h4,fun j hj=>?_⟩;obtain⟨z,hz,hf⟩:=h5 j hj;exact⟨z,hz,mono kQ1 hf⟩
    |succ i=>
     obtain⟨b',o',k1,k2⟩:=h2 i row' y (by simpa using hi) (by simpa using hy);refine⟨b',o',k1,fun j hj=>?_⟩;obtain⟨z,hz,hf⟩:=k2 j hj;exact⟨z,hz,mono kQ1 hf⟩
   ·cases h
  ·cases h
theorem DW{f:Nat}{caps:List Operand}{d:Option Tmp}(hX:RX g s.toS a w H γ F)(hd:okD g.nt d=true)(hc:caps.all aw=true)(h:jA s f caps d k) :
  ∃t' H',k t'/\RX g t'.toS (a.put d (.func (.func f) #[] (caps.map a.eval).toArray)) w H' γ F:=by
 unfold jA at h;dsimp only at h;obtain⟨H1,h1⟩:=pq (caps.map (evA s)) s H hX;generalize qh s (caps.map (evA s))=s1 at h h1;split at h
 ·rename_i cs hcs;obtain⟨k1,m,k2⟩:=BT h1 hc hcs;refine⟨_,H1,h,aV (aD _ _ _) (h1.put hd ⟨fun _=>rfl,m+1,caps.map a.eval,rfl,?_,k2⟩)⟩;simp[k1]
 ·exact h.elim
end
abbrev chn(v:Value):List PanicEntry:=[{ v,recovered:=false }]
def fQ(g:G)(a:Act)(pk:PKt)(k:St->At->Prop)(e:Ending)(w':World):Prop:=
 (∃r s' av H' γ' F',e=.returned r/\k s' av/\AR w' H' γ' (toM s'.m) av.toV r/\RX g s'.toS a w' H' γ' F') \/
 ∃v s',e=.panicked (chn v)/\pk v s'/\R g s'.toS a w'
structure Cont (P:Program) (f:Nat) (C:CKt):Prop where
 run:∀args w,(callFunc f args).run P w=.ok (.enter f args) w
 ext:∀(pk:PKt)(s:St)(ops:List Operand)(k k':St->At->Prop),(∀s' v,Ext s s'->k s' v->k' s' v)->C pk s ops k->C pk s ops k'
 call:∀(g:G)(pk:PKt)(s:St)(a:Act)(w:World)(H:FH)(γ:Gam)(F:Nm->Fp)(ops:List Operand)(k:St->At->Prop),RX g s.toS a w H γ F->ops.all aw=true->C pk s ops k ->
  Calls P f (ops.map a.eval).toArray w (fQ g a pk k)
structure ContC (P:Program) (key:Nat) (C:CKt):Prop where
 big:1000000<=key
 run:∀args w,(callFunc (key - 1000000) args).run P w=.ok (.enter (key - 1000000) args) w
 ext:∀(pk:PKt)(s:St)(ops:List Operand)(k k':St->At->Prop),(∀s' v,Ext s s'->k s' v->k' s' v)->C pk s ops k->C pk s ops k'
 call:∀(g:G)(pk:PKt)(s:St)(a:Act)(w:World)(H:FH)(γ:Gam)(F:Nm->Fp)(t:Tmp)(ops:List Operand)(k:St->At->Prop)(ps:Array Value),RX g s.toS a w H γ F->ops.all aw=true->t<TB->a.tmps.getD t undef=.func (.func (key - 1000000)) #[] ps->C pk s (.tmp t::ops) k ->
  Calls P (key - 1000000) ((ops.map a.eval).toArray++ps) w (fQ g a pk k)
def En.ok(e:En):Prop:=∀x∈e.cs,(Nat.blt x.1 1000000=true->Cont e.P x.1 x.2)/\(1000000<=x.1->ContC e.P x.1 x.2)
theorem En.ok_get'{e:En}(h:e.ok){f:Nat}{C:CKt}(hg:e.cs.get f=some C):(Nat.blt f 1000000=true->Cont e.P f C)/\(1000000<=f->ContC e.P f C):=by
 have:∀cs:CTt,(∀x∈cs,(Nat.blt x.1 1000000=true->Cont e.P x.1 x.2)/\(1000000<=x.1->ContC e.P x.1 x.2))->cs.get f=some C->(Nat.blt f 1000000=true->Cont e.P f C)/\(1000000<=f->ContC e.P f C):=by
  intro cs;induction cs with
  |nil=>intro _ h;cases h
  |cons x cs ih=>
   obtain⟨f',C'⟩:=x;intro h hg2;simp only[CTt.get]at hg2;split at hg2
   ·rename_i hb;have:=ac7 hb
    subst this;have hg':C'=C:=by simpa using hg2
    subst hg';exact h (f',C') (by simp)
   ·exact ih (fun y hy=>h y (adB _ hy)) hg2
 exact this e.cs h hg
theorem En.ok_get{e:En}(h:e.ok){f:Nat}{C:CKt}(hg:e.cs.get f=some C)(hf:Nat.blt f 1000000=true):Cont e.P f C:=(En.ok_get' h hg).1 hf
theorem Qi{v:At}{key:Nat}(h:BY v=some key):1000000<=key:=by
 unfold BY at h;split at h
 ·simp only[acV]at h;omega
 ·cases h
section
variable {k k':At->Prop}
theorem Ml{c x y:At}(hk:∀v,k v->k' v)(h:vQ c x y k):vQ c x y k':=by
 unfold vQ at h⊢
 (repeat' split at h)<;>first|exact h.elim|exact hk _ h|exact⟨h.1,hk _ h.2⟩|(simp_all;done)
theorem Q2{op:BinOp}{κ:IntKind}{a b:Int}{K K':C->Prop}(hk:∀v,K v->K' v)(h:Mc op κ a b K):Mc op κ a b K':=by
 unfold Mc at h⊢;cases op<;>first|exact hk _ h|exact⟨h.1,hk _ h.2⟩
theorem PL{op:BinOp}{x y:C}{K K':C->Prop}(hk:∀v,K v->K' v)(h:Al op x y K):Al op x y K':=by
 unfold Al at h⊢;split at h
 ·split at h<;>first|exact h.elim|exact hk _ h|exact⟨h.1,hk _ h.2⟩
 ·split at h
  ·split at h
   ·rename_i hc;rw[if_pos hc];exact Q2 hk h
   ·exact h.elim
  ·exact h.elim
theorem PM{P:Program}{op:BinOp}{t:TypeId}{x y:At}(hk:∀v,k v->k' v)(h:Gt P op t x y k):Gt P op t x y k':=by
 unfold Gt at h⊢
 (repeat' split at h)<;>first|exact h.elim|exact hk _ h|exact⟨h.1,hk _ h.2⟩|exact PL (fun v hv=>hk _ hv) h|(simp_all;done)
theorem VA{op:UnOp}{x:At}(hk:∀v,k v->k' v)(h:unT op x k):unT op x k':=by
 unfold unT at h⊢
 (repeat' split at h)<;>first|exact h.elim|exact hk _ h|exact⟨h.1,hk _ h.2⟩|(simp_all;done)
theorem Ar{x:At}{i:Nat}(hk:∀v,k v->k' v)(h:iq x i k):iq x i k':=by
 unfold iq at h⊢
 (repeat' split at h)<;>first|exact h.elim|exact hk _ h|exact⟨h.1,hk _ h.2⟩|(simp_all;done)
theorem Jv{x i:At}(hk:∀v,k v->k' v)(h:o5 x i k):o5 x i k':=by
 unfold o5 at h⊢
 (repeat' split at h)<;>first|exact h.elim|exact hk _ h|exact⟨h.1,hk _ h.2⟩|(simp_all;done)
theorem fy{y:Option At}{d:Nat}{k1 k2:Nat->Prop}(hk:∀n,k1 n->k2 n)(hb:ew y d k1):ew y d k2:=by
 unfold ew at hb⊢;split at hb
 ·exact hk _ hb
 ·exact⟨hb.1,hk _ hb.2⟩
 ·exact hb.elim
theorem Jt{P:Program}{t:TypeId}{x:At}{lo hi:Option At}(hk:∀v,k v->k' v)(h:oY P t x lo hi k):oY P t x lo hi k':=by
 unfold oY at h⊢;split at h
 ·split at h
  ·exact fy (fun a ha=>fy (fun b hb=>⟨hb.1,hk _ hb.2⟩) ha) h
  ·exact h.elim
 ·split at h
  ·skip
   split at h
   ·exact fy (fun a ha=>fy (fun b hb=>⟨hb.1,hk _ hb.2⟩) ha) h
   ·exact h.elim
  ·exact h.elim
 ·split at h
  ·skip
   split at h
   ·exact fy (fun a ha=>fy (fun b hb=>⟨hb.1,hb.2.1,hk _ hb.2.2⟩) ha) h
   ·exact h.elim
  ·exact h.elim
 ·exact h.elim
theorem wo{P:Program}{m:List (Nm×Nat×Rt)}{t:TypeId}{x:At}{i:Nat}(hk:∀v,k v->k' v)(h:dK P m t x i k):dK P m t x i k':=by
 unfold dK at h⊢;split at h
 ·skip
  split at h
  ·skip
   split at h
   ·split at h
    ·exact hk _ h
    ·exact h.elim
   ·exact hk _ h
   ·exact h.elim
  ·exact h.elim
 ·exact h.elim
theorem nC{P:Program}{m:List (Nm×Nat×Rt)}{t:TypeId}{x i:At}(hk:∀v,k v->k' v)(h:dk P m t x i k):dk P m t x i k':=by
 unfold dk at h⊢;split at h
 ·split at h
  ·skip
   split at h
   ·split at h
    ·exact⟨h.1,hk _ h.2⟩
    ·exact h.elim
   ·split at h
    ·skip
     split at h
     ·skip
      split at h
      ·exact⟨h.1,hk _ h.2⟩
      ·exact h.elim
     ·exact h.elim
    ·exact h.elim
   ·exact h.elim
  ·skip
   split at h
   ·split at h
    ·exact⟨h.1,hk _ h.2⟩
    ·exact h.elim
   ·split at h
    ·exact⟨h.1,hk _ h.2⟩
    ·exact h.elim
   ·exact h.elim
  ·exact h.elim
 ·exact h.elim
theorem LZ{P:Program}{m:List (Nm×Nat×Rt)}{t:TypeId}{x:At}(hk:∀v,k v->k' v)(h:j8 P m t x k):j8 P m t x k':=by
 unfold j8 at h⊢;split at h
 ·skip
  split at h
  ·split at h
   ·skip
    split at h
    ·exact hk _ h
    ·exact h.elim
   ·skip
    split at h
    ·exact hk _ h
    ·exact h.elim
  ·split at h
   ·exact⟨h.1,hk _ h.2⟩
   ·exact h.elim
  ·split at h
   ·skip
    split at h
    ·exact hk _ h
    ·exact h.elim
   ·skip
    split at h
    ·exact hk _ h
    ·exact h.elim
  ·exact h.elim
 ·exact h.elim
theorem GW{P:Program}{t:TypeId}{x:At}{i:Nat}(hk:∀v,k v->k' v)(h:oB P t x i k):oB P t x i k':=by
 unfold oB at h⊢;split at h
 ·skip
  split at h
  ·skip
   split at h
   ·exact hk _ h
   ·exact h.elim
  ·skip
   split at h
   ·exact hk _ h
   ·exact h.elim
  ·exact h.elim
 ·exact h.elim
theorem za{x:At}(hk:∀v,k v->k' v)(h:fD x k):fD x k':=by
 unfold fD at h⊢;split at h
 ·exact hk _ h
 ·exact hk _ h
 ·exact hk _ h
 ·exact h.elim
theorem Gx{P:Program}{t:TypeId}{ps:List (Nat×At)}(hk:∀v,k v->k' v)(h:ou P t ps k):ou P t ps k':=by
 unfold ou at h⊢;split at h
 ·skip
  split at h
  ·exact hk _ h
  ·exact h.elim
 ·exact h.elim
theorem Lm{P:Program}{su du:TypeId}{x:At}(hk:∀v,k v->k' v)(h:vH P su du x k):vH P su du x k':=by
 unfold vH at h⊢;split at h
 ·skip
  split at h
  ·split at h
   ·exact hk _ h
   ·exact h.elim
  ·exact h.elim
 ·skip
  split at h
  ·skip
   split at h
   ·exact hk _ h
   ·exact hk _ h
   ·exact h.elim
  ·exact h.elim
 ·exact h.elim
theorem Es{e:En}{o:Oper}{s:St}(hk:∀v,k v->k' v)(h:qT e o s k):qT e o s k':=by
 unfold qT at h⊢;cases ho:o.op with
 |move x=>rw[ho]at h;exact hk _ h
 |assign x=>rw[ho]at h;exact hk _ h
 |pick c x y=>rw[ho]at h;exact Ml hk h
 |binOp op t x y z=>rw[ho]at h;exact PM hk h
 |unOp op t x=>rw[ho]at h;exact VA hk h
 |load t x=>rw[ho]at h;exact LZ hk h
 |field t x i=>rw[ho]at h;exact GW hk h
 |fieldAddr t x i=>rw[ho]at h;exact wo hk h
 |indexAddr t x i=>rw[ho]at h;exact nC hk h
 |index t x i=>
  rw[ho]at h;dsimp only at h⊢;split at h
  ·exact Jv hk h
  ·exact h.elim
 |extract x i=>rw[ho]at h;exact Ar hk h
 |convert su du x=>rw[ho]at h;exact Lm hk h
 |slice t x lo hi mx=>
  rw[ho]at h;cases mx with
  |some _=>exact h.elim
  |none=>exact Jt hk h
 |nilCheck x=>rw[ho]at h;exact za hk h
 |build t ps=>rw[ho]at h;exact Gx hk h
 |call c=>
  rw[ho]at h;dsimp only at h⊢;split at h
  ·skip
   split at h
   ·exact Ch (fun n hn=>hk _ hn) h
   ·exact h.elim
  ·exact h.elim
 |_=>rw[ho]at h;exact h.elim
end
section
variable {k k':St->Prop} {s:St}
theorem KZ{P:Program}{t:TypeId}{d:Tmp}(hk:∀s',Ext s s'->k s'->k' s')(h:og P s t d k):og P s t d k':=by
 unfold og at h⊢;split at h
 ·skip
  split at h
  ·exact hk _ (((bx _ _).trans (cf _ _ _)).trans (ay _ _ _)) h
  ·exact h.elim
 ·exact h.elim
theorem Tm{x:Operand}{d:Tmp}(hk:∀s',Ext s s'->k s'->k' s')(h:Gw s x d k):Gw s x d k':=by
 unfold Gw at h⊢;split at h
 ·skip
  split at h
  ·exact hk _ (((bx _ _).trans (cf _ _ _)).trans (ay _ _ _)) h
  ·exact h.elim
 ·exact h.elim
theorem wm{P:Program}{E:Ut}{t:TypeId}{n:Nat}{ps:Array (Nat×Operand)}{d:Tmp}(hk:∀s',Ext s s'->k s'->k' s')(h:db P E s t n ps d k):db P E s t n ps d k':=by
 unfold db at h⊢;split at h
 ·skip
  split at h
  ·skip
   split at h
   ·skip
    dsimp only at h⊢;split at h
    ·skip
     split at h
     ·skip
      exact hk _ ((((bE _ _).trans (bx _ _)).trans (cf _ _ _)).trans (ay _ _ _)) h
     ·exact h.elim
    ·exact h.elim
   ·exact h.elim
  ·exact h.elim
 ·exact h.elim
theorem zy{p:Pl}{t:Tt}(hk:∀s',Ext s s'->k s'->k' s')(h:AQ s p t k):AQ s p t k':=by
 unfold AQ at h⊢;split at h
 ·exact h.elim
 ·skip
  split at h
  ·skip
   split at h
   ·exact hk _ ⟨ad3 _,fun _ _ _ h _=>h,cx _ _ (ac1 _) _⟩ h
   ·exact h.elim
  ·skip
   split at h
   ·exact pO (hk _ ⟨ad3 _,fun _ _ _ h _=>h,cx _ _ (ac1 _) _⟩) h
   ·exact h.elim
  ·skip
   split at h
   ·skip
    split at h
    ·exact pO (vJ (hk _ ⟨ad3 _,fun _ _ _ h _=>h,cx _ _ (ac1 _) _⟩)) h
    ·exact h.elim
   ·exact h.elim
  ·exact h.elim
theorem ll:∀{ts:List Tt}{s:St}{p:Pl},(∀s',Ext s s'->k s'->k' s')->fZ s p ts k->fZ s p ts k'
 |[],s,p,hk,h=>hk _ (Ext.refl s) h
 |t::ts,s,p,hk,h=>by
  cases t with
  |rf q=>
   simp only[fZ]at h⊢;split at h
   ·skip
    split at h
    ·skip
     exact zy (fun s' he hs'=>ll (fun s'' he'=>hk s'' (((rW _ _).trans he).trans he')) hs') h
    ·exact h.elim
   ·exact h.elim
  |any=>exact h.elim
  |d c=>cases c with
   |any=>exact h.elim
   |_=>exact zy (fun s' he hs'=>ll (fun s'' he'=>hk s'' (he.trans he')) hs') h
  |_=>exact zy (fun s' he hs'=>ll (fun s'' he'=>hk s'' (he.trans he')) hs') h
theorem I9{p:Pl}{ts:List Tt}(hk:∀s',Ext s s'->k s'->k' s')(h:lh s p ts k):lh s p ts k':=by
 unfold lh at h⊢;split at h
 ·exact h.elim
 ·skip
  split at h
  ·skip
   split at h
   ·exact pO (hk _ ⟨ad3 _,fun _ _ _ h _=>h,cx _ _ (ac1 _) _⟩) h
   ·exact h.elim
  ·exact h.elim
theorem MJ{P:Program}{t:TypeId}{x v:At}(hk:∀s',Ext s s'->k s'->k' s')(h:oZ P s t x v k):oZ P s t x v k':=by
 unfold oZ at h⊢;split at h
 ·skip
  split at h
  ·skip
   split at h
   ·exact I9 hk h
   ·exact ll hk h
  ·exact h.elim
 ·exact h.elim
theorem gy{u:U}{v:At}{s':St}{sub:List Sh}{l:List (El u)}(h:jR s u v=some (s',sub,l)):Ext s s':=by
 unfold jR at h;split at h
 ·simp only[acV,Prod.mk.injEq]at h;obtain⟨rfl,_⟩:=h;exact Ext.refl _
 ·split at h
  ·split at h
   ·rename_i htake;simp only[acV,Prod.mk.injEq]at h;obtain⟨rfl,_⟩:=h;unfold Vv at htake;split at htake
    ·cases htake
    ·split at htake
     ·simp only[acV]at htake;rw[<- htake];exact⟨ad3 _,fq (ac1 _),(cx _ _ (ac1 _) s.m).trans (cQ (ac1 _))⟩
     ·simp only[acV]at htake;rw[<- htake];exact⟨ad3 _,fq (ac1 _),(cx _ _ (ac1 _) s.m).trans (cQ (ac1 _))⟩
     ·cases htake
   ·cases h
  ·cases h
 ·cases h
theorem Gn{P:Program}{E:Ut}{t u:TypeId}{x y:Operand}{d:Tmp}(hk:∀s',Ext s s'->k s'->k' s')(h:kJ P E s t u x y d k):kJ P E s t u x y d k':=by
 unfold kJ at h⊢;dsimp only at h⊢;split at h
 ·skip
  split at h
  ·skip
   split at h
   ·skip
    split at h
    ·rename_i h3 h4;split at h
     ·skip
      exact⟨h.1,hk _ (((((fu _ _).trans (gy h4)).trans (bx _ _)).trans (cf _ _ _)).trans (ay _ _ _)) h.2⟩
     ·exact h.elim
    ·exact h.elim
   ·exact h.elim
  ·exact h.elim
 ·exact h.elim
theorem uw{P:Program}{E:Ut}{sub:List Sh}{t:TypeId}{n:Nat}{ps:Array (Nat×Operand)}{d:Tmp}(hk:∀s',Ext s s'->k s'->k' s')(h:cC P E sub s t n ps d k):cC P E sub s t n ps d k':=by
 unfold cC at h⊢;split at h
 ·skip
  split at h
  ·skip
   split at h
   ·skip
    dsimp only at h⊢;split at h
    ·skip
     split at h
     ·skip
      exact hk _ ((((bE _ _).trans (bx _ _)).trans (cf _ _ _)).trans (ay _ _ _)) h
     ·exact h.elim
    ·exact h.elim
   ·exact h.elim
  ·exact h.elim
 ·exact h.elim
theorem uz{P:Program}{E:Ut}{sub:List Sh}{t:TypeId}{n:Nat}{ps:Array (Nat×Operand)}{d:Tmp}(hk:∀s',Ext s s'->k s'->k' s')(h:cD P E sub s t n ps d k):cD P E sub s t n ps d k':=by
 unfold cD at h⊢
 (repeat' split at h)<;>first|exact h.elim|skip
 exact hk _ ((((gy (by assumption)).trans (bx _ _)).trans (cf _ _ _)).trans (ay _ _ _)) h
theorem Dm{P:Program}{E:Ut}{t u:TypeId}{x y:Operand}{d:Tmp}(hk:∀s',Ext s s'->k s'->k' s')(h:ia P E s t u x y d k):ia P E s t u x y d k':=by
 unfold ia at h⊢;split at h
 ·skip
  split at h
  ·skip
   split at h
   ·skip
    split at h
    ·rename_i h3;split at h
     ·rename_i h4;split at h
      ·skip
       exact⟨h.1,hk _ (((((gy h3).trans (gy h4)).trans (bx _ _)).trans (cf _ _ _)).trans (ay _ _ _)) h.2⟩
      ·exact h.elim
     ·exact h.elim
    ·exact h.elim
   ·exact h.elim
  ·exact h.elim
 ·exact h.elim
theorem jL(tm:Nat):∀(sh:List Sh)(j:Nat)(s:St),Ext s (y8 tm sh j s)
 |[],_,s=>Ext.refl s
 |.fr::r,j,s=>jL tm r (j+1) s
 |.ow _::r,j,s=>by
  simp only[y8];split
  ·split
   ·split
    ·split
     ·rename_i h _;split
      ·exact((((gy (by assumption)).trans (bx _ _)).trans (cf _ _ _)).trans (ay _ _ _)).trans (jL tm r (j+1) _)
      ·exact(((gy (by assumption)).trans (bx _ _)).trans (cf _ _ _)).trans (jL tm r (j+1) _)
     ·exact jL tm r (j+1) s
    ·exact jL tm r (j+1) s
   ·exact jL tm r (j+1) s
  ·exact Ext.refl s
theorem Sv(sh:List (TypeId×List Sh))(s:St)(t:TypeId)(v:Operand):Ext s (I0 sh s t v):=by
 unfold I0;split
 ·exact jL _ _ _ _
 ·exact Ext.refl s
theorem Ez{e:En}{t:TypeId}{x hi:Operand}{d:Tmp}(hk:∀s',Ext s s'->k s'->k' s')(h:mr e s t x hi d k):mr e s t x hi d k':=by
 unfold mr at h⊢;split at h
 ·split at h
  ·split at h
   ·split at h
    ·rename_i hb;exact⟨h.1,hk _ ((((gy hb).trans (bx _ _)).trans (cf _ _ _)).trans (ay _ _ _)) h.2⟩
    ·exact h.elim
   ·exact h.elim
  ·exact h.elim
 ·exact h.elim
theorem Rm{e:En}{o:Oper}(hk:∀s',Ext s s'->k s'->k' s')(h:Ju e o s k):Ju e o s k':=by
 unfold Ju at h⊢;split at h
 ·exact Ez hk h
 ·exact IV hk h
 ·split at h
  ·exact IW hk h
  ·exact h.elim
 ·dsimp only at h⊢;split at h
  ·split at h
   ·exact nC (fun v hv=>hk _ ((pg _ _).trans (ay _ _ _)) hv) h
   ·exact h.elim
  ·exact h.elim
 ·exact h.elim
theorem CA:∀{row:List C}{l:List (List UInt8)},zU row=some l->row=l.map C.s
 |[],_,h=>by cases h;rfl
 |c::r,l,h=>by
  cases c with
  |s x=>
   simp only[zU]at h;split at h
   ·rename_i l' hr;cases h;rw[CA hr];rfl
   ·cases h
  |_=>simp[zU]at h
theorem ZF{e:En}(he:e.ok){o:Oper}(hk:∀s',Ext s s'->k s'->k' s')(h:lT e o s k):lT e o s k':=by
 unfold lT at h⊢;cases ho:o.op with
 |store t x v=>rw[ho]at h;exact MJ (fun s' he hs'=>hk _ ((((Sv _ _ _ _).trans (Pd _ _ _)).trans he).trans (ay _ _ _)) hs') h
 |alloc t=>
  rw[ho]at h;cases hd:o.dst with
  |none=>rw[hd]at h;exact h.elim
  |some d=>rw[hd]at h;exact KZ hk h
 |box t x=>
  rw[ho]at h;cases hd:o.dst with
  |none=>rw[hd]at h;exact h.elim
  |some d=>rw[hd]at h;exact Tm hk h
 |buildSlice t n ps=>
  rw[ho]at h;cases hd:o.dst with
  |none=>rw[hd]at h;exact h.elim
  |some d=>
   rw[hd]at h;dsimp only at h⊢;split at h
   ·exact wm hk h
   ·split at h
    ·exact uz hk h
    ·exact uw hk h
 |call c=>
  rw[ho]at h;dsimp only at h⊢;split at h
  ·skip
   cases hd:o.dst with
   |none=>rw[hd]at h;exact h.elim
   |some d=>
    rw[hd]at h;dsimp only at h⊢;split at h
    ·exact Gn hk h
    ·exact Dm hk h
  ·exact IU (fun s' hE hs'=>hk _ (hE.trans (ay _ _ _)) hs') h
  ·skip
   split at h
   ·rename_i C hg hf;exact(En.ok_get he hg hf).ext _ _ _ _ _ (fun s' v hE hs'=>hk _ (hE.trans (ay _ _ _)) hs') h
   ·exact h.elim
  ·skip
   split at h
   ·skip
    split at h
    ·rename_i C hg hf;exact(En.ok_get he hg hf).ext _ _ _ _ _ (fun s' v hE hs'=>hk _ (hE.trans (ay _ _ _)) hs') h
    ·exact h.elim
   ·split at h
    ·split at h
     ·rename_i hkey _ C hg;exact((En.ok_get' he hg).2 (Qi hkey)).ext _ _ _ _ _ (fun s' v hE hs'=>hk _ (hE.trans (ay _ _ _)) hs') h
     ·exact h.elim
    ·exact h.elim
   ·exact h.elim
  ·exact h.elim
 |makeMap t r=>
  rw[ho]at h;dsimp only at h⊢;split at h
  ·exact sR hk h
  ·split at h
   ·exact sR hk h
   ·exact h.elim
  ·exact h.elim
 |lookup t x i ok=>
  rw[ho]at h;dsimp only at h⊢;split at h
  ·exact D2 hk h
  ·exact DZ (fun v hv=>hk _ (ay _ _ _) hv) h
 |mapUpdate t m i v=>
  rw[ho]at h;dsimp only at h⊢;split at h
  ·exact IX (fun s' hE hs'=>hk _ (hE.trans (ay _ _ _)) hs') h
  ·exact IY (fun s' hE hs'=>hk _ (((fu _ _).trans hE).trans (ay _ _ _)) hs') h
 |makeSlice t n c=>
  rw[ho]at h;cases hd:o.dst with
  |none=>rw[hd]at h;exact h.elim
  |some d=>rw[hd]at h;exact yY hk h
 |makeFunc fn first caps=>
  rw[ho]at h;dsimp only at h⊢;split at h
  ·exact AJ hk h
  ·exact h.elim
 |range t x=>
  rw[ho]at h;cases hd:o.dst with
  |none=>rw[hd]at h;exact h.elim
  |some d=>rw[hd]at h;exact Mz hk h
 |next x b=>
  rw[ho]at h;cases b with
  |true=>exact h.elim
  |false=>exact Q0 hk h
 |entry x=>rw[ho]at h;exact Lp hk h
 |_=>rw[ho]at h;exact h.elim
theorem I7{e:En}(he:e.ok){o:Oper}(hk:∀s',Ext s s'->k s'->k' s')(h:zj e o s k):zj e o s k':=by
 unfold zj at h⊢;split at h
 ·rename_i hq;exact Es (fun v hv=>hk _ ((Fx _ _).trans (ay _ _ _)) hv) h
 ·exact ZF he hk h
theorem XC{e:En}(he:e.ok){o:Oper}(hk:∀s',Ext s s'->k s'->k' s')(h:opT e o s k):opT e o s k':=by
 unfold opT at h⊢;split at h
 ·exact Rm hk h
 ·exact I7 he hk h
end
section
variable {P:Program} {g:G} {Q:Exit->S->Prop} {s:St}
def AOt(P:Program)(g:G)(o:Oper)(k:St->Prop)(Q:Exit->S->Prop)(s:St):Prop:=
 ∀a w,R g s.toS a w->o.wp P a w (fun a' w'=>∃s':St,k s'/\R g s'.toS a' w') (lift g Q)
def PQ(pk:PKt):Exit->S->Prop:=fun x s=>∃v,∃t:St,x=.panic (chn v)/\s=t.toS/\pk v t
section
variable {g:G} {a:Act} {w:World} {H:FH}
theorem gG{s:St}{i:Nat}{v:At}(h:gtA s.t i=v):aH s.toS.t i=v.toV:=by rw[<- h];exact b9 i s.t
theorem S6{γ:Gam}{F:Nm->Fp}{s:St}(hX:RX g s.toS a w H γ F){tm j:Nat}{ts:List Tt}{t:Tt}(hg:gtA s.t tm=.one (.agg ts))(hj:ts[j]? = some t) :
  ∃vs v,g.tv a tm=.agg vs/\vs.toList[j]? = some v/\TR w H γ s.toS.m t.toT (fun _=>0) v:=by
 have h:=hX.t tm
 rw[gG hg]at h;obtain⟨vs,h1,_,h3⟩:=h;obtain⟨_,v,g',_,h4,h5,h6⟩:=qE h3 (k:=j) (x:=t.toT) (by rw[acZ,hj];rfl);refine⟨vs,v,h1,h4,?_⟩;have:g'=fun _=>0:=funext fun b=>by have:=h6 b;omega
 rw[<- this];exact h5
theorem jO(tm:Nat):∀(sh:List Sh)(j:Nat)(s:St)(γ:Gam)(F:Nm->Fp),RX g s.toS a w H γ F->∃γ' F',RX g (y8 tm sh j s).toS a w H γ' F'
 |[],_,s,γ,F,hX=>⟨γ,F,hX⟩
 |.fr::r,j,s,γ,F,hX=>jO tm r (j+1) s γ F hX
 |.ow _::r,j,s,γ,F,hX=>by
  simp only[y8];split
  ·rename_i ts hg;split
   ·rename_i q hj;split
    ·rename_i u l0 _ _ _;split
     ·rename_i s1 sub l hb;obtain⟨vs,v,e1,e2,e3⟩:=S6 hX hg hj;have hy:AR w H γ s.toS.m (.one (.c (.rf q))) v:=e3
      obtain⟨b1,b2,_⟩:=l4 (size:=nc u) rfl (d9 hX) (fun q' hq'=>by
       cases hq';exact oK e3.2.1) hb
      obtain⟨kb,f,F1,k1,k2,k3,k4,k5⟩:=l5 hX hy b1;have hn2:=bV k2 (.gh (700000+j))
      have hts:∀b,tot F1 (s1.toS.fresh (.gh (700000+j))).m b<=tot F1 s1.toS.m b:=by
       intro b;unfold S.fresh;split
       ·exact ac1 _
       ·show tot F1 (ax _ _) b<=_
        rw[aT];exact eK
      obtain⟨γ',F',hX4,hγ⟩:=cR hn2 (n:=.gh (700000+j)) rfl (bG k2 (.gh (700000+j))) (v:=v) (t:=.ow sub (l.map (al u))) (f:=f) ⟨kb,k1⟩
       (fun b=>by have h1:=hts b;have h2:=k4 b;have h3:=hX.mem.le1 b;omega) (fun b hb=>⟨(k5 b hb).1,(k5 b hb).2.1⟩) (fun b hb=>(k5 b hb).2.2)
      have e4:((s1.fresh (.gh (700000+j))).root (.gh (700000+j)) ⟨false,[.ow sub u l],none⟩).toS=⟨(s1.toS.fresh (.gh (700000+j))).t,(.gh (700000+j),⟨false,[.ow sub (l.map (al u))]⟩)::(s1.toS.fresh (.gh (700000+j))).m⟩:=by
       rw[<- br b2];rfl
      rw[<- e4]at hX4;generalize hs2:(s1.fresh (.gh (700000+j))).root (.gh (700000+j)) ⟨false,[.ow sub u l],none⟩=s2 at hX4 e4;split
      ·rename_i ts2 hg2;refine jO tm r (j+1) _ γ' F' ⟨hX4.mem,hX4.fr,hX4.nt,hX4.df,fun i=>?_⟩;show AR w H γ' s2.toS.m (aH ((tm,At.toV (.one (.agg (ts2.set j (.rf ⟨.gh (700000+j),0,[]⟩)))))::s2.toS.t) i) _
       simp only[aH];split
       ·rename_i hi;subst hi;have h:=hX4.t tm
        rw[gG hg2,e1]at h;obtain⟨cs,h1,h2,h3⟩:=h;obtain rfl:=Value.agg.inj h1;rw[e1];refine⟨vs,rfl,by simpa using h2,?_⟩;by_cases hjl:j<ts2.length
        ·obtain⟨_,_,_,fk,fr,_,_,_,a4,_,a6,_⟩:=bU _ _ _ _ j h3 (by simpa using hjl);have hr:TR w H γ' s2.toS.m (.rf ⟨.gh (700000+j),0,[]⟩) (fun _=>0) v:=(fJ (H:=H) (w:=w) (sub:=sub) (l:=l.map (al u)) (by rw[e4];simp[aa]) hγ:AR w H γ' s2.toS.m (.one (.c (.rf ⟨.gh (700000+j),0,[]⟩))) v)
         have:=a6 (fun _=>TR w H γ' s2.toS.m) (.rf ⟨.gh (700000+j),0,[]⟩) v (fun _=>0) (fun _ _ _ _ _ h=>h) hr
         rw[mA e2]at this;unfold Ts;rw[acY]at this⊢;rw[List.length_set,ad0];exact lN (fun b=>by have:=a4 b;omega) this
        ·rw[List.set_eq_of_length_le kQ1];exact h3
       ·exact hX4.t i
      ·exact jO tm r (j+1) _ γ' F' hX4
     ·exact jO tm r (j+1) s γ F hX
    ·exact jO tm r (j+1) s γ F hX
   ·exact jO tm r (j+1) s γ F hX
  ·exact⟨γ,F,hX⟩
theorem SW(sh:List (TypeId×List Sh)){s:St}{γ:Gam}{F:Nm->Fp}(t:TypeId)(v:Operand)(hX:RX g s.toS a w H γ F):∃γ' F',RX g (I0 sh s t v).toS a w H γ' F':=by
 unfold I0;split
 ·exact jO _ _ _ _ _ _ hX
 ·exact⟨γ,F,hX⟩
end
theorem W3{w:World}{H:FH}{γ:Gam}{m:Mm}{v:At}{y:Value}(h:AR w H γ m v.toV y){f:Nat}(hf:W2 v=some f):y=.func (.func f) #[] #[]:=by
 unfold W2 at hf;split at hf
 ·rename_i f' x z;split at hf
  ·rename_i hx0 hy0;simp only[acV]at hf;subst hf;obtain⟨_,m,h3⟩:=h;have e1:y=.func (.func f') x z:=by cases m<;>exact h3.1
   rw[e1];have ex:x=#[]:=Array.eq_empty_of_size_eq_zero hx0
   have ey:z=#[]:=Array.eq_empty_of_size_eq_zero hy0
   rw[ex,ey]
  ·cases hf
 ·rename_i c;split at hf
  ·rename_i hc;simp only[acV]at hf;subst hf;obtain⟨_,m,h3⟩:=h;cases m with
   |zero=>exact h3.elim
   |succ m=>
    obtain⟨ps,h4,h5,_⟩:=h3;rw[hc]at h5;obtain rfl:ps=[]:=adZ h5;exact h4
  ·cases hf
 ·cases hf
theorem TW{w:World}{H:FH}{γ:Gam}{m:Mm}{v:At}{y:Value}(h:AR w H γ m v.toV y){key:Nat}(hf:BY v=some key):∃f ps,key=f+1000000/\y=.func (.func f) #[] ps:=by
 unfold BY at hf;split at hf
 ·rename_i c;simp only[acV]at hf;subst hf;obtain⟨_,m,h3⟩:=h;cases m with
  |zero=>exact h3.elim
  |succ m=>
   obtain⟨ps,h4,_⟩:=h3;exact⟨c.fn,_,rfl,h4⟩
 ·cases hf
theorem UX{e:En}{o:Oper}{c:Call}{d:Tmp}(ho:o.op=.call c)(hd:o.dst=some d)(h:Mk e o=true):∃t kt et,c.callee=.builtin .len/\c.argTypes.toList=[t]/\(ty e.P t).k=.mp kt et:=by
 unfold Mk at h;rw[ho,hd]at h;dsimp only at h;split at h
 ·rename_i t h1 h2;split at h
  ·rename_i kt et h3;exact⟨t,kt,et,h1,h2,h3⟩
  ·cases h
 ·cases h
theorem YP{e:En}(he:e.ok)(hpk:∀x s,PQ e.pk x s->Q x s){o:Oper}{k:St->Prop}(hc:opC g.nt o=true)(hq:isQ o=false)(h:lT e o s k):AOt e.P g o k Q s:=by
 intro a w hR;obtain⟨H,γ,F,hX⟩:=hR;have hn:=d9 hX
 have base:∀{s1:St},(∃H' F',RX g s1.toS a w H' γ F')->opK e.P [] o s1.toS (upS k)->o.wp e.P a w (fun a' w'=>∃s':St,k s'/\R g s'.toS a' w') (lift g Q):=by
  intro s1 ⟨H',F',hX1⟩ hop;exact bF (fun a' w'⟨s',⟨t,e,hk⟩,hR'⟩=>⟨t,hk,By e hR'⟩) (fun _ _ _ h=>h) (Ke (Q:=Q) CT.ok0 hc hop a w ⟨H',γ,F',hX1⟩)
 have hcc:=hc
 unfold opC at hcc;rw[acX]at hcc;obtain⟨hd,hcc⟩:=hcc;unfold lT at h;cases ho:o.op with
 |store t x v=>
  rw[ho]at h hcc;simp only[acX]at hcc;obtain⟨γ0,F0,h0⟩:=SW e.sh t v hX;obtain⟨H1,F1,h1⟩:=Ps h0 (evA (I0 e.sh s t v) x) (evA (I0 e.sh s t v) v);refine bF (fun a' w'⟨s',⟨t,e,hk⟩,hR'⟩=>⟨t,hk,By e hR'⟩) (fun _ _ _ h=>h) (Ke (Q:=Q) CT.ok0 hc (?_:opK e.P [] o _ (upS k)) a w ⟨H1,γ0,F1,h1⟩);unfold opK;rw[ho];dsimp only;rw[ae hcc.1,ae hcc.2];exact Rp (fun t' hk=>⟨_,aD t' o.dst .any,hk⟩) (d9 h1) h
 |alloc t=>
  rw[ho]at h;cases hdd:o.dst with
  |none=>rw[hdd]at h;exact h.elim
  |some d=>
   rw[hdd]at h;refine base (s1:=s) ⟨H,F,hX⟩ ?_;unfold opK;rw[ho,hdd];exact PD hn h
 |box t x=>
  rw[ho]at h hcc;cases hdd:o.dst with
  |none=>rw[hdd]at h;exact h.elim
  |some d=>
   rw[hdd]at h;refine base (s1:=s) ⟨H,F,hX⟩ ?_;unfold opK;rw[ho,hdd];exact Wq hn hcc h
 |buildSlice t n ps=>
  rw[ho]at h hcc;cases hdd:o.dst with
  |none=>rw[hdd]at h;exact h.elim
  |some d=>
   rw[hdd]at h hd;have hX1:=cj (ps.toList.map fun x=>evA s x.2) s H F hX
   dsimp only at h;split at h
   ·refine base hX1 ?_;unfold opK;rw[ho,hdd];obtain⟨H1,F1,h1⟩:=hX1;exact yi hcc (d9 h1) h
   ·split at h
    ·obtain⟨t',y,w',γ',F',e1,hk,e3⟩:=wl hX hd hcc h;unfold Oper.wp;have:(execOp a.eval o).run e.P w=.ok (.value y) w':=by simp only[execOp,ho];rw[Sem.run_bind,e1];rfl
     rw[this];exact⟨t',hk,_,γ',F',by rw[hdd];exact e3⟩
    obtain⟨H1,F1,h1⟩:=hX1;obtain⟨s',y,w',H',γ',F',e1,⟨t',et,hk⟩,e3⟩:=wj (P:=e.P) h1 hd hcc (wk hcc (d9 h1) h);unfold Oper.wp;have:(execOp a.eval o).run e.P w=.ok (.value y) w':=by simp only[execOp,ho];rw[Sem.run_bind,e1];rfl
    rw[this];exact⟨t',hk,H',γ',F',aV et (by rw[hdd];exact e3)⟩
 |call c=>
  rw[ho]at h hcc;obtain⟨callee,args,argTypes⟩:=c;obtain⟨args⟩:=args;obtain⟨argTypes⟩:=argTypes;dsimp only at h hcc;cases callee with
  |builtin b=>
   cases b with
   |append=>
    match args,argTypes,h with
    |[x,y],[t,u],h=>
     have h1:aw x=true/\aw y=true:=by simpa using hcc
     cases hdd:o.dst with
     |none=>rw[hdd]at h;exact h.elim
     |some d=>
      rw[hdd]at h hd;dsimp only at h;split at h
      rotate_left
      ·obtain⟨s',y',w',H',γ',F',e1,⟨t',et,hk⟩,e3⟩:=Gl (P:=e.P) (tt:=o.type) hX hd h1.1 h1.2 (Gm h1.1 h1.2 hn (fun q hq=>by
         have h3:=aA hX h1.2
         rw[ae h1.2,hq]at h3;obtain⟨_,h4,_⟩:=h3;exact oK h4) (fun size s1 sub l q hn1 hb hq=>by
         have hy:=aA hX h1.2
         rw[ae h1.2]at hy;obtain⟨_,_,F1,_,hX1,_⟩:=l5 hX hy hb;have h3:=aA hX1 h1.1
         rw[ae h1.1,hq]at h3;obtain⟨_,h4,_⟩:=h3;exact oK h4) h)
       unfold Oper.wp;have:(execOp a.eval o).run e.P w=.ok (.value y') w':=by
        simp only[execOp,ho,resolve,invoke,builtin,Sem.run_bind,Sem.run_pure,Result.andThen_ok,List.map_toArray,List.map_cons,List.map_nil];rw[e1];rfl
       rw[this];exact⟨t',hk,H',γ',F',aV et (by rw[hdd];exact e3)⟩
      have hX1:=fw hX (evA s y)
      refine base hX1 ?_;unfold opK;rw[ho,hdd];obtain⟨H1,F1,h2⟩:=hX1;exact K4 h1.1 h1.2 (d9 h2) (fun q hq=>by
       have h3:=aA h2 h1.1
       rw[ae h1.1,hq]at h3;obtain⟨_,h4,_⟩:=h3;exact oK h4) h
   |delete=>
    match args,argTypes,h with
    |[x,i],t::ts,h=>
     have h1:aw x=true/\aw i=true:=by simpa using hcc
     have h2:=aA hX h1.1
     have h3:=aA hX h1.2
     rw[ae h1.1]at h2;rw[ae h1.2]at h3;obtain⟨t',w',F',e1,e2,e3⟩:=L2 (tt:=o.type) hX h2 h3 h;unfold Oper.wp;have:(execOp a.eval o).run e.P w=.ok (.value (.tuple #[])) w':=by
      simp only[execOp,ho,resolve,invoke,builtin,Sem.run_bind,Sem.run_pure,Result.andThen_ok,List.map_toArray,List.map_cons,List.map_nil];rw[e1];rfl
     rw[this];exact⟨_,e2,H,γ,F',aV (aD t' o.dst (.tup [])) (e3.put hd ⟨#[],rfl,trivial⟩)⟩
   |_=>exact h.elim
  |value v=>
   cases v with
   |func f=>
    dsimp only at h;split at h
    ·rename_i C hg hf;have hC:=En.ok_get he hg hf
     have hr:(execOp a.eval o).run e.P w=.ok (.enter f (args.map a.eval).toArray) w:=by
      simp only[execOp,ho,resolve,Act.eval,Deferred.ofValue,Sem.run_bind,Sem.run_pure,Result.andThen_ok,invoke];rw[hC.run];simp
     unfold Oper.wp;rw[hr];refine Calls.mono (hC.call g e.pk s a w H γ F args _ hX hcc h) (fun e' w' hp=>?_);rcases hp with⟨r,s',av,H',γ',F',k1,k2,k3,k4⟩|⟨v,s',k1,k2,k4⟩
     ·subst k1;exact⟨_,k2,H',γ',F',aV (aD s' o.dst av) (k4.put hd k3)⟩
     ·subst k1;exact⟨_,hpk _ _ ⟨v,s',rfl,rfl,k2⟩,k4⟩
    ·exact h.elim
   |tmp t=>
    dsimp only at h;have hval:Nat.blt t 100000=true->AR w H γ s.toS.m (gtA s.t t).toV (a.tmps.getD t undef):=fun ht=>by
     have h3:=hX.t t
     rw[G.tv_lo (show t<TB from ac5 ht),show aH s.toS.t t=(gtA s.t t).toV from b9 t s.t]at h3;exact h3
    split at h
    ·rename_i f ht hf;split at h
     ·rename_i C hg hfl;have hC:=En.ok_get he hg hfl
      have hv:a.eval (.tmp t)=.func (.func f) #[] #[]:=W3 (hval ht) hf
      have hr:(execOp a.eval o).run e.P w=.ok (.enter f (args.map a.eval).toArray) w:=by
       simp only[execOp,ho,resolve,hv,Deferred.ofValue,Sem.run_bind,Sem.run_pure,Result.andThen_ok,invoke];rw[hC.run];simp
      unfold Oper.wp;rw[hr];refine Calls.mono (hC.call g e.pk s a w H γ F args _ hX hcc h) (fun e' w' hp=>?_);rcases hp with⟨r,s',av,H',γ',F',k1,k2,k3,k4⟩|⟨v,s',k1,k2,k4⟩
      ·subst k1;exact⟨_,k2,H',γ',F',aV (aD s' o.dst av) (k4.put hd k3)⟩
      ·subst k1;exact⟨_,hpk _ _ ⟨v,s',rfl,rfl,k2⟩,k4⟩
     ·exact h.elim
    ·rename_i ht hf;split at h
     ·rename_i key hk2;split at h
      ·rename_i C hg;obtain⟨f,ps,rfl,hv⟩:=TW (hval ht) hk2;have hv2:a.eval (.tmp t)=.func (.func f) #[] ps:=hv
       have hC:=(En.ok_get' he hg).2 kQ1
       ·have hr:(execOp a.eval o).run e.P w=.ok (.enter f ((args.map a.eval).toArray++ps)) w:=by
         have h5:=hC.run
         rw[ae3]at h5;simp only[execOp,ho,resolve,hv2,Deferred.ofValue,Sem.run_bind,Sem.run_pure,Result.andThen_ok,invoke];rw[h5];simp
        unfold Oper.wp;rw[hr];have h6:=hC.call g e.pk s a w H γ F t args _ ps hX hcc (ac5 ht) (by rw[ae3];exact hv) h
        rw[ae3]at h6;refine Calls.mono h6 (fun e' w' hp=>?_);rcases hp with⟨r,s',av,H',γ',F',k1,k2,k3,k4⟩|⟨v,s',k1,k2,k4⟩
        ·subst k1;exact⟨_,k2,H',γ',F',aV (aD s' o.dst av) (k4.put hd k3)⟩
        ·subst k1;exact⟨_,hpk _ _ ⟨v,s',rfl,rfl,k2⟩,k4⟩
      ·exact h.elim
     ·exact h.elim
    ·exact h.elim
   |_=>exact h.elim
  |invoke r n=>exact h.elim
 |makeMap t r=>
  rw[ho]at h hcc;have key:∀d,o.dst=some d->eF e.P e.E (dP e.sh (4000000+t)).isSome s t d k->(∀v,r.map a.eval=some v->∃κ n,v=.int κ n)->o.wp e.P a w (fun a' w'=>∃s':St,k s'/\R g s'.toS a' w') (lift g Q):=by
   intro d hdd h hr;rw[hdd]at hd;obtain⟨t',y,w',γ',F',e1,e2,e3⟩:=IT hX hd h hr;unfold Oper.wp;have:(execOp a.eval o).run e.P w=.ok (.value y) w':=by simp only[execOp,ho];rw[Sem.run_bind,e1];rfl
   rw[this];exact⟨t',e2,H,γ',F',by rw[hdd];exact e3⟩
  dsimp only at h;split at h
  ·rename_i d hdd;exact key d hdd h (fun v hv=>by cases hv)
  ·rename_i d x hdd;split at h
   ·rename_i κ n hx;refine key d hdd h (fun v hv=>?_);have h3:=aA hX (show aw x=true from hcc)
    rw[ae hcc,hx]at h3;exact⟨κ,n,by rw[<- Option.some.inj hv];exact(mG h3).1⟩
   ·exact h.elim
  ·exact h.elim
 |lookup t x i ok=>
  rw[ho]at h hcc;have h1:aw x=true/\aw i=true:=by simpa using hcc
  have h2:=aA hX h1.1
  have h3:=aA hX h1.2
  rw[ae h1.1]at h2;rw[ae h1.2]at h3;dsimp only at h;split at h
  ·rename_i d _ hdd;rw[hdd]at hd;obtain⟨t',y,γ',F',e1,e2,e3⟩:=IZ hX hd h1.1 h1.2 h;unfold Oper.wp;have:(execOp a.eval o).run e.P w=.ok (.value y) w:=by simp only[execOp,ho];rw[Sem.run_bind,e1];rfl
   rw[this];exact⟨_,e2,H,γ',F',by rw[hdd];exact e3⟩
  ·obtain⟨z,v,e1,e2,e3⟩:=L5 hX h2 h3 h;unfold Oper.wp;have:(execOp a.eval o).run e.P w=.ok (.value z) w:=by simp only[execOp,ho];rw[Sem.run_bind,e1];rfl
   rw[this];exact⟨_,e3,H,γ,F,aV (aD s o.dst v) (hX.put hd e2)⟩
 |mapUpdate t m i v=>
  rw[ho]at h hcc;have h1:(aw m=true/\aw i=true)/\aw v=true:=by simpa using hcc
  dsimp only at h;split at h
  ·have h2:=aA hX h1.1.1
   have h3:=aA hX h1.1.2
   have h4:=aA hX h1.2
   rw[ae h1.1.1]at h2;rw[ae h1.1.2]at h3;rw[ae h1.2]at h4;obtain⟨t',w',F',e1,e2,e3⟩:=L7 hX h2 h3 h4 h;unfold Oper.wp;have:(execOp a.eval o).run e.P w=.ok .skip w':=by simp only[execOp,ho];rw[Sem.run_bind,e1];rfl
   rw[this];exact⟨_,e2,H,γ,F',aV (aD t' o.dst .any) (e3.put hd trivial)⟩
  obtain⟨H1,F1,hX1⟩:=fw hX (evA s v);generalize ef s (evA s v)=s1 at h hX1;have h2:=aA hX1 h1.1.1
  have h3:=aA hX1 h1.1.2
  have h4:=aA hX1 h1.2
  rw[ae h1.1.1]at h2;rw[ae h1.1.2]at h3;rw[ae h1.2]at h4;obtain⟨t',w',F',e1,e2,e3⟩:=L9 hX1 h2 h3 h4 h;unfold Oper.wp;have:(execOp a.eval o).run e.P w=.ok .skip w':=by simp only[execOp,ho];rw[Sem.run_bind,e1];rfl
  rw[this];exact⟨_,e2,H1,γ,F',aV (aD t' o.dst .any) (e3.put hd trivial)⟩
 |makeSlice t n c=>
  rw[ho]at h hcc;have h1:aw n=true/\aw c=true:=by simpa using hcc
  cases hdd:o.dst with
  |none=>rw[hdd]at h;exact h.elim
  |some d=>
   rw[hdd]at h hd;obtain⟨t',y,w',γ',F',e1,e2,e3⟩:=AM hX hd h1.1 h;unfold Oper.wp;have:(execOp a.eval o).run e.P w=.ok (.value y) w':=by simp only[execOp,ho];rw[Sem.run_bind,e1];rfl
   rw[this];exact⟨t',e2,H,γ',F',by rw[hdd];exact e3⟩
 |makeFunc fn first caps=>
  rw[ho]at h hcc;dsimp only at h;split at h
  ·rename_i f hfi;obtain⟨t',H',e1,e2⟩:=DW hX hd hcc h;unfold Oper.wp;have hf0:first=#[]:=by cases first with|mk l=>cases hfi;rfl
   have:(execOp a.eval o).run e.P w=.ok (.value (.func (.func f) #[] (caps.toList.map a.eval).toArray)) w:=by
    simp only[execOp,ho,hf0,Instr.makeFunc,Sem.run_bind,Sem.run_pure,Result.andThen_ok,Array.map_empty];simp[<- Array.toList_map]
   rw[this];exact⟨t',e1,H',γ,F,e2⟩
  ·exact h.elim
 |range t x=>
  rw[ho]at h hcc;cases hdd:o.dst with
  |none=>rw[hdd]at h;exact h.elim
  |some d=>
   rw[hdd]at h hd;obtain⟨t',y,w',H',γ',F',e1,e2,e3⟩:=Rd hX hd hcc h;unfold Oper.wp;have:(execOp a.eval o).run e.P w=.ok (.value y) w':=by simp only[execOp,ho];rw[Sem.run_bind,e1];rfl
   rw[this];exact⟨t',e2,H',γ',F',by rw[hdd];exact e3⟩
 |next x b=>
  rw[ho]at h hcc;cases b with
  |true=>exact h.elim
  |false=>
   have h1:=aA hX (show aw x=true from hcc)
   rw[ae hcc]at h1;obtain⟨t',z,w',F',e1,e2,e3⟩:=UP hX hd h1 o.type h;unfold Oper.wp;have:(execOp a.eval o).run e.P w=.ok (.value z) w':=by simp only[execOp,ho];rw[Sem.run_bind,e1];rfl
   rw[this];exact⟨t',e2,H,γ,F',e3⟩
 |entry x=>
  rw[ho]at h hcc;have h1:=aA hX (show aw x=true from hcc)
  rw[ae hcc]at h1;obtain⟨t',z,e1,e2,e3⟩:=Qm hX hd h1 h;unfold Oper.wp;have:(execOp a.eval o).run e.P w=.ok (.value z) w:=by simp only[execOp,ho];rw[Sem.run_bind,e1];rfl
  rw[this];exact⟨t',e2,H,γ,F,e3⟩
 |_=>rw[ho]at h;exact h.elim
theorem E2{e:En}(he:e.ok)(hpk:∀x s,PQ e.pk x s->Q x s){o:Oper}{k:St->Prop}(hc:opC g.nt o=true)(h:zj e o s k):AOt e.P g o k Q s:=by
 unfold zj at h;split at h
 ·rename_i hq;intro a w ⟨H,γ,F,hX⟩;obtain⟨H1,F1,hX1⟩:=xN hX o;obtain⟨z,d,B,_,e1,e2,e3⟩:=zA hX1 hc (Vg hX1 hc h);obtain⟨v',rfl,hk⟩:=e3;unfold Oper.wp;rw[e1 w (fun _ _=>rfl)];exact⟨_,hk,H1,γ,F1,aV (aD _ _ _) (hX1.put (dz hc) e2)⟩
 ·rename_i hq;exact YP he hpk hc hq h
theorem VU{e:En}(he:e.ok)(hpk:∀x s,PQ e.pk x s->Q x s){o:Oper}{k:St->Prop}(hc:opC g.nt o=true)(h:opT e o s k):AOt e.P g o k Q s:=by
 unfold opT at h;split at h
 ·rename_i hown;intro a w ⟨H,γ,F,hX⟩;unfold Ju at h;have hcc:=hc
  unfold opC at hcc;rw[acX]at hcc;obtain⟨hd,hcc⟩:=hcc;split at h
  ·rename_i t x hi d ho hdd;rw[ho]at hcc;rw[hdd]at hd;simp only[acX,Option.all_none,Option.all_some,and_true]at hcc;obtain⟨t',y,γ',F',e1,e2,e3⟩:=Jh hX hd hcc.1 hcc.2 h;unfold Oper.wp;have:(execOp a.eval o).run e.P w=.ok (.value y) w:=by simp only[execOp,ho,aeY,Option.map_some];rw[Sem.run_bind,e1];rfl
   rw[this];exact⟨t',e2,H,γ',F',by rw[hdd];exact e3⟩
  ·rename_i x d ho hdd;rw[ho]at hcc;rw[hdd]at hd;obtain⟨t',H',F',e2,e3⟩:=L3 hX hd hcc h;unfold Oper.wp;have:(execOp a.eval o).run e.P w=.ok (.value (a.eval x)) w:=by simp only[execOp,ho];rfl
   rw[this];exact⟨t',e2,H',γ,F',by rw[hdd];exact e3⟩
  ·rename_i c d ho hdd;rw[ho]at hcc;rw[hdd]at hd;split at h
   ·rename_i x hx;obtain⟨t,kt,et,hcl,hty,htt⟩:=UX ho hdd hown;have hox:aw x=true:=by
     have hcc:c.args.toList.all aw=true:=hcc
     rw[hx]at hcc;simpa using hcc
    have h1:=aA hX hox
    rw[ae hox]at h1;obtain⟨t',z,e1,e2,e3⟩:=L6 (tt:=o.type) hX hd h1 htt h;unfold Oper.wp;have:(execOp a.eval o).run e.P w=.ok (.value z) w:=by
     obtain⟨callee,⟨args⟩,⟨argTypes⟩⟩:=c;have hx:args=[x]:=hx
     have hty:argTypes=[t]:=hty
     have hcl:callee=.builtin .len:=hcl
     subst hx hty hcl;simp only[execOp,ho,resolve,invoke,builtin,Sem.run_bind,Sem.run_pure,Result.andThen_ok,List.map_toArray,List.map_cons,List.map_nil];rw[e1];rfl
    rw[this];exact⟨t',e2,H,γ,F,by rw[hdd];exact e3⟩
   ·exact h.elim
  ·rename_i t x i d ho hdd;rw[ho]at hcc;simp only[acX]at hcc;obtain⟨H1,hX1⟩:=pq [evA s x] s H hX;dsimp only at h;generalize qh s [evA s x]=s1 at h hX1;split at h
   ·rename_i row hrow;split at h
    ·rename_i l hl;have e1:=CA hl
     have hk:=qj (m:=s1.m) (P:=e.P) (t:=t) (x:=.one (.c (.ga .s l 0))) (i:=evA s1 i) (fun q hq=>by simp at hq) h
     have e2:(At.one (.c (.ga .s l 0))).toV=ev s1.toS x:=by
      rw[ae hcc.1,hrow,e1];show AV.one (.c (.el _ 0))=AV.one (.c (.el _ 0))
      rw[adD];rfl
     rw[e2,<- ae hcc.2]at hk;have hq:qK e.P o s1.toS (up fun v=>k (s1.put (some d) v)):=by unfold qK;rw[ho];exact hk
     obtain⟨z,d',B,_,e3,e4,v',rfl,e5⟩:=zA hX1 hc hq;unfold Oper.wp;rw[e3 w (fun _ _=>rfl)];exact⟨_,e5,H1,γ,F,by rw[hdd];exact aV (aD _ _ _) (hX1.put (by rw[<- hdd];exact dz hc) e4)⟩
    ·exact h.elim
   ·exact h.elim
  ·exact h.elim
 exact E2 he hpk hc h
theorem RP{o:Oper}{K:S->Prop}{s s':S}(e:SEq s s')(h:AO P g o K Q s'):AO P g o K Q s:=fun a w hR=>h a w (By e hR)
theorem Kc{ops rest:List Oper}{s s':S}(e:SEq s s')(h:AL P g ops rest Q s'):AL P g ops rest Q s:=fun a w hR=>h a w (By e hR)
theorem Nh{o:Oper}{K:S->Prop}(h:AOt P g o (fun t=>K t.toS) Q s):AO P g o K Q s.toS:=fun a w hR=>
 bF (fun a' w'⟨s',hk,hR'⟩=>⟨s'.toS,hk,hR'⟩) (fun _ _ _ h=>h) (h a w hR)
theorem oR(s:St)(d:Nat)(b:Bool):SEq (s.toS.put (some d) (.one (.c (.d (.bool b))))) (s.put (some d) (sct (.bo b))).toS:=aD s (some d) (sct (.bo b))
theorem s5(s:St)(d:Nat)(b:Bool)(o:Option Tmp):SEq ((s.toS.put (some d) (.one (.c (.d (.bool b))))).put o (.tup [])) ((s.put (some d) (sct (.bo b))).put o (.tup [])).toS:=by
 have h1:=oR s d b
 have h2:=aD (s.put (some d) (sct (.bo b))) o (.tup [])
 refine⟨fun i=>?_,?_⟩
 ·rw[<- h2.1 i];cases o with
  |none=>exact h1.1 i
  |some o=>show aH (nM _ o _) i=aH (nM _ o _) i;rw[gF,gF,h1.1 i];rfl
 ·rw[<- h2.2];cases o<;>exact h1.2
theorem mF{e:En}(he:e.ok)(hpk:∀x s,PQ e.pk x s->Q x s){k:St->Prop}{all:List Oper}:∀{rest:List Oper}{s:St},XD g.nt all rest=true->kz e all rest s k->(∀t:St,k t->Q .normal t.toS)->AL e.P g all rest Q s.toS
 |[],s,_,h,hQ=>RO (hQ s h)
 |o::r,s,hc,h,hQ=>by
  simp only[XD,acX]at hc;obtain⟨⟨hc1,hc2⟩,hc3⟩:=hc;simp only[kz]at h;have run:∀{s:St},opT e o s (fun s'=>kz e all r s' k)->AO e.P g o (AL e.P g all r Q) Q s.toS:=fun{s}h=>
   Nh (fun a w hR=>bF (fun a' w'⟨s',hk,hR'⟩=>⟨s',mF he hpk hc3 hk hQ,hR'⟩) (fun _ _ _ h=>h) (VU he hpk hc1 h a w hR))
  cases hg:o.guard with
  |none=>
   rw[hg]at h;exact Ng hg (run h)
  |some q=>
   obtain⟨j,want⟩:=q;rw[hg]at h hc2;dsimp only at h hc2;cases hj:(all[j]?).bind (·.dst)with
   |none=>rw[hj]at h;exact h.elim
   |some d=>
    rw[hj]at h hc2;dsimp only at h hc2;split at h
    ·rename_i c hcc;have hgt:aH s.toS.t d=.one (.c (.d (.bool c))):=gG hcc
     cases want with
     |true=>
      dsimp only at h;refine E1 hg hj hgt hc2 (dz hc1) (fun hc=>?_) (fun hc=>?_)
      ·subst hc;rw[if_pos rfl]at h;exact RP (oR s d true) (run h)
      ·subst hc;rw[if_neg (by simp)]at h;exact Kc (s5 s d _ _) (mF he hpk hc3 h hQ)
     |false=>
      dsimp only at h;refine E1 hg hj hgt hc2 (dz hc1) (fun hc=>?_) (fun hc=>?_)
      ·subst hc;rw[if_neg (by simp)]at h;exact RP (oR s d false) (run h)
      ·subst hc;rw[if_pos (by rfl)]at h;exact Kc (s5 s d _ _) (mF he hpk hc3 h hQ)
    ·rename_i hcc;exact Kd hg hj (gG hcc) (dz hc1) (Kc (aD s o.dst (.tup [])) (mF he hpk hc3 h hQ))
    ·exact h.elim
theorem zk{e:En}(he:e.ok){all:List Oper}{k k':St->Prop}:∀{rest:List Oper}{s:St},(∀s',Ext s s'->k s'->k' s')->kz e all rest s k->kz e all rest s k'
 |[],s,hk,h=>hk s (Ext.refl s) h
 |o::r,s,hk,h=>by
  have run:∀{s1:St},Ext s s1->opT e o s1 (fun s'=>kz e all r s' k)->opT e o s1 (fun s'=>kz e all r s' k'):=fun{s1}h1 h=>
   XC he (fun s' h2 hs'=>zk he (fun s'' h3=>hk s'' ((h1.trans h2).trans h3)) hs') h
  have rest:∀{s1:St},Ext s s1->kz e all r s1 k->kz e all r s1 k':=fun{s1}h1 h=>zk he (fun s'' h3=>hk s'' (h1.trans h3)) h
  simp only[kz]at h⊢;split at h
  ·exact run (Ext.refl s) h
  ·rename_i j want hg;split at h
   ·rename_i d hj;split at h
    ·rename_i c hcc;cases want<;>cases c<;>simp only[ac4,if_true,if_false]at h⊢
     ·exact run (ay _ _ _) h
     ·exact rest ((ay _ _ _).trans (ay _ _ _)) h
     ·exact rest ((ay _ _ _).trans (ay _ _ _)) h
     ·exact run (ay _ _ _) h
    ·exact rest (ay _ _ _) h
    ·exact h.elim
   ·exact h.elim
end
section
variable {e:En} {g:G} {k:St->Prop} {Q:Exit->S->Prop}
theorem Qx{x:At}(h:Uk x=true):Im x.toV=true:=by
 unfold Uk at h;split at h
 ·rfl
 ·rfl
 ·cases h
theorem Lv{s:St}{o:Oper}(hc:opC g.nt o=true)(h:kW s o=true):fm s.toS o:=by
 unfold kW at h;unfold fm;unfold opC at hc;rw[acX]at hc;cases ho:o.op with
 |load t x=>
  rw[ho]at h hc;dsimp only at hc⊢;rw[ae hc.2];exact Qx h
 |_=>trivial
theorem YF{ops:List Oper}{o:Oper}{s:St}{f no:St->Prop}(h:gT ops o s f no):gK ops o s.toS (upS f) (upS no):=by
 unfold gT at h;unfold gK;cases hg:o.guard with
 |none=>rw[hg]at h;exact⟨s,⟨fun _=>rfl,rfl⟩,h⟩
 |some q=>
  obtain⟨j,want⟩:=q;rw[hg]at h;dsimp only at h⊢;cases hj:(ops[j]?).bind (·.dst)with
  |none=>rw[hj]at h;exact h.elim
  |some d=>
   rw[hj]at h;dsimp only at h⊢;split at h
   ·rename_i c hcc;rw[gG hcc];simp only[At.toV,A1.toV,Tt.toT,C.toD];cases want<;>cases c<;>simp only[ac4,if_true,if_false]at h<;>simp only[gsel]
    ·exact⟨_,oR s d false,h⟩
    ·exact⟨_,s5 s d _ _,h⟩
    ·exact⟨_,s5 s d _ _,h⟩
    ·exact⟨_,oR s d true,h⟩
   ·rename_i hcc;rw[gG hcc];exact⟨_,aD s o.dst (.tup []),h⟩
   ·exact h.elim
theorem Lw{ops:List Oper}{o:Oper}{s:St}{f f' no no':St->Prop}(hf:∀s',Ext s s'->f s'->f' s')(hn:∀s',Ext s s'->no s'->no' s')(h:gT ops o s f no):gT ops o s f' no':=by
 unfold gT at h⊢;cases hg:o.guard with
 |none=>rw[hg]at h;exact hf _ (Ext.refl s) h
 |some q=>
  obtain⟨j,want⟩:=q;rw[hg]at h;dsimp only at h⊢;cases hj:(ops[j]?).bind (·.dst)with
  |none=>rw[hj]at h;exact h.elim
  |some d=>
   rw[hj]at h;dsimp only at h⊢;split at h
   ·rename_i c _;cases want<;>cases c<;>simp only[ac4,if_true,if_false]at h⊢
    ·exact hf _ (ay _ _ _) h
    ·exact hn _ ((ay _ _ _).trans (ay _ _ _)) h
    ·exact hn _ ((ay _ _ _).trans (ay _ _ _)) h
    ·exact hf _ (ay _ _ _) h
   ·exact hn _ (ay _ _ _) h
   ·exact h.elim
theorem E0{ops:Array Oper}{K:S->Prop}{fuel:Nat}{listed:Array Bool}{i:Nat}{A:List Nat}{fz:Bool}{o:Oper}(hC:kX g.nt ops=true)(hs:Region.noSelect ops=true)(hi:ops[i]? = some o)
  (ht:zW ops listed i A fz=true) {s:St} {D:St->Prop} (hD:∀s:St,D s->AD e.P g ops Q K fuel (listed.setIfInBounds i true) s.toS)
  (h:gT ops.toList o s (fun s=>(fz=true->kW s o=true)/\qT e o s fun v=>D (s.put o.dst v)) D):AD e.P g ops Q K (fuel+1) listed s.toS:=by
 intro a w H γ F Pr hX hPr;simp only[zW,acX]at ht;obtain⟨⟨⟨⟨t1,t2⟩,t3⟩,t4⟩,t5⟩:=ht;obtain⟨c1,c2⟩:=iw hC hi;have hready:=Region.ready_mem_of_contains t2
 have hbeh:behind .any ops i (fun j=>A.contains j) listed:=by
  intro j hj hun;have:=adC.1 t4 j (by simpa using hj)
  rw[dZ.2 hun]at this;cases ho:ops[j]? with
  |none=>rw[ho]at this;simp at this
  |some oj=>
   rw[ho]at this;simp only[Bool.not_true,aeG]at this;obtain⟨e,he,h1⟩:=Array.any_eq_true'.1 this;simp only[acX,aeZ,beq_iff_eq]at h1;exact⟨oj,rfl,e,he,h1.1.1,dZ.1 h1.1.2,h1.2⟩
 have hset:∀j,(listed.setIfInBounds i true).getD j true=false->listed.getD j true=false:=fun j h=>(gE h).1
 rcases sJ hX (YF h) (dz c1) c2 with⟨hw,s0,⟨s',e0,hf,hq⟩,hX0⟩|⟨hw,s0,⟨s',e0,hno⟩,hX0⟩
 ·have hX':=aV e0 hX0
  obtain⟨z,d,B,e0,e1,e2,v',e3,hk⟩:=zA hX' c1 (Vg hX' c1 hq);subst e3;refine jp (sa g Q) (A:=fun j=>A.contains j) (B:=B) (v:=z) hi (Region.noSelect_spec hs) fuel listed Pr (fun j b=>Pr j b\/(A.contains j=false/\B b)) a w (fun j b h=>.inl h) (fun j b h1 h2=>.inr ⟨h1,h2⟩)
   (Region.free_spec hi t1) hbeh hready (.inl ⟨hw,fun w2 hs2=>e1 w2 hs2⟩) (hD _ hk (a.put o.dst z) w H γ F _ (aV (aD _ _ _) (hX'.put (dz c1) e2)) ?_)
  intro j oj hj hun;obtain⟨hun1,hji⟩:=gE hun;rcases hPr j oj hj hun1 with hp|hp
  ·exact .inl hp
  cases hfz:fz with
  |true=>
   refine .inr fun b hb=>?_
   rcases hb with hb|⟨_,hb⟩
   ·exact hp b hb
   ·exact e0 (Lv c1 (hf hfz)) b hb
  |false=>
   rw[hfz,aeG]at t5;have:=adC.1 t5 j (List.mem_range.2 (aeU.1 hj).1)
   rw[dZ.2 hun1,hj]at this;simp only[Bool.not_true,aeG,aeZ,beq_iff_eq]at this;rcases this with(this|this)|this
   ·exact absurd this hji
   ·refine .inr fun b hb=>?_
    rcases hb with hb|⟨hb,_⟩
    ·exact hp b hb
    ·rw[this]at hb;cases hb
   ·exact .inl this
 ·have hX':=aV e0 hX0
  refine jp (sa g Q) (A:=fun _=>false) (B:=fun _=>False) (v:=undef) hi (Region.noSelect_spec hs) fuel listed Pr Pr a w (fun j b h=>h) (fun j b _ h2=>h2.elim)
   (Region.free_spec hi t1) (fun j h=>by cases h) hready (.inr ⟨hw,rfl⟩) (hD _ hno (a.put o.dst undef) w H γ F _ hX' (hPr.mono hset (fun _ _ _ h=>h)))
theorem RN{ops:Array Oper}{K:S->Prop}{fuel:Nat}{listed:Array Bool}{i:Nat}{o:Oper}(he:e.ok)(hpk:∀x s,PQ e.pk x s->Q x s)(hC:kX g.nt ops=true)(hun:listed.getD i true=false)(hi:ops[i]? = some o){s:St}
  {D:St->Prop} (hD:∀s:St,D s->AD e.P g ops Q K fuel (listed.setIfInBounds i true) s.toS) (h:gT ops.toList o s (fun s=>zj e.cl o s D) D) {a:Act} {w:World} {H:FH} {γ:Gam} {F:Nm->Fp} {Pr:Nat->Bs} (hX:RX g s.toS a w H γ F) (hPr:Ph ops listed H Pr) :
  lOp e.P ops (Zx g Q) Pr i (fun a' w'=>∃Pr':Nat->Bs,(∀j b,Pr j b->Pr' j b)/\rG e.P .any ops (Zx g Q) (fun a w=>∃s',K s'/\R g s' a w) fuel (listed.setIfInBounds i true) Pr' a' w') a w:=by
 have hset:∀j,(listed.setIfInBounds i true).getD j true=false->listed.getD j true=false:=fun j h=>(gE h).1
 unfold lOp;rw[hi];obtain⟨c1,c2⟩:=iw hC hi;dsimp only;rcases sJ hX (YF h) (dz c1) c2 with⟨hw,s0,⟨s',e0,hop⟩,hX0⟩|⟨hw,s0,⟨s',e0,hno⟩,hX0⟩
 ·have hX':=aV e0 hX0
  rw[if_pos hw];by_cases hq:isQ o=true
  ·unfold zj at hop;rw[hq]at hop;dsimp only at hop;obtain⟨H1,F1,hX1,hH1⟩:=FL hX' (fun g' H F hx=>xN hx o);obtain⟨z,d,B,_,e1,e2,e3⟩:=zA hX1 c1 (Vg hX1 c1 hop);obtain⟨v',rfl,hk⟩:=e3;unfold Oper.wp;rw[e1 w (fun _ _=>rfl)];exact⟨fun _ _=>rfl,Pr,fun _ _ h=>h,hD _ hk (a.put o.dst z) w H1 γ F1 Pr (aV (aD _ _ _) (hX1.put (dz c1) e2)) (hPr.mono hset hH1)⟩
  ·have hp:∀b,Pr i b->∃x y,H b x=some y:=by
    rcases hPr i o hi hun with h|h
    ·exact absurd h hq
    ·exact h
   let g':G:=⟨g.nt,w,H,tot F s'.toS.m,g.out,g.ex,g.dfs⟩
   have hX2:RX g' s'.toS a w H γ F:=⟨hX'.mem,Fr.refl' rfl rfl rfl rfl (fun _ h=>h),hX'.nt,⟨hX'.df.1,hX'.df.2.1,dE hX'⟩,hX'.t⟩
   refine bF ?_ (fun x a' w' h=>?_) (E2 (g:=g') (e:=e.cl) (Q:=PQ e.cl.pk) he (fun _ _ h=>h) c1 hop a w ⟨H,γ,F,hX2⟩)
   ·intro a' w' ⟨s2,hs2,H2,γ2,F2,hX3⟩;have hfr:=hX3.fr
    refine⟨fun b hb=>?_,Pr,fun _ _ h=>h,?_⟩
    ·obtain⟨x,y,hxy⟩:=hp b hb;have hc:=hX'.mem.agree b x y hxy
     refine hfr.block b ?_ ?_
     ·exact hc.lt
     ·show tot F s'.toS.m b=0
      rcases adM (tot F s'.toS.m b)with h|h
      ·exact h
      ·have:=hX'.mem.nofz b kQ1 x
       rw[hxy]at this;cases this
    ·exact hD _ hs2 a' w' H2 γ2 F2 Pr ⟨hX3.mem,hX'.fr.trans hfr,hX3.nt,⟨hX3.df.1,hX3.df.2.1,hX'.df.2.2⟩,hX3.t⟩ (hPr.mono hset hfr.hold)
   ·obtain⟨s2,⟨v,t,rfl,rfl,hv⟩,H2,γ2,F2,hX3⟩:=h;exact⟨t.clr.toS,rfl,hpk _ _ ⟨v,t.clr,rfl,rfl,hv⟩,H2,γ2,F2,SR ⟨hX3.mem,hX'.fr.trans hX3.fr,hX3.nt,⟨hX3.df.1,hX3.df.2.1,hX'.df.2.2⟩,hX3.t⟩ rfl rfl⟩
 ·have hX':=aV e0 hX0
  rw[if_neg (by rw[hw];simp)];exact⟨Pr,fun _ _ h=>h,hD _ hno (a.put o.dst undef) w H γ F Pr hX' (hPr.mono hset (fun _ _ _ h=>h))⟩
theorem ke{ops:Array Oper}{listed:Array Bool}{s:St}{i:Nat}{A:List Nat}{fz:Bool}:∀{rd:List Nat},vP ops listed s rd=some (i,A,fz) ->
  ∃o,ops[i]? = some o/\zW ops listed i A fz=true/\(fz=true->kW s o=true)/\isQ o=true
 |[],h=>by cases h
 |j::r,h=>by
  simp only[vP]at h;split at h
  ·exact ke h
  ·rename_i o ho;split at h
   ·exact ke h
   ·rename_i hq;split at h
    ·rename_i hf;split at h
     ·rename_i ht;simp only[acV,Prod.mk.injEq]at h;obtain⟨rfl,rfl,rfl⟩:=h;exact⟨o,ho,ht,fun _=>hf,hq⟩
     ·exact ke h
    ·split at h
     ·rename_i ht;simp only[acV,Prod.mk.injEq]at h;obtain⟨rfl,rfl,rfl⟩:=h;exact⟨o,ho,ht,fun h=>(by cases h),hq⟩
     ·exact ke h
theorem FSx{f:Nat->Prop}:∀{l:List Nat},PA f l->∀i∈l,f i
 |[i],h,j,hj=>by simp only[ac9]at hj;subst hj;exact h
 |i::i'::r,h,j,hj=>by
  simp only[ac8]at hj;rcases hj with rfl|hj
  ·exact h.1
  ·exact FSx h.2 j (by simpa using hj)
theorem Q8{s:St}{o:Oper}{t:TypeId}{x:Operand}(h:o.op=.load t x):AP s o=s:=by unfold AP;rw[h]
theorem rH(he:e.ok)(hpk:∀x s,PQ e.pk x s->Q x s){ops:Array Oper}{K:S->Prop}(hC:kX g.nt ops=true)(hs:Region.noSelect ops=true)(hK:∀t:St,k t->K t.toS) :
  ∀(fuel:Nat)(listed:Array Bool)(s:St),fB e ops fuel listed s k->AD e.P g ops Q K fuel listed s.toS
 |0,listed,s,h=>by
  simp only[fB]at h;split at h
  ·rename_i hr;exact RM hr (hK s h) 0
  ·exact h.elim
 |fuel+1,listed,s,h=>by
  simp only[fB]at h;split at h
  ·rename_i hr;exact RM hr (hK s h) _
  ·rename_i i0 rd hr;split at h
   ·rename_i i A fz hp;obtain⟨o,hi,ht,hf,hq⟩:=ke hp;rw[hi]at h;dsimp only at h;obtain⟨c1,c2⟩:=iw hC hi;split at h
    ·rename_i hg;intro a w H γ F Pr hX hPr;obtain⟨H1,F1,hX1,hH1⟩:=FL hX (fun g' H F hx=>xN hx o);refine E0 (D:=fun s'=>fB e ops fuel (listed.setIfInBounds i true) s' k) hC hs hi ht (fun s' hs'=>rH he hpk hC hs hK fuel _ _ hs') ?_ a w H1 γ F1 Pr hX1 (hPr.mono (fun _ h=>h) hH1);unfold gT;rw[hg];refine⟨fun hfz=>?_,h⟩;have:=hf hfz
     cases hop:o.op with
     |load t x=>rw[Q8 hop];exact this
     |_=>unfold kW;rw[hop]
    ·rename_i q hg;refine E0 (D:=fun s'=>fB e ops fuel (listed.setIfInBounds i true) s' k) hC hs hi ht (fun s' hs'=>rH he hpk hC hs hK fuel _ _ hs') ?_;refine Lw (fun s' _ hs'=>?_) (fun _ _ h=>h) h;split at hs'
     ·rename_i hb;refine⟨fun hfz=>?_,hs'⟩;rw[hfz]at hb;simpa using hb
     ·exact hs'.elim
   ·intro a w H γ F Pr hX hPr;refine⟨fun h0=>absurd (hr ▸ h0) (by simp),fun i hi=>?_⟩;have hun:listed.getD i true=false:=(mem_ready.1 hi).1
    have hfi:=FSx h i (hr ▸ hi)
    cases ho:ops[i]? with
    |none=>rw[ho]at hfi;exact hfi.elim
    |some o=>
     rw[ho]at hfi;exact RN he hpk hC hun ho (fun s hs'=>rH he hpk hC hs hK fuel _ s hs') hfi hX hPr
theorem R0{id:Nat}{l:List Oper}(he:e.ok)(hpk:∀x s,PQ e.pk x s->Q x s)(hm:e.P.follows .mixedOrders=true)(hC:kX g.nt l.toArray=true)(hs:Region.noSelect l.toArray=true){s:St}
  (hQ:∀t:St,k t->Q .normal t.toS) (h:fB e l.toArray l.toArray.size (Array.replicate l.toArray.size false) s k):AW e.P g (.region id l.toArray true) Q s.toS:=by
 intro a w hR;refine wp_region_any hm (nA (Z:=Zx g Q) (Q:=fun a w=>∃s',Q .normal s'/\R g s' a w) (fun a w h=>h) (fun e a w h=>Wb h) _ _ (fun _ _=>False) _ _ ?_);obtain⟨H,γ,F,hX⟩:=hR;exact rH (Q:=Q) he hpk hC hs hQ _ _ s h a _ H γ F _ (SM hX _ rfl rfl rfl rfl) (fun j o _ _=>.inr fun b hb=>hb.elim)
theorem FR{f f':Nat->Prop}(h:∀i,f i->f' i):∀{l:List Nat},PA f l->PA f' l
 |[],_=>trivial
 |[i],hh=>h i hh
 |i::i'::r,hh=>⟨h i hh.1,FR h (l:=i'::r) hh.2⟩
theorem ju(he:e.ok){ops:Array Oper}{k':St->Prop}:∀{fuel:Nat}{listed:Array Bool}{s:St},(∀s',Ext s s'->k s'->k' s')->fB e ops fuel listed s k->fB e ops fuel listed s k'
 |0,listed,s,hk,h=>by
  simp only[fB]at h⊢;split at h
  ·exact hk _ (Ext.refl s) h
  ·exact h.elim
 |fuel+1,listed,s,hk,h=>by
  simp only[fB]at h⊢;split at h
  ·exact hk _ (Ext.refl s) h
  ·split at h
   ·split at h
    ·split at h
     ·exact Es (fun v hv=>ju he (fun s' hE=>hk s' (((Fx _ _).trans (ay _ _ _)).trans hE)) hv) h
     ·refine Lw (fun s1 h1 hs1=>?_) (fun s1 h1 hs1=>ju he (fun s' hE=>hk s' (h1.trans hE)) hs1) h;split at hs1
      ·exact Es (fun v hv=>ju he (fun s' hE=>hk s' ((h1.trans (ay _ _ _)).trans hE)) hv) hs1
      ·exact hs1.elim
    ·exact h.elim
   ·refine FR (fun i hi=>?_) h;split at hi
    ·exact Lw (fun s1 h1 hs1=>I7 (e:=e.cl) he (fun s2 h2 hs2=>ju he (fun s' hE=>hk s' ((h1.trans h2).trans hE)) hs2) hs1) (fun s1 h1 hs1=>ju he (fun s' hE=>hk s' (h1.trans hE)) hs1) hi
    ·exact hi.elim
end
def pY(N:List Nm):T->Prop
 |.pl p=>p.root∈N
 |.rf p=>p.root∈N
 |_=>True
def wR(N:List Nm):AV1->Prop
 |.c t=>pY N t
 |.agg ts=>∀t∈ts,pY N t
def Kf(N:List Nm):AV->Prop
 |.one x=>wR N x
 |.tup xs=>∀x∈xs,wR N x
 |.any=>True
def fS(r:Root):Root:=⟨r.blk,r.cells.map T.canon⟩
def mL(r r':Root):Prop:=r'.blk=r.blk/\r'.cells.length=r.cells.length/\∀(i:Nat)t t',r.cells[i]? = some t->r'.cells[i]? = some t'->t'=t\/t'=t.canon
theorem mL.refl(r:Root):mL r r:=⟨rfl,rfl,fun i t t' h1 h2=>.inl (by rw[h1]at h2;exact(Option.some.inj h2).symm)⟩
theorem mL.canon(r:Root):mL r (fS r):=⟨rfl,by simp[fS],fun i t t' h1 h2=>.inr (by simp only[fS,acZ,h1,Option.map_some,acV]at h2;exact h2.symm)⟩
theorem mL.of{r r':Root}(h:r'=r\/r'=fS r):mL r r':=by
 rcases h with rfl|rfl
 ·exact mL.refl _
 ·exact mL.canon _
theorem q8:∀{m:Mm}{n:Nm}{r:Root},(m.map (·.1)).Nodup->(n,r)∈m->aa m n=some r
 |[],_,_,_,h=>by cases h
 |(k,x)::m,n,r,hn,h=>by
  simp only[List.map_cons,aeD]at hn;simp only[aa];rcases ac8.1 h with h|h
  ·cases h;rw[if_pos rfl]
  ·rw[if_neg (fun e=>hn.1 (by subst e;exact adO (f:=(·.1)) h)),q8 hn.2 h]
theorem JB{F:Nm->Fp}{b:Nat}:∀{m' m:Mm},(m'.map (·.1)).Nodup->(m.map (·.1)).Nodup->(∀x∈m',∃r,aa m x.1=some r)->tot F m' b<=tot F m b
 |[],_,_,_,_=>ad1 _
 |x::m',m,h1,h2,h=>by
  simp only[List.map_cons,aeD]at h1;obtain⟨r,hr⟩:=h x (by simp);have e:=iC (F:=F) hr b
  have ih:=JB (F:=F) (b:=b) (m':=m') (m:=bj m x.1) h1.2 (zb h2) (fun y hy=>by
   obtain⟨r',hr'⟩:=h y (adB _ hy);refine⟨r',?_⟩;rw[jx (fun e=>h1.1 (by rw[<- e];exact adO (f:=(·.1)) hy))];exact hr')
  show F x.1 b+tot F m' b<=tot F m b
  omega
section
variable {g:G} {a:Act} {w:World} {H:FH} {γ:Gam} {F:Nm->Fp}
theorem Kp{R R':T->Fp->Value->Prop}:∀{ts:List T}{ts':List T}{f:Fp}{vs:List Value},ts'.length=ts.length->(∀(i:Nat)t t' f v,ts[i]? = some t->ts'[i]? = some t'->R t f v->R' t' f v)->Ts R ts f vs->Ts R' ts' f vs
 |[],[],_,_,_,_,h=>h
 |t::ts,t'::ts',f,vs,hl,hi,h=>by
  obtain⟨v,r,f1,f2,e1,e2,h1,h2⟩:=h;exact⟨v,r,f1,f2,e1,e2,hi 0 t t' _ _ rfl rfl h1,Kp (by simpa using hl) (fun i=>hi (i+1)) h2⟩
theorem SU{s s':S}(hX:RX g s a w H γ F)(hnd:(s'.m.map (·.1)).Nodup)
  (hm:∀x∈s'.m,∃r,aa s.m x.1=some r/\mL r x.2/\∀t∈r.cells,pY (s'.m.map (·.1)) t)
  (ht:∀i,aH s'.t i=.any\/((aH s'.t i=aH s.t i\/aH s'.t i=(aH s.t i).map T.canon)/\Kf (s'.m.map (·.1)) (aH s.t i))):RX g s' a w H γ F:=by
 have hget:∀n,n∈s'.m.map (·.1)->∃r r',aa s.m n=some r/\aa s'.m n=some r'/\mL r r':=by
  intro n hn;obtain⟨x,hx,rfl⟩:=adR.1 hn;obtain⟨r,h1,h2,_⟩:=hm x hx;exact⟨r,x.2,h1,q8 hnd hx,h2⟩
 have cell:∀{r r':Root},mL r r'->r'.cells.length=r.cells.length/\∀(i:Nat)sub l,r.cells[i]? = some (.ow sub l)->r'.cells[i]? = some (.ow sub l):=by
  rintro r r' ⟨_,h2,h3⟩
  refine⟨h2,fun i sub l h=>?_⟩;have hlt:i<r'.cells.length:=by rw[h2];exact ah h
  rw[acW hlt];rcases h3 i _ _ h (acW hlt)with e|e
  ·rw[e]
  ·rw[e];rfl
 have pl:∀p,p.root∈s'.m.map (·.1)->bz s.m p->bz s'.m p:=by
  intro p hp h;obtain⟨r,r',e1,e2,e3⟩:=hget _ hp;obtain⟨c1,c2⟩:=cell e3;unfold bz at h⊢;rw[e1]at h;rw[e2];dsimp only at h⊢;cases hpath:p.path with
  |nil=>rw[hpath]at h;dsimp only at h⊢;omega
  |cons st q=>
   rw[hpath]at h;dsimp only at h⊢;split at h
   ·rename_i sub l hc;rw[c2 _ _ _ hc];exact h
   ·exact h.elim
 have rf:∀p,p.root∈s'.m.map (·.1)->fI s.m p->fI s'.m p:=by
  intro p hp h;obtain⟨r,r',e1,e2,e3⟩:=hget _ hp;obtain⟨c1,c2⟩:=cell e3;unfold fI at h⊢;rw[e1]at h;rw[e2];dsimp only at h⊢;split at h
  ·rename_i sub l hc hpath;rw[c2 _ _ _ hc,hpath];trivial
  ·rename_i l hc hpath;have hlt:p.off<r'.cells.length:=by rw[c1];exact ah hc
   have hc':r'.cells[p.off]? = some (.mp l):=by
    rw[acW hlt];rcases e3.2.2 p.off _ _ hc (acW hlt)with e|e
    ·rw[e]
    ·rw[e];rfl
   rw[hc',hpath];trivial
  ·rename_i cur l hc hpath;have hlt:p.off<r'.cells.length:=by rw[c1];exact ah hc
   have hc':∃cur',r'.cells[p.off]? = some (.it cur' l):=by
    rw[acW hlt];rcases e3.2.2 p.off _ _ hc (acW hlt)with e|e
    ·exact⟨cur,by rw[e]⟩
    ·exact⟨none,by rw[e];rfl⟩
   obtain⟨cur',hc'⟩:=hc';rw[hc',hpath];trivial
  ·rename_i sub l st q hc hpath;rw[c2 _ _ _ hc,hpath];exact h
  ·exact h.elim
 have tr:∀{t:T}{f:Fp}{v:Value},pY (s'.m.map (·.1)) t->TR w H γ s.m t f v->TR w H γ s'.m t f v:=by
  intro t f v hin h;cases t with
  |pl p=>exact⟨h.1,pl p hin h.2.1,h.2.2⟩
  |rf p=>exact⟨h.1,rf p hin h.2.1,h.2.2⟩
  |_=>exact h
 have trc:∀{t:T}{f:Fp}{v:Value},pY (s'.m.map (·.1)) t->TR w H γ s.m t f v->TR w H γ s'.m t.canon f v:=by
  intro t f v hin h;have h':=tr hin h
  cases t with
  |nil=>exact⟨h'.1,(bW (w:=w) (H:=H) (γ:=γ) (m:=s'.m) .nil v ⟨fun _=>rfl,h'.2⟩).2⟩
  |it cur rest=>exact Ys h'
  |_=>exact h'
 have hsub:∀b,tot F s'.m b<=tot F s.m b:=fun b=>JB hnd hX.mem.keys (fun x hx=>by obtain⟨r,h,_⟩:=hm x hx;exact⟨r,h⟩)
 refine⟨⟨hX.mem.agree,fun x hx=>?_,hnd,fun b=>aeF (hsub b) (hX.mem.le1 b),fun b hb=>hX.mem.lt b (by have:=hsub b;omega),fun b hb=>hX.mem.nofz b (by have:=hsub b;omega)⟩,
  ⟨hX.fr.size,hX.fr.os,hX.fr.tape,hX.fr.output,hX.fr.block,hX.fr.hold,hX.fr.hnew,fun b hb=>hX.fr.tt b (by have:=hsub b;omega),hX.fr.nz⟩,hX.nt,hX.df,fun i=>?_⟩
 ·obtain⟨r,h1,h2,h3⟩:=hm x hx;have hR:=hX.mem.roots _ (ac h1)
  have hlen:=(cell h2).1
  have key:∀(i:Nat)t t' f v,r.cells[i]? = some t->x.2.cells[i]? = some t'->TR w H γ s.m t f v->TR w H γ s'.m t' f v:=by
   intro i t t' f v e1 e2 h;have hin:=h3 t (adK e1)
   rcases h2.2.2 i t t' e1 e2 with e|e
   ·rw[e];exact tr hin h
   ·rw[e];exact trc hin h
  have hblk:x.2.blk=r.blk:=h2.1
  unfold ba at hR⊢;rw[hblk];split at hR
  ·rename_i hb;rw[if_pos hb];obtain⟨b,cs,ty,fz,g',k1,k2,k3,k4,k5,k6⟩:=hR;exact⟨b,cs,ty,fz,g',k1,k2,k3,by rw[hlen];exact k4,Kp hlen key k5,k6⟩
  ·rename_i hb;rw[if_neg hb];obtain⟨v,t,k1,k2,k3⟩:=hR;dsimp only at k2;rw[k2]at hlen key
   match hc:x.2.cells,hlen with
   |[t'],_=>exact⟨v,t',k1,rfl,key 0 t t' _ _ rfl (by rw[hc];rfl) k3⟩
 ·rcases ht i with h|⟨h,hin⟩
  ·rw[h];trivial
  ·have hv:=hX.t i
   have one:∀{x:AV1}{y:Value},wR (s'.m.map (·.1)) x->AR1 w H γ s.m x y->AR1 w H γ s'.m x y:=by
    intro x y hin h;cases x with
    |c t=>exact tr hin h
    |agg ts=>
     obtain⟨cs,e1,e2,e3⟩:=h;refine⟨cs,e1,e2,Kp rfl (fun i t t' f v h1 h2 h=>?_) e3⟩;rw[h1]at h2;obtain rfl:=Option.some.inj h2;exact tr (hin t (adK h1)) h
   have all:AR w H γ s'.m (aH s.t i) (g.tv a i):=by
    revert hv hin
    cases aH s.t i with
    |one x=>exact fun hin hv=>one hin hv
    |tup xs=>
     rintro hin ⟨l,e,hl⟩
     refine⟨l,e,?_⟩;have:∀(xs:List AV1)(ys:List Value),(∀x∈xs,wR (s'.m.map (·.1)) x)->ARs w H γ s.m xs ys->ARs w H γ s'.m xs ys:=by
      intro xs;induction xs with
      |nil=>intro ys _ h;cases ys<;>exact h
      |cons x xs ih=>
       intro ys hin h;cases ys with
       |nil=>exact h.elim
       |cons y ys=>exact⟨one (hin x (by simp)) h.1,ih ys (fun z hz=>hin z (adB _ hz)) h.2⟩
     exact this xs _ hin hl
    |any=>exact fun _ _=>trivial
   rcases h with h|h
   ·rw[h];exact all
   ·rw[h];exact dw bW all
end
section
variable {g:G} {a:Act} {w:World}
theorem Pu{s:S}{H:FH}{γ:Gam}{F:Nm->Fp}(h:RX g s a w H γ F):R g s a w:=⟨H,γ,F,h⟩
theorem yK(n:Nm):∀m:List (Nm×Nat×Rt),be (dq m n) n=none
 |[]=>rfl
 |(k,j,v)::m=>by
  simp only[dq];by_cases h:k=n
  ·rw[if_pos h];exact yK n m
  ·rw[if_neg h];simp only[be];rw[if_neg h];exact yK n m
theorem Lx(s:St)(n:Nm):be (s.fresh n).m n=none:=by
 unfold St.fresh;split
 ·assumption
 ·show be (bH _ _ (dq s.m n)) n=none
  rw[B9,yK];rfl
theorem Bu(s:St)(k:Nat)(sh:List Sh)(u:U):Ext s (Cq s k sh u):=by
 unfold Cq;split
 ·refine(bx s (jj k)).trans ⟨ad3 _,tO _ _ _ (ac1 _),jq _ _ _ (ac1 _)⟩
 ·split
  ·refine((rW s _).trans (bx _ (jj k))).trans ⟨ad3 _,tO _ _ _ (ac1 _),jq _ _ _ (ac1 _)⟩
  ·exact Ext.refl s
 ·exact Ext.refl s
theorem NY{s:St}(h:R g s.toS a w)(k:Nat)(sh:List Sh)(u:U):R g (Cq s k sh u).toS a w:=by
 obtain⟨H,γ,F,hX⟩:=h;have hn:=d9 hX
 unfold Cq;split
 ·rename_i hv;obtain⟨γ',F',h'⟩:=NT hX k (jj k) sh;refine By ?_ (Pu h');unfold Q6;rw[gG hv];simp only[At.toV,A1.toV,Tt.toT];have e:aa (s.toS.fresh (jj k)).m (jj k)=none:=by
   rw[<- br hn,show(s.fresh (jj k)).toS.m=toM (s.fresh (jj k)).m from rfl,sI,Lx];rfl
  rw[e];show SEq ⟨nM (s.toS.fresh (jj k)).t k _,_⟩ _
  rw[<- br hn];refine⟨fun i=>?_,rfl⟩;show aH (nM _ k _) i=aH ((k,_)::_) i
  rw[gF];rfl
 ·rename_i n hv;split
  ·rename_i sh' u' l' hne hr;obtain⟨γ',F',h'⟩:=NT hX k (jj k) sh;refine By ?_ (Pu h');unfold Q6;rw[gG hv];simp only[At.toV,A1.toV,Tt.toT];rw[show aa s.toS.m n=some (⟨false,[.ow sh' u' l'],none⟩:Rt).toR from aP hr];show SEq ⟨nM ((s.toS.drop n).fresh (jj k)).t k _,_⟩ _
   rw[<- aY hn,<- br (NP hn)];refine⟨fun i=>?_,rfl⟩;show aH (nM _ k _) i=aH ((k,_)::_) i
   rw[gF];rfl
  ·exact⟨H,γ,F,hX⟩
 ·exact⟨H,γ,F,hX⟩
theorem cK(n:Nm)(us:List U):∀(sh:List Sh)(off:Nat)(s:St),Ext s (a8 s n us sh off)
 |[],_,s=>Ext.refl s
 |.ow sub::r,off,s=>by
  simp only[a8];split
  ·split
   ·rename_i cells hr _ _ u hc hu;have h1:Ext s ⟨s.nx+1,s.t,cu s.m n s.nx ⟨true,cells.set off (.ow sub u []),none⟩⟩:=⟨ad3 _,fun _ _ _ h _=>h,cx _ _ (ac1 _) _⟩
    exact h1.trans (cK n us r (off+1) _)
   ·exact cK n us r (off+1) s
  ·exact Ext.refl s
 |.fr::r,off,s=>by
  simp only[a8];split
  ·split
   ·exact(tP s _).trans (cK n us r (off+1) _)
   ·exact cK n us r (off+1) s
  ·exact Ext.refl s
theorem NX{s:St}(h:R g s.toS a w)(q:Pl):R g (sH s q).toS a w:=by
 obtain⟨H,γ,F,hX⟩:=h;obtain⟨H',F',h'⟩:=ug hX q;exact⟨H',γ,F',h'⟩
theorem NW{s:St}(h:R g s.toS a w)(v:At):R g (ef s v).toS a w:=by
 obtain⟨H,γ,F,hX⟩:=h;obtain⟨H',F',h'⟩:=fw hX v;exact⟨H',γ,F',h'⟩
theorem cc(n:Nm)(us:List U):∀(sh:List Sh)(off:Nat){s:St},R g s.toS a w->R g (a8 s n us sh off).toS a w
 |[],_,_,h=>h
 |.ow sub::r,off,s,h=>by
  simp only[a8];split
  ·rename_i cells hr;split
   ·rename_i u hc hu;refine cc n us r (off+1) ?_;obtain⟨H,γ,F,hX⟩:=h;have h':=V8 hX n off sub
    have e:s.toS.ownR n off sub=(⟨s.nx+1,s.t,cu s.m n s.nx ⟨true,cells.set off (.ow sub u []),none⟩⟩:St).toS:=by
     unfold S.ownR;rw[show aa s.toS.m n=some (⟨true,cells,none⟩:Rt).toR from aP hr];have ec:(⟨true,cells,none⟩:Rt).toR.cells[off]? = some .nil:=by
      show(cells.map Tt.toT)[off]? = _
      rw[acZ,hc];rfl
     show(match(⟨true,cells,none⟩:Rt).toR.cells[off]? with|some .nil=>_|_=>_)=_
     rw[ec];refine aY.S_ext rfl ?_;show _=toM (cu s.m n s.nx _)
     rw[dO]
     congr 1
     simp only[Rt.toR,holed,ad0,Tt.toT];rfl
    rw[<- e];exact Pu h'
   ·exact cc n us r (off+1) h
  ·exact h
 |.fr::r,off,s,h=>by
  simp only[a8];split
  ·split
   ·exact cc n us r (off+1) (NX h _)
   ·exact cc n us r (off+1) h
  ·exact h
theorem fL:∀(sp:List Sp)(s:St),Ext s (prep sp s)
 |[],s=>Ext.refl s
 |.sl k u::r,s=>(fu s _).trans (fL r _)
 |.ow k sh u::r,s=>(Bu s k sh u).trans (fL r _)
 |.rt n sh u::r,s=>(cK n _ (unmark sh) 0 s).trans (fL r _)
 |.mp _ _ _::r,s=>fL r s
 |.mo _ _ _::r,s=>fL r s
 |.it _ _ _::r,s=>fL r s
 |.gw _ _ _::r,s=>fL r s
theorem mQ:∀(sp:List Sp){s:St},R g s.toS a w->R g (prep sp s).toS a w
 |[],_,h=>h
 |.sl k u::r,_,h=>mQ r (NW h _)
 |.ow k sh u::r,_,h=>mQ r (NY h k sh u)
 |.rt n sh u::r,_,h=>mQ r (cc n _ (unmark sh) 0 h)
 |.mp _ _ _::r,_,h=>mQ r h
 |.mo _ _ _::r,_,h=>mQ r h
 |.it _ _ _::r,_,h=>mQ r h
 |.gw _ _ _::r,_,h=>mQ r h
mutual
theorem XW:∀{a b:Sh},abD a b=true->a=b
 |.fr,.fr,_=>rfl
 |.ow a,.ow b,h=>by rw[iB (show mB a b=true from h)]
theorem iB:∀{a b:List Sh},mB a b=true->a=b
 |[],[],_=>rfl
 |a::r,b::q,h=>by
  simp only[mB,acX]at h;rw[XW h.1,iB h.2]
end
def CL:List Tt->List C->Prop
 |[],[]=>True
 |t::ts,c::cs=>((t=.d c\/t=.d .nm/\∃k v,c=.mp k v none)\/(t=.nil/\∃u',c=.li u' []))/\CL ts cs
 |_,_=>False
theorem Ol{u:U}{t:Tt}{x:El u}(h:Ao u t=some x):(t=.d (aj u x)\/t=.d .nm/\∃k v,aj u x=.mp k v none)\/(t=.nil/\∃u',aj u x=.li u' []):=by
 unfold Ao at h;split at h
 ·split at h
  ·simp only[acV]at h;subst h;exact .inl (.inr ⟨rfl,_,_,rfl⟩)
  ·cases h
 ·rw[cv h];exact .inl (.inl (by rw[<- cv h]))
 ·split at h
  ·simp only[acV]at h;subst h;exact .inr ⟨rfl,_,rfl⟩
  ·cases h
 ·cases h
theorem GI:∀{us:List U}{ts:List Tt}{x:Fl us},kN us ts=some x->CL ts (dG us x)
 |[],[],_,_=>trivial
 |u::r,c::cs,x,h=>by
  simp only[kN]at h;cases h1:Ao u c with
  |none=>rw[h1]at h;cases h
  |some y=>
   cases h2:kN r cs with
   |none=>rw[h1,h2]at h;cases h
   |some z=>
    rw[h1,h2]at h;simp only[acV]at h;subst h;rw[dG,sK,tw];exact⟨Ol h1,GI h2⟩
 |[],_::_,_,h=>by simp[kN]at h
 |_::_,[],_,h=>by simp[kN]at h
theorem jg{u:U}{ts:List Tt}{x:El u}(h:gz u ts=some x):CL ts (flat u x):=by
 cases u with
 |st n=>
  simp only[gz]at h;cases h1:kN (sd n).fs ts with
  |none=>rw[h1]at h;cases h
  |some y=>
   rw[h1]at h;have:=Option.some.inj h
   subst this;show CL ts (dG (sd n).fs ((sd n).un ((sd n).mkF y)))
   rw[(sd n).l2];exact GI h1
 |_=>
  cases ts with
  |nil=>cases h
  |cons t r=>cases r with
   |nil=>rw[jv rfl];exact⟨Ol h,trivial⟩
   |cons _ _=>cases h
theorem wV:∀{ts:List Tt}{cs:List C},CL ts cs->(cs.map Tt.d).map Tt.toT=(ts.map Tt.toT).map T.canon/\∀N,∀t∈ts.map Tt.toT,pY N t
 |[],[],_=>⟨rfl,fun _ _ h=>by simp at h⟩
 |t::ts,c::cs,h=>by
  obtain⟨h1,h2⟩:=h;obtain⟨k1,k2⟩:=wV h2;simp only[List.map_cons,k1];rcases h1 with(rfl|⟨rfl,k,v,rfl⟩)|⟨rfl,u',rfl⟩
  ·exact⟨rfl,fun N t ht=>by
    rcases ac8.1 ht with rfl|ht
    ·trivial
    ·exact k2 N t ht⟩
  ·exact⟨rfl,fun N t ht=>by
    rcases ac8.1 ht with rfl|ht
    ·trivial
    ·exact k2 N t ht⟩
  ·exact⟨rfl,fun N t ht=>by
    rcases ac8.1 ht with rfl|ht
    ·trivial
    ·exact k2 N t ht⟩
 |[],_::_,h=>h.elim
 |_::_,[],h=>h.elim
theorem yr{u:U}{v:At}{x:El u}(h:oy u v=some x):(zX u x).toV=v.toV.map T.canon/\∀N,Kf N v.toV:=by
 unfold oy at h;split at h
 ·rename_i y;unfold TP at h;split at h
  ·rename_i t;split at h
   ·rename_i hl;have hc:=jg h
    rw[jv hl]at hc;obtain⟨k1,k2⟩:=wV hc;have e:(zX u x)=sct (aj u x):=by cases u<;>first|rfl|cases hl
    rw[e];refine⟨?_,fun N=>k2 N t.toT (by simp)⟩;have:=congrArg (·[0]?) k1
    simp only[List.map_cons,List.map_nil,adX,acV]at this;simp only[At.toV,A1.toV,AV.map,AV1.map,this]
   ·cases h
  ·rename_i ts;split at h
   ·cases h
   ·rename_i hl;obtain⟨k1,k2⟩:=wV (jg h);have e:(zX u x)=.one (.agg ((flat u x).map Tt.d)):=by cases u<;>first|rfl|cases hl
    rw[e];exact⟨by simp only[At.toV,A1.toV,AV.map,AV1.map,k1],fun N=>k2 N⟩
 ·cases h
theorem pU:∀{sh:List Sh}{cells ts:List Tt}{cs:List C},dx sh cells=some ts->CL ts cs->(aB sh cs).map Tt.toT=(cells.map Tt.toT).map T.canon/\∀N,∀t∈cells.map Tt.toT,pY N t
 |[],[],ts,cs,h,hc=>by
  simp only[dx,acV]at h;subst h;cases cs with
  |nil=>exact⟨rfl,fun _ _ h=>by simp at h⟩
  |cons _ _=>exact hc.elim
 |.ow s::r,c::cells,ts,cs,h,hc=>by
  cases c with
  |ow s' u l=>
   simp only[dx]at h;split at h
   ·rename_i ts' hs hr;simp only[acV]at h;subst h;cases cs with
    |nil=>exact hc.elim
    |cons c cs=>
     obtain⟨h1,h2⟩:=hc;obtain⟨k1,k2⟩:=pU hr h2;rcases h1 with(h1|⟨h1,_⟩)|⟨h1,_⟩
     ·simp only[Tt.d.injEq]at h1;subst h1;rw[iB hs];simp only[aB,List.map_cons,k1];exact⟨rfl,fun N t ht=>by
       rcases ac8.1 ht with rfl|ht
       ·trivial
       ·exact k2 N t ht⟩
     ·cases h1
     ·cases h1
   ·cases h
  |_=>simp[dx]at h
 |.fr::r,c::cells,ts,cs,h,hc=>by
  have go:∀{t:Tt}{ts':List Tt},c=t->dx r cells=some ts'->ts=t::ts'->(∃x,t=.d x)\/t=.nil->(aB (.fr::r) cs).map Tt.toT=((c::cells).map Tt.toT).map T.canon/\∀N,∀t∈(c::cells).map Tt.toT,pY N t:=by
   rintro t ts' rfl hr rfl hk
   cases cs with
   |nil=>exact hc.elim
   |cons c' cs=>
    obtain⟨h1,h2⟩:=hc;obtain⟨k1,k2⟩:=pU hr h2;have e:aB (.fr::r) (c'::cs)=.d c'::aB r cs:=by cases c'<;>rfl
    rw[e];simp only[List.map_cons,k1];rcases h1 with(rfl|⟨rfl,k,v,rfl⟩)|⟨rfl,u',rfl⟩
    ·exact⟨rfl,fun N t ht=>by
      rcases ac8.1 ht with rfl|ht
      ·trivial
      ·exact k2 N t ht⟩
    ·exact⟨rfl,fun N t ht=>by
      rcases ac8.1 ht with rfl|ht
      ·trivial
      ·exact k2 N t ht⟩
    ·exact⟨rfl,fun N t ht=>by
      rcases ac8.1 ht with rfl|ht
      ·trivial
      ·exact k2 N t ht⟩
  cases c with
  |d x=>
   simp only[dx]at h;split at h
   ·rename_i ts' hr;exact go rfl hr (Option.some.inj h).symm (.inl ⟨x,rfl⟩)
   ·cases h
  |nil=>
   simp only[dx]at h;split at h
   ·rename_i ts' hr;exact go rfl hr (Option.some.inj h).symm (.inr rfl)
   ·cases h
  |_=>simp[dx]at h
 |[],_::_,_,_,h,_=>by simp[dx]at h
 |.ow _::_,[],_,_,h,_=>by simp[dx]at h
 |.fr::_,[],_,_,h,_=>by simp[dx]at h
theorem Vz:∀{sh:List Sh}{cells ts:List Tt}{cs:List C},gf sh cells=some ts->CL ts cs ->
  (((cF sh cs).map Tt.toT).length=(cells.map Tt.toT).length/\∀(i:Nat)t t',(cells.map Tt.toT)[i]? = some t->((cF sh cs).map Tt.toT)[i]? = some t'->t'=t\/t'=t.canon)/\∀N,∀t∈cells.map Tt.toT,pY N t:=by
 intro sh;induction sh with
 |nil=>
  intro cells ts cs h hc;cases cells with
  |nil=>
   simp only[gf,acV]at h;subst h;cases cs with
   |nil=>exact⟨⟨rfl,fun i t t' h=>by simp at h⟩,fun _ _ h=>by simp at h⟩
   |cons _ _=>exact hc.elim
  |cons _ _=>simp[gf]at h
 |cons s r ih=>
  intro cells ts cs h hc;cases cells with
  |nil=>cases s with
   |fr=>simp[gf]at h
   |ow a=>cases a<;>simp[gf]at h
  |cons c cells=>
   have go:∀{t0:Tt}{c':C}{cs':List C}{ts':List Tt},gf r cells=some ts'->CL ts' cs'->cF (s::r) (c'::cs')=t0::cF r cs'->(t0.toT=c.toT\/t0.toT=c.toT.canon)->(∀N,pY N c.toT) ->
     (((cF (s::r) (c'::cs')).map Tt.toT).length=((c::cells).map Tt.toT).length/\∀(i:Nat)t t',((c::cells).map Tt.toT)[i]? = some t->((cF (s::r) (c'::cs')).map Tt.toT)[i]? = some t'->t'=t\/t'=t.canon)/\∀N,∀t∈(c::cells).map Tt.toT,pY N t:=by
    intro t0 c' cs' ts' h1 h2 h3 h4 h5;obtain⟨⟨k1,k2⟩,k3⟩:=ih h1 h2;rw[h3];refine⟨⟨by simp only[List.map_cons,ac0,k1],fun i t t' e1 e2=>?_⟩,fun N t ht=>?_⟩
    ·cases i with
     |zero=>
      simp only[List.map_cons,adX,acV]at e1 e2;rw[<- e1,<- e2];exact h4
     |succ i=>
      simp only[List.map_cons,ad9]at e1 e2;exact k2 i t t' e1 e2
    ·rcases ac8.1 ht with rfl|ht
     ·exact h5 N
     ·exact k3 N t ht
   cases s with
   |fr=>
    have gofr:∀{t:Tt}{ts':List Tt},c=t->gf r cells=some ts'->ts=t::ts'->(∃x,t=.d x)\/t=.nil->(((cF (.fr::r) cs).map Tt.toT).length=((c::cells).map Tt.toT).length/\∀(i:Nat)t t',((c::cells).map Tt.toT)[i]? = some t->((cF (.fr::r) cs).map Tt.toT)[i]? = some t'->t'=t\/t'=t.canon)/\∀N,∀t∈(c::cells).map Tt.toT,pY N t:=by
     rintro t ts' rfl hr rfl hk
     cases cs with
     |nil=>exact hc.elim
     |cons c' cs=>
      have e:cF (.fr::r) (c'::cs)=.d c'::cF r cs:=by cases c'<;>rfl
      obtain⟨h1,h2⟩:=hc;refine go hr h2 e ?_ ?_
      ·rcases h1 with(h1|⟨h1,k,v,h1'⟩)|⟨h1,u',h1'⟩
       ·rw[h1];exact .inl rfl
       ·rw[h1,h1'];exact .inl rfl
       ·rw[h1,h1'];exact .inr rfl
      ·intro N;rcases hk with⟨x,hx⟩|hx
       ·rw[hx];trivial
       ·rw[hx];trivial
    cases c with
    |d x=>
     simp only[gf]at h;split at h
     ·rename_i ts' hr;exact gofr rfl hr (Option.some.inj h).symm (.inl ⟨x,rfl⟩)
     ·cases h
    |nil=>
     simp only[gf]at h;split at h
     ·rename_i ts' hr;exact gofr rfl hr (Option.some.inj h).symm (.inr rfl)
     ·cases h
    |_=>simp[gf]at h
   |ow a=>
    cases a with
    |nil=>
     cases c with
     |nil=>
      simp only[gf]at h;split at h
      ·rename_i ts' hr;simp only[acV]at h;subst h;cases cs with
       |nil=>exact hc.elim
       |cons c' cs=>exact go hr hc.2 rfl (.inl rfl) (fun N=>trivial)
      ·cases h
     |_=>simp[gf]at h
    |cons a b=>
     cases c with
     |ow s' u l=>
      simp only[gf]at h;split at h
      ·rename_i ts' hs hr;simp only[acV]at h;subst h;cases cs with
       |nil=>exact hc.elim
       |cons c' cs=>
        obtain⟨h1,h2⟩:=hc;rcases h1 with(h1|⟨h1,_⟩)|⟨h1,_⟩
        ·simp only[Tt.d.injEq]at h1;subst h1;refine go hr h2 rfl (.inl ?_) (fun N=>trivial);simp only[Tt.toT];rw[iB hs]
        ·cases h1
        ·cases h1
      ·cases h
     |_=>simp[gf]at h
theorem jy(k:Nat):∀t:List (Nat×Nat×At),gtA t k=match bI t k with|some (_,v)=>v|none=>.any
 |[]=>rfl
 |(i,j,v)::t=>by
  simp only[gtA,bI];cases Nat.beq i k with
  |true=>rfl
  |false=>exact jy k t
theorem DK{rs:List Nm}{t:Tt}(h:t.inR rs=true):pY rs t.toT:=by
 cases t with
 |pl p=>show p.root∈rs;simpa[Tt.inR]using h
 |rf p=>show p.root∈rs;simpa[Tt.inR]using h
 |_=>trivial
theorem Uj{rs:List Nm}{x:A1}(h:x.inR rs=true):wR rs x.toV:=by
 cases x with
 |c t=>exact DK h
 |agg ts=>
  intro t ht;obtain⟨t',h1,rfl⟩:=adR.1 ht;exact DK (adC.1 h t' h1)
theorem ZC{rs:List Nm}{x:At}(h:x.inR rs=true):Kf rs x.toV:=by
 cases x with
 |one x=>exact Uj h
 |tup xs=>
  intro t ht;obtain⟨t',h1,rfl⟩:=adR.1 ht;exact Uj (adC.1 h t' h1)
 |any=>trivial
theorem OA{p:Nat->At->Prop}:∀{t:List (Nat×Nat×At)},(∀x∈t,p x.1 x.2.2)->∀i,gtA t i=.any\/p i (gtA t i)
 |[],_,_=>.inl rfl
 |(k,j,v)::t,h,i=>by
  simp only[gtA];cases hb:Nat.beq k i with
  |true=>have:=ac7 hb;subst this;exact .inr (h (k,j,v) (by simp))
  |false=>exact OA (fun x hx=>h x (adB _ hx)) i
theorem pM{t:List (Nat×Nat×At)}:∀{ks:List Nat}{x:Nat×Nat×At},x∈Cf t ks->x.1∈ks/\bI t x.1=some x.2
 |[],x,h=>by simp[Cf]at h
 |k::r,x,h=>by
  simp only[Cf]at h;split at h
  ·rename_i j v hl;rcases ac8.1 h with rfl|h
   ·exact⟨by simp,hl⟩
   ·have:=pM h;exact⟨adB _ this.1,this.2⟩
  ·have:=pM h;exact⟨adB _ this.1,this.2⟩
theorem pL{t:List (Nm×Nat×Rt)}:∀{ks:List Nm}{x:Nm×Nat×Rt},x∈oG t ks->x.1∈ks/\bY t x.1=some x.2
 |[],x,h=>by simp[oG]at h
 |k::r,x,h=>by
  simp only[oG]at h;split at h
  ·rename_i j v hl;rcases ac8.1 h with rfl|h
   ·exact⟨by simp,hl⟩
   ·have:=pL h;exact⟨adB _ this.1,this.2⟩
  ·have:=pL h;exact⟨adB _ this.1,this.2⟩
theorem G1{s0 s:St}{rs:List Nm}:∀{ks:List Nat},W0 s0 s rs ks=true->∀k∈ks,∃j v0 v,bI s0.t k=some (j,v0)/\bI s.t k=some (j,v)/\j<s0.nx/\v.inR rs=true
 |[],_,k,hk=>by simp at hk
 |i::r,h,k,hk=>by
  simp only[W0,acX]at h;rcases ac8.1 hk with rfl|hk
  ·have h1:=h.1
   split at h1
   ·rename_i j v0 j' v e1 e2;simp only[acX]at h1;have:=ac7 h1.1.1
    subst this;exact⟨_,_,_,e1,e2,ac5 h1.1.2,h1.2⟩
   ·cases h1
  ·exact G1 h.2 k hk
theorem yE{s0 s:St}{rs:List Nm}:∀{ks:List Nm},Qt s0 s rs ks=true->∀k∈ks,∃j v0 v,bY s0.m k=some (j,v0)/\bY s.m k=some (j,v)/\j<s0.nx/\v.cells.all (·.inR rs)=true
 |[],_,k,hk=>by simp at hk
 |i::r,h,k,hk=>by
  simp only[Qt,acX]at h;rcases ac8.1 hk with rfl|hk
  ·have h1:=h.1
   split at h1
   ·rename_i j v0 j' v e1 e2;simp only[acX]at h1;have:=ac7 h1.1.1
    subst this;exact⟨_,_,_,e1,e2,ac5 h1.1.2,h1.2⟩
   ·cases h1
  ·exact yE h.2 k hk
theorem G0{s:St}{rs:List Nm}:∀{ps:List (Nat×Nm×Nat)},WZ s rs ps=true->∀p∈ps,gtA s.t p.1=.one (.c (.pl ⟨p.2.1,p.2.2,[]⟩))/\p.2.1∈rs
 |[],_,p,hp=>by simp at hp
 |(k,n,o)::r,h,p,hp=>by
  simp only[WZ,acX]at h;rcases ac8.1 hp with rfl|hp
  ·have h1:=h.1
   split at h1
   ·rename_i n' o' hg;simp only[acX,decide_eq_true_eq]at h1;obtain⟨⟨rfl,h2⟩,h3⟩:=h1;have:=ac7 h2
    subst this;exact⟨hg,by simpa using h3⟩
   ·cases h1
  ·exact G0 h.2 p hp
theorem yP{s0 s:St}{rs:List Nm}:∀{ks:List Nm},Qt s0 s rs ks=true->(oG s0.m ks).map (·.1)=ks
 |[],_=>rfl
 |k::r,h=>by
  have hh:=h
  simp only[Qt,acX]at h;obtain⟨j,v0,v,e1,_⟩:=yE hh k (by simp);simp only[oG,e1,List.map_cons,yP h.2]
theorem fC(nx:Nat):∀(sp:List Sp)(x:FSp sp),(dB nx sp x).map (·.1)=sp.flatMap Sp.rn
 |[],_=>rfl
 |.sl k u::r,x=>by simp only[dB,adU,Sp.rn,ae7];exact fC nx r _
 |.ow k sh u::r,x=>by simp only[dB,adU,Sp.rn,List.map_cons,aeR];rw[fC nx r]
 |.rt n sh u::r,x=>by simp only[dB,adU,Sp.rn,List.map_cons,aeR];rw[fC nx r]
 |.mp n ku vu::r,x=>by simp only[dB,adU,Sp.rn,List.map_cons,aeR];rw[fC nx r]
 |.mo n ku vu::r,x=>by simp only[dB,adU,Sp.rn,List.map_cons,aeR];rw[fC nx r]
 |.it n ku vu::r,x=>by simp only[dB,adU,Sp.rn,List.map_cons,aeR];rw[fC nx r]
 |.gw n sh u::r,x=>by simp only[dB,adU,Sp.rn,List.map_cons,aeR];rw[fC nx r]
theorem Co:∀{l:List Nm},D9 l=true->l.Nodup
 |[],_=>List.nodup_nil
 |n::r,h=>by
  simp only[D9,acX,aeV,List.contains_eq_mem,decide_eq_false_iff_not]at h;exact aeD.2 ⟨h.1,Co h.2⟩
theorem yu{ku vu ku' vu':U}{l:List (El ku×El vu)}{x:List (El ku'×El vu')}(h:GK ku vu ku' vu' l=some x):∃(e1:ku=ku')(e2:vu=vu'),x=e1 ▸ e2 ▸ l:=by
 unfold GK at h;split at h
 ·rename_i e;obtain⟨rfl,rfl⟩:=e;exact⟨rfl,rfl,(Option.some.inj h).symm⟩
 ·cases h
theorem Uz{s:St}{nx:Nat}:∀{sp:List Sp}{x:FSp sp},unS s sp=some x ->
  (∀y∈lC nx sp x,(y.2.2.toV=(gtA s.t y.1).toV\/y.2.2.toV=(gtA s.t y.1).toV.map T.canon)/\∀N,(∀n∈sp.flatMap Sp.rn,n∈N)->Kf N (gtA s.t y.1).toV) /\
  (∀y∈dB nx sp x,∃r,be s.m y.1=some r/\mL r.toR y.2.2.toR/\∀N,∀t∈r.toR.cells,pY N t)
 |[],_,_=>⟨fun y h=>by simp[lC]at h,fun y h=>by simp[dB]at h⟩
 |p::r,x,h=>by
  simp only[unS]at h;cases h1:JD s p with
  |none=>rw[h1]at h;cases h
  |some a=>
   cases h2:unS s r with
   |none=>rw[h1,h2]at h;cases h
   |some b=>
    rw[h1,h2]at h;simp only[acV]at h;obtain⟨i1,i2⟩:=Uz (nx:=nx) h2;cases p with
    |sl k u=>
     have ha:FSp.hd (.sl k u) r x=a:=by rw[<- h];exact qF _ _ _ _
     have hb:FSp.tl (.sl k u) r x=b:=by rw[<- h];exact qG _ _ _ _
     refine⟨fun y hy=>?_,fun y hy=>?_⟩
     ·simp only[lC,ha,hb,ac8]at hy;rcases hy with rfl|hy
      ·obtain⟨k1,k2⟩:=yr (v:=gtA s.t k) h1;exact⟨.inr k1,fun N _=>k2 N⟩
      ·obtain⟨k1,k2⟩:=i1 y hy;exact⟨k1,fun N hN=>k2 N (fun n hn=>hN n (by simp only[adU,adF];exact .inr hn))⟩
     ·simp only[dB,hb]at hy;exact i2 y hy
    |ow k sh u=>
     have ha:FSp.hd (.ow k sh u) r x=a:=by rw[<- h];exact qF _ _ _ _
     have hb:FSp.tl (.ow k sh u) r x=b:=by rw[<- h];exact qG _ _ _ _
     simp only[JD]at h1;split at h1
     ·rename_i n sh' u' l hv hr;cases hn:decide (n=jj k)<;>cases hsh:mB sh sh'<;>rw[hn,hsh]at h1
      ·cases h1
      ·cases h1
      ·cases h1
      ·have hn':n=jj k:=by simpa using hn
       subst hn';obtain⟨e,rfl⟩:=ij h1;subst e;obtain rfl:=iB hsh;refine⟨fun y hy=>?_,fun y hy=>?_⟩
       ·simp only[lC,hb,ac8]at hy;rcases hy with rfl|hy
        ·refine⟨.inl (by rw[hv]),fun N hN=>?_⟩;rw[hv];exact hN _ (by simp[adU,Sp.rn])
        ·obtain⟨k1,k2⟩:=i1 y hy;exact⟨k1,fun N hN=>k2 N (fun n hn=>hN n (by simp only[adU,adF];exact .inr hn))⟩
       ·simp only[dB,ha,hb,ac8]at hy;rcases hy with rfl|hy
        ·exact⟨_,hr,mL.refl _,fun N t ht=>by simp only[Rt.toR,holed,List.map_cons,List.map_nil,ac9]at ht;subst ht;trivial⟩
        ·exact i2 y hy
     ·cases h1
    |mp n ku vu=>
     have ha:FSp.hd (.mp n ku vu) r x=a:=by rw[<- h];exact qF _ _ _ _
     have hb:FSp.tl (.mp n ku vu) r x=b:=by rw[<- h];exact qG _ _ _ _
     simp only[JD]at h1;split at h1
     ·rename_i ku' vu' l hr;obtain⟨e1,e2,rfl⟩:=yu h1;subst e1;subst e2;refine⟨fun y hy=>?_,fun y hy=>?_⟩
      ·simp only[lC,hb]at hy;obtain⟨k1,k2⟩:=i1 y hy;exact⟨k1,fun N hN=>k2 N (fun n hn=>hN n (by simp only[adU,adF];exact .inr hn))⟩
      ·simp only[dB,ha,hb,ac8]at hy;rcases hy with rfl|hy
       ·exact⟨_,hr,mL.refl _,fun N t ht=>by simp only[Rt.toR,holed,List.map_cons,List.map_nil,ac9]at ht;subst ht;trivial⟩
       ·exact i2 y hy
     ·cases h1
    |it n ku vu=>
     have ha:FSp.hd (.it n ku vu) r x=a:=by rw[<- h];exact qF _ _ _ _
     have hb:FSp.tl (.it n ku vu) r x=b:=by rw[<- h];exact qG _ _ _ _
     simp only[JD]at h1;split at h1
     ·rename_i ku' vu' cur l hr;obtain⟨e1,e2,rfl⟩:=yu h1;subst e1;subst e2;refine⟨fun y hy=>?_,fun y hy=>?_⟩
      ·simp only[lC,hb]at hy;obtain⟨k1,k2⟩:=i1 y hy;exact⟨k1,fun N hN=>k2 N (fun n hn=>hN n (by simp only[adU,adF];exact .inr hn))⟩
      ·simp only[dB,ha,hb,ac8]at hy;rcases hy with rfl|hy
       ·exact⟨_,hr,⟨rfl,rfl,fun i t t' h1 h2=>by
         cases i with
         |zero=>
          have e1:T.it (cur.map (p8 _ _)) (l.map (p8 _ _))=t:=Option.some.inj h1
          have e2:T.it none (l.map (p8 _ _))=t':=Option.some.inj h2
          subst e1 e2;exact .inr rfl
         |succ i=>simp[Rt.toR,holed]at h1⟩,fun N t ht=>by simp only[Rt.toR,holed,List.map_cons,List.map_nil,ac9]at ht;subst ht;trivial⟩
       ·exact i2 y hy
     ·cases h1
    |gw n sh u=>
     have ha:FSp.hd (.gw n sh u) r x=a:=by rw[<- h];exact qF _ _ _ _
     have hb:FSp.tl (.gw n sh u) r x=b:=by rw[<- h];exact qG _ _ _ _
     simp only[JD]at h1;split at h1
     ·rename_i sh' u' l hr;cases hsh:mB sh sh' with
      |false=>rw[hsh]at h1;cases h1
      |true=>
      rw[hsh]at h1;obtain⟨e,rfl⟩:=ij h1;subst e;obtain rfl:=iB hsh;refine⟨fun y hy=>?_,fun y hy=>?_⟩
      ·simp only[lC,hb]at hy;obtain⟨k1,k2⟩:=i1 y hy;exact⟨k1,fun N hN=>k2 N (fun n hn=>hN n (by simp only[adU,adF];exact .inr hn))⟩
      ·simp only[dB,ha,hb,ac8]at hy;rcases hy with rfl|hy
       ·exact⟨_,hr,mL.refl _,fun N t ht=>by simp only[Rt.toR,holed,List.map_cons,List.map_nil,ac9]at ht;subst ht;trivial⟩
       ·exact i2 y hy
     ·cases h1
    |mo n ku vu=>
     have ha:FSp.hd (.mo n ku vu) r x=a:=by rw[<- h];exact qF _ _ _ _
     have hb:FSp.tl (.mo n ku vu) r x=b:=by rw[<- h];exact qG _ _ _ _
     simp only[JD]at h1;split at h1
     ·rename_i ku' vu' l hr;obtain⟨e1,e2,rfl⟩:=yu h1;subst e1;cases e2;refine⟨fun y hy=>?_,fun y hy=>?_⟩
      ·simp only[lC,hb]at hy;obtain⟨k1,k2⟩:=i1 y hy;exact⟨k1,fun N hN=>k2 N (fun n hn=>hN n (by simp only[adU,adF];exact .inr hn))⟩
      ·simp only[dB,ha,hb,ac8]at hy;rcases hy with rfl|hy
       ·exact⟨_,hr,mL.refl _,fun N t ht=>by simp only[Rt.toR,holed,List.map_cons,List.map_nil,ac9]at ht;subst ht;trivial⟩
       ·exact i2 y hy
     ·cases h1
    |rt n sh u=>
     have ha:FSp.hd (.rt n sh u) r x=a:=by rw[<- h];exact qF _ _ _ _
     have hb:FSp.tl (.rt n sh u) r x=b:=by rw[<- h];exact qG _ _ _ _
     simp only[JD]at h1;split at h1
     ·rename_i cells hr;split at h1
      ·rename_i ts hts;obtain⟨k1,k2⟩:=Vz hts (jg h1);refine⟨fun y hy=>?_,fun y hy=>?_⟩
       ·simp only[lC,hb]at hy;obtain⟨k1,k2⟩:=i1 y hy;exact⟨k1,fun N hN=>k2 N (fun n hn=>hN n (by simp only[adU,adF];exact .inr hn))⟩
       ·simp only[dB,ha,hb,ac8]at hy;rcases hy with rfl|hy
        ·exact⟨_,hr,⟨rfl,k1.1,k1.2⟩,fun N t ht=>k2 N t ht⟩
        ·exact i2 y hy
      ·cases h1
     ·cases h1
def jn1(σ:Sg)(s0:St)(J:FSp σ.sp->Prop)(s:St):Prop:=σ.fit s0 s=true/\∃x,unS s σ.sp=some x/\J x
theorem Ul{σ:Sg}{s0 s1:St}{J:FSp σ.sp->Prop}(hE1:Ext s0 s1)(h:jn1 σ s0 J s1)(hR1:R g s1.toS a w):∃v,J v/\R g (σ.st s0 v).toS a w:=by
   obtain⟨hf,v,hv,h⟩:=h;refine⟨v,h,?_⟩;obtain⟨H,γ,F,hX⟩:=hR1;simp only[Sg.fit,acX]at hf;obtain⟨⟨⟨f1,f2⟩,f3⟩,f4⟩:=hf;obtain⟨l1,l2⟩:=Uz (nx:=s0.nx) hv;have hkeys:(σ.st s0 v).toS.m.map (·.1)=σ.rn:=by
    show(toM (oG s0.m σ.kr++dB s0.nx σ.sp v)).map (·.1)=_
    simp only[toM,adD];show(oG s0.m σ.kr++dB s0.nx σ.sp v).map (·.1)=_
    rw[aeN,yP f4,fC];rfl
   refine⟨H,γ,F,SU hX (by rw[hkeys];exact Co f1) (fun x hx=>?_) (fun i=>?_)⟩
   ·rw[hkeys];obtain⟨y,hy,rfl⟩:=adR.1 (show x∈toM (oG s0.m σ.kr++dB s0.nx σ.sp v)from hx);rcases adF.1 hy with hy|hy
    ·obtain⟨hk,hl⟩:=pL hy;obtain⟨j,v0,v1,e1,e2,e3,e4⟩:=yE f4 y.1 hk;have e5:=hE1.m _ _ _ e2 e3
     rw[hl]at e5;have e6:=Option.some.inj e5
     have eg:be s1.m y.1=some y.2.2:=by rw[m9,e2];simp[e6]
     refine⟨y.2.2.toR,aP eg,mL.refl _,fun t ht=>?_⟩;have hv1:y.2.2=v1:=by rw[e6]
     rw[hv1]at ht;have hH:=xG v1.cells v1.hole
     obtain⟨i,hi,hit⟩:=List.getElem_of_mem ht;have hlen:=hH.len
     have hi':i<v1.cells.length:=by
      have:(v1.toR.cells).length=v1.cells.length:=hlen
      omega
     rcases hH.nth i _ t (acW hi') (by rw[<- hit];exact acW hi)with e|⟨_,_,_,_,_,e,_⟩
     ·rw[e];exact DK (adC.1 e4 _ (adY hi'))
     ·rw[e];trivial
    ·obtain⟨r,k1,k2,k3⟩:=l2 y hy;exact⟨r.toR,aP k1,k2,k3 _⟩
   ·rw[hkeys];have key:∀y∈(σ.st s0 v).t,(y.2.2.toV=(gtA s1.t y.1).toV\/y.2.2.toV=(gtA s1.t y.1).toV.map T.canon)/\Kf σ.rn (gtA s1.t y.1).toV:=by
     intro y hy;rcases adF.1 hy with hy|hy
     ·obtain⟨hk,hl⟩:=pM hy;obtain⟨j,v0,v1,e1,e2,e3,e4⟩:=G1 f3 y.1 hk;have e5:=hE1.t _ _ _ e2 e3
      rw[hl]at e5;have e6:=Option.some.inj e5
      have eg:gtA s1.t y.1=v1:=by rw[jy,e2]
      rw[eg,e6];exact⟨.inl rfl,ZC e4⟩
     ·rcases adF.1 hy with hy|hy
      ·obtain⟨p,hp,rfl⟩:=adR.1 hy;obtain⟨e1,e2⟩:=G0 f2 p hp;dsimp only;rw[e1];exact⟨.inl rfl,e2⟩
      ·obtain⟨k1,k2⟩:=l1 y hy;exact⟨k1,k2 _ (fun n hn=>by unfold Sg.rn;exact ad4 _ hn)⟩
    have hs1:aH s1.toS.t i=(gtA s1.t i).toV:=b9 i s1.t
    have hst:aH (σ.st s0 v).toS.t i=(gtA (σ.st s0 v).t i).toV:=b9 i (σ.st s0 v).t
    rw[hs1,hst];rcases OA (p:=fun i v=>(v.toV=(gtA s1.t i).toV\/v.toV=(gtA s1.t i).toV.map T.canon)/\Kf σ.rn (gtA s1.t i).toV) key i with e|e
    ·rw[e];exact .inl rfl
    ·exact .inr e
theorem YJ{σ:Sg}{s0 s:St}{J:FSp σ.sp->Prop}(hE:Ext s0 s)(h:jn σ s0 J s)(hR:R g s.toS a w):∃v,J v/\R g (σ.st s0 v).toS a w:=by
 unfold jn at h;dsimp only at h;have hR1:=mQ (g:=g) (a:=a) (w:=w) σ.sp hR
 have hE1:=hE.trans (fL σ.sp s)
 split at h
 ·rename_i hf;split at h
  ·rename_i v hv;exact Ul hE1 ⟨hf,v,hv,h⟩ hR1
  ·exact h.elim
 ·exact h.elim
theorem Cm{k:Nat}{y:Nat×At}:∀{t:List (Nat×Nat×At)},bI t k=some y->(k,y)∈t
 |[],h=>by cases h
 |(i,j,v)::t,h=>by
  simp only[bI]at h;split at h
  ·rename_i hb;have:=ac7 hb
   subst this;rw[<- Option.some.inj h];simp
  ·exact adB _ (Cm h)
theorem Cj{k:Nm}{y:Nat×Rt}:∀{t:List (Nm×Nat×Rt)},bY t k=some y->(k,y)∈t
 |[],h=>by cases h
 |(i,j,v)::t,h=>by
  simp only[bY]at h;split at h
  ·rename_i hb;subst hb;rw[<- Option.some.inj h];simp
  ·exact adB _ (Cj h)
theorem oH(nx:Nat):∀(sp:List Sp)(x:FSp sp),(∀y∈lC nx sp x,y.2.1=nx)/\∀y∈dB nx sp x,y.2.1=nx
 |[],_=>⟨fun y h=>by simp[lC]at h,fun y h=>by simp[dB]at h⟩
 |.sl k u::r,x=>by
  obtain⟨h1,h2⟩:=oH nx r (FSp.tl (.sl k u) r x);refine⟨fun y h=>?_,fun y h=>h2 y h⟩;simp only[lC,ac8]at h;rcases h with rfl|h
  ·rfl
  ·exact h1 y h
 |.ow k sh u::r,x=>by
  obtain⟨h1,h2⟩:=oH nx r (FSp.tl (.ow k sh u) r x);refine⟨fun y h=>?_,fun y h=>?_⟩
  ·simp only[lC,ac8]at h;rcases h with rfl|h
   ·rfl
   ·exact h1 y h
  ·simp only[dB,ac8]at h;rcases h with rfl|h
   ·rfl
   ·exact h2 y h
 |.rt n sh u::r,x=>by
  obtain⟨h1,h2⟩:=oH nx r (FSp.tl (.rt n sh u) r x);refine⟨fun y h=>h1 y h,fun y h=>?_⟩;simp only[dB,ac8]at h;rcases h with rfl|h
  ·rfl
  ·exact h2 y h
 |.mp n ku vu::r,x=>by
  obtain⟨h1,h2⟩:=oH nx r (FSp.tl (.mp n ku vu) r x);refine⟨fun y h=>h1 y h,fun y h=>?_⟩;simp only[dB,ac8]at h;rcases h with rfl|h
  ·rfl
  ·exact h2 y h
 |.mo n ku vu::r,x=>by
  obtain⟨h1,h2⟩:=oH nx r (FSp.tl (.mo n ku vu) r x);refine⟨fun y h=>h1 y h,fun y h=>?_⟩;simp only[dB,ac8]at h;rcases h with rfl|h
  ·rfl
  ·exact h2 y h
 |.it n ku vu::r,x=>by
  obtain⟨h1,h2⟩:=oH nx r (FSp.tl (.it n ku vu) r x);refine⟨fun y h=>h1 y h,fun y h=>?_⟩;simp only[dB,ac8]at h;rcases h with rfl|h
  ·rfl
  ·exact h2 y h
 |.gw n sh u::r,x=>by
  obtain⟨h1,h2⟩:=oH nx r (FSp.tl (.gw n sh u) r x);refine⟨fun y h=>h1 y h,fun y h=>?_⟩;simp only[dB,ac8]at h;rcases h with rfl|h
  ·rfl
  ·exact h2 y h
theorem xl(σ:Sg)(s:St)(x:FSp σ.sp):Ext s (σ.st s x):=by
 obtain⟨l1,l2⟩:=oH s.nx σ.sp x;refine⟨ad3 _,fun k j v h hj=>?_,fun n j r h hj=>?_⟩
 ·have hm:=Cm h
  rcases adF.1 hm with hm|hm
  ·exact(pM hm).2
  ·rcases adF.1 hm with hm|hm
   ·obtain⟨p,_,e⟩:=adR.1 hm;simp only[Prod.mk.injEq]at e;omega
   ·have:=l1 _ hm;dsimp only at this;omega
 ·have hm:=Cj h
  rcases adF.1 hm with hm|hm
  ·exact(pL hm).2
  ·have:=l2 _ hm;dsimp only at this;omega
end
def fi(nt:Nat):Code->Bool
 |.region _ ops false=>XD nt ops.toList ops.toList
 |.region _ ops true=>kX nt ops&&Region.noSelect ops
 |.seq a b=>fi nt a&&fi nt b
 |.cond (.tmp t) a b=>Nat.blt t 100000&&(fi nt a&&fi nt b)
 |.block _ a=>fi nt a
 |.loop a=>fi nt a
 |_=>true
def LQ(pk:PKt)(K:Kt):Exit->S->Prop
 |.normal,s=>∃t:St,s=t.toS/\K.n t
 |.exit i,s=>∃t:St,s=t.toS/\K.x i t
 |.ret,s=>∃t:St,s=t.toS/\K.r t
 |.panic c,s=>∃v,∃t:St,c=chn v/\s=t.toS/\pk v t
 |_,_=>False
theorem Yq{pk:PKt}{K:Kt}:∀x s,PQ pk x s->LQ pk K x s:=by
 rintro x s ⟨v,t,rfl,rfl,h2⟩
 exact⟨v,t,rfl,rfl,h2⟩
theorem Xf{σ:Sg}{s0 s:St}{J J':FSp σ.sp->Prop}(hj:∀v,J v->J' v)(h:jn σ s0 J s):jn σ s0 J' s:=by
 unfold jn at h⊢;dsimp only at h⊢;split at h
 ·split at h
  ·exact hj _ h
  ·exact h.elim
 ·exact h.elim
theorem yX{α:Type}{b b':(α->Prop)->α->Prop}(hb:∀R R':α->Prop,(∀v,R v->R' v)->∀v,b R v->b' R' v):∀n v,oI b n v->oI b' n v
 |0,_,h=>h.elim
 |n+1,v,h=>hb _ _ (yX hb n) v h
theorem wN{e:En}(he:e.ok):∀(c:Code)(an:An)(s:St)(K K':Kt),(∀s',Ext s s'->K.n s'->K'.n s')->(∀i s',Ext s s'->K.x i s'->K'.x i s')->(∀s',Ext s s'->K.r s'->K'.r s')->wpT e an c s K->wpT e an c s K':=by
 intro c;induction c with
 |skip=>intro an s K K' hn hx hr h;simp only[wpT]at h⊢;exact hn s (Ext.refl s) h
 |exit i=>intro an s K K' hn hx hr h;simp only[wpT]at h⊢;exact hx i s (Ext.refl s) h
 |ret=>intro an s K K' hn hx hr h;simp only[wpT]at h⊢;exact hr s (Ext.refl s) h
 |region id ops dr=>
  intro an s K K' hn hx hr h;cases dr with
  |false=>simp only[wpT]at h⊢;exact zk he hn h
  |true=>simp only[wpT]at h⊢;exact ju he hn h
 |seq a b iha ihb=>
  intro an s K K' hn hx hr h;cases an with
  |s p q=>
   simp only[wpT]at h⊢;exact iha p s ⟨fun s'=>wpT e (q.pick s') b s' K,K.x,K.r⟩ ⟨fun s'=>wpT e (q.pick s') b s' K',K'.x,K'.r⟩ (fun s1 h1 hs1=>ihb (q.pick s1) s1 K K' (fun s2 h2=>hn s2 (h1.trans h2)) (fun i s2 h2=>hx i s2 (h1.trans h2)) (fun s2 h2=>hr s2 (h1.trans h2)) hs1) hx hr h
  |j σ p q=>
   simp only[wpT]at h⊢;intro J hJ;refine iha p s ⟨jn σ s J,K.x,K.r⟩ ⟨jn σ s J,K'.x,K'.r⟩ (fun s1 _ h=>h) hx hr (h J (fun v hv=>hJ v ?_));exact ihb q _ K K' (fun s2 h2=>hn s2 ((xl σ s v).trans h2)) (fun i s2 h2=>hx i s2 ((xl σ s v).trans h2)) (fun s2 h2=>hr s2 ((xl σ s v).trans h2)) hv
  |_=>simp only[wpT]at h
 |cond t a b iha ihb=>
  intro an s K K' hn hx hr h;cases an with
  |c p q=>
   cases t with
   |tmp t=>
    simp only[wpT]at h⊢;split at h
    ·rename_i c _;cases c
     ·simp only[ac4,if_false]at h⊢;exact ihb q s K K' hn hx hr h
     ·simp only[if_true]at h⊢;exact iha p s K K' hn hx hr h
    ·exact h.elim
   |_=>simp only[wpT]at h
  |_=>cases t<;>simp only[wpT]at h
 |block id a iha=>
  intro an s K K' hn hx hr h;cases an with
  |b p=>
   simp only[wpT]at h⊢;refine iha p s ⟨K.n,fun i s'=>match Nat.beq i id with|true=>K.n s'|false=>K.x i s',K.r⟩ ⟨K'.n,fun i s'=>match Nat.beq i id with|true=>K'.n s'|false=>K'.x i s',K'.r⟩ hn (fun i s' hE hs'=>?_) hr h;dsimp only at hs'⊢;cases hb:Nat.beq i id with
   |true=>rw[hb]at hs';exact hn s' hE hs'
   |false=>rw[hb]at hs';exact hx i s' hE hs'
  |_=>simp only[wpT]at h
 |loop a iha=>
  intro an s K K' hn hx hr h;cases an with
  |lp σ p=>
   simp only[wpT]at h⊢;have hEp:=fL σ.sp s
   generalize prep σ.sp s=s1 at h hEp;split at h
   ·split at h
    ·obtain⟨n,hl⟩:=h;refine⟨n,yX (fun R R' hR v hv=>?_) n _ hl⟩;have hE:=hEp.trans (xl σ s1 v)
     exact iha p _ ⟨jn σ s1 R,K.x,K.r⟩ ⟨jn σ s1 R',K'.x,K'.r⟩ (fun s2 _ h=>Xf hR h) (fun i s2 h2=>hx i s2 (hE.trans h2)) (fun s2 h2=>hr s2 (hE.trans h2)) hv
    ·exact h.elim
   ·exact h.elim
  |un n p=>
   simp only[wpT]at h⊢;have key:∀n(s1:St),Ext s s1->ql (fun R s'=>wpT e p a s' ⟨R,K.x,K.r⟩) n s1->ql (fun R s'=>wpT e p a s' ⟨R,K'.x,K'.r⟩) n s1:=by
    intro n;induction n with
    |zero=>intro s1 _ h;exact h.elim
    |succ n ih=>
     intro s1 hE h;exact iha p s1 ⟨ql (fun R s'=>wpT e p a s' ⟨R,K.x,K.r⟩) n,K.x,K.r⟩ ⟨ql (fun R s'=>wpT e p a s' ⟨R,K'.x,K'.r⟩) n,K'.x,K'.r⟩ (fun s2 h2 hs2=>ih s2 (hE.trans h2) hs2) (fun i s2 h2=>hx i s2 (hE.trans h2)) (fun s2 h2=>hr s2 (hE.trans h2)) h
   exact key n s (Ext.refl s) h
  |_=>simp only[wpT]at h
 |_=>intro an s K K' hn hx hr h;cases an<;>simp only[wpT]at h
theorem lJ{P:Program}{g:G}{c:Code}{Q Q':Exit->S->Prop}{s:S}(h:AW P g c Q s)(hq:∀e s' a w,Q e s'->R g s' a w->∃s'',Q' e s''/\R g s'' a w):AW P g c Q' s:=fun a w hR=>
 Code.wp_mono (fun e a' w'⟨s',h1,h2⟩=>hq e s' a' w' h1 h2) (h a w hR)
theorem jD{e:En}(he:e.ok)(hm:e.P.follows .mixedOrders=true){g:G}:∀(c:Code)(an:An)(s:St)(K:Kt),fi g.nt c=true->wpT e an c s K->AW e.P g c (LQ e.pk K) s.toS:=by
 intro c;induction c with
 |skip=>intro an s K hc h;simp only[wpT]at h;exact No ⟨s,rfl,h⟩
 |exit i=>intro an s K hc h;simp only[wpT]at h;exact VY ⟨s,rfl,h⟩
 |ret=>intro an s K hc h;simp only[wpT]at h;exact YR ⟨s,rfl,h⟩
 |region id ops dr=>
  intro an s K hc h;obtain⟨l⟩:=ops;cases dr with
  |false=>
   simp only[wpT]at h;exact pe (mF he Yq hc h (fun t ht=>⟨t,rfl,ht⟩))
  |true=>
   simp only[wpT]at h;simp only[fi,acX]at hc;exact R0 he Yq hm hc.1 hc.2 (fun t ht=>⟨t,rfl,ht⟩) h
 |seq a b iha ihb=>
  intro an s K hc h;simp only[fi,acX]at hc;cases an with
  |s p q=>
   simp only[wpT]at h;refine tH (AW.mono (iha p s _ hc.1 h) (fun e' s' h'=>?_));cases e' with
   |normal=>obtain⟨t,rfl,ht⟩:=h';exact ihb (q.pick t) t K hc.2 ht
   |exit i=>exact h'
   |ret=>exact h'
   |panic c=>exact h'
   |_=>exact h'
  |j σ p q=>
   simp only[wpT]at h;have h1:=h _ (fun v hv=>hv)
   have h2:=wN he a p s ⟨jn σ s (fun v=>wpT e q b (σ.st s v) K),K.x,K.r⟩ ⟨fun s'=>Ext s s'/\jn σ s (fun v=>wpT e q b (σ.st s v) K) s',K.x,K.r⟩ (fun s' hE hs'=>⟨hE,hs'⟩) (fun _ _ _ h=>h) (fun _ _ h=>h) h1
   refine tH (AW.mono (iha p s _ hc.1 h2) (fun e' s' h'=>?_));cases e' with
   |normal=>
    obtain⟨t,rfl,hE,ht⟩:=h';intro a' w' hR;obtain⟨v,hv,hR'⟩:=YJ hE ht hR;exact ihb q _ K hc.2 hv a' w' hR'
   |exit i=>exact h'
   |ret=>exact h'
   |panic c=>exact h'
   |_=>exact h'
  |_=>simp only[wpT]at h
 |cond t a b iha ihb=>
  intro an s K hc h;cases an with
  |c p q=>
   cases t with
   |tmp t=>
    simp only[fi,acX]at hc;simp only[wpT]at h;split at h
    ·rename_i c hcc;refine CF (gG hcc) (fun hb=>?_) (fun hb=>?_) (ac5 hc.1)
     ·subst hb;rw[if_pos rfl]at h;exact iha p s K hc.2.1 h
     ·subst hb;rw[if_neg (by simp)]at h;exact ihb q s K hc.2.2 h
    ·exact h.elim
   |_=>simp only[wpT]at h
  |_=>cases t<;>simp only[wpT]at h
 |block id a iha=>
  intro an s K hc h;cases an with
  |b p=>
   simp only[wpT]at h;refine RZ (AW.mono (iha p s _ hc h) (fun e' s' h'=>?_));cases e' with
   |normal=>exact h'
   |exit i=>
    obtain⟨t,rfl,ht⟩:=h';simp only[Lb];dsimp only at ht;cases hb:Nat.beq i id with
    |true=>
     rw[hb]at ht;rw[if_pos (ac7 hb)];exact⟨t,rfl,ht⟩
    |false=>
     rw[hb]at ht;rw[if_neg (fun e=>by rw[e,afT]at hb;cases hb)];exact⟨t,rfl,ht⟩
   |ret=>exact h'
   |_=>exact h'
  |_=>simp only[wpT]at h
 |loop a iha=>
  intro an s K hc h;cases an with
  |lp σ p=>
   simp only[wpT]at h;have hRp:∀a' w',R g s.toS a' w'->R g (prep σ.sp s).toS a' w':=fun a' w' hR=>mQ σ.sp hR
   generalize prep σ.sp s=s1 at h hRp;split at h
   ·rename_i hf;split at h
    ·rename_i x0 hx0;obtain⟨n,hl⟩:=h;intro a0 w0 hR0;have hj:jn1 σ s1 (fun v=>v=x0) s1:=⟨hf,x0,hx0,rfl⟩
     obtain⟨v,rfl,hR1⟩:=Ul (Ext.refl s1) hj (hRp _ _ hR0);refine Nn (fun n S'=>∃v,oI (fun R v=>wpT e p a (σ.st s1 v) ⟨jn σ s1 R,K.x,K.r⟩) n v/\S'=(σ.st s1 v).toS) n ⟨v,hl,rfl⟩ (fun n S' hS=>?_) a0 w0 hR1
     ·obtain⟨v,hv,rfl⟩:=hS;cases n with
      |zero=>exact hv.elim
      |succ n=>
       have h2:=wN he a p (σ.st s1 v) ⟨jn σ s1 (oI (fun R v=>wpT e p a (σ.st s1 v) ⟨jn σ s1 R,K.x,K.r⟩) n),K.x,K.r⟩ ⟨fun s'=>Ext (σ.st s1 v) s'/\jn σ s1 (oI (fun R v=>wpT e p a (σ.st s1 v) ⟨jn σ s1 R,K.x,K.r⟩) n) s',K.x,K.r⟩ (fun s' hE hs'=>⟨hE,hs'⟩) (fun _ _ _ h=>h) (fun _ _ h=>h) hv
       refine lJ (iha p _ _ hc h2) (fun e' s' a' w' h' hR'=>?_);cases e' with
       |normal=>
        obtain⟨t,rfl,hE,ht⟩:=h';obtain⟨v',hv',hR2⟩:=YJ ((xl σ s1 v).trans hE) ht hR';exact⟨_,⟨n,Nat.lt_succ_self n,v',hv',rfl⟩,hR2⟩
       |exit i=>exact⟨s',h',hR'⟩
       |ret=>exact⟨s',h',hR'⟩
       |panic c=>exact⟨s',h',hR'⟩
       |_=>exact h'.elim
    ·exact h.elim
   ·exact h.elim
  |un n p=>
   simp only[wpT]at h;refine Nn (fun n S'=>∃t:St,S'=t.toS/\ql (fun R s'=>wpT e p a s' ⟨R,K.x,K.r⟩) n t) n ⟨s,rfl,h⟩ (fun n S' hS=>?_);obtain⟨t,rfl,ht⟩:=hS;cases n with
   |zero=>exact ht.elim
   |succ n=>
    refine lJ (iha p t ⟨ql (fun R s'=>wpT e p a s' ⟨R,K.x,K.r⟩) n,K.x,K.r⟩ hc ht) (fun e' s' a' w' h' hR'=>?_);cases e' with
    |normal=>
     obtain⟨t2,rfl,ht2⟩:=h';exact⟨_,⟨n,Nat.lt_succ_self n,t2,rfl,ht2⟩,hR'⟩
    |exit i=>exact⟨s',h',hR'⟩
    |ret=>exact⟨s',h',hR'⟩
    |panic c=>exact⟨s',h',hR'⟩
    |_=>exact h'.elim
  |_=>simp only[wpT]at h
 |_=>intro an s K hc h;cases an<;>simp only[wpT]at h
def dT:(us:List U)->Fl us->List AV
 |[],_=>[]
 |u::r,x=>(zX u (Fl.hd u r x)).toV::dT r (Fl.tl u r x)
def uo:(us:List U)->Fl us->List AV1
 |[],_=>[]
 |u::r,x=>(AU u (Fl.hd u r x)).toV::uo r (Fl.tl u r x)
theorem tz(u:U)(x:El u):zX u x=.one (AU u x):=by cases u<;>rfl
theorem qU{u:U}{v:At}{x:El u}(h:oy u v=some x):v.noRf=true/\v.toV.isFz=true:=by
 have cl:∀{ts:List Tt}{cs:List C},CL ts cs->ts.all Tt.noRf=true/\(ts.map Tt.toT).all T.isFz=true:=by
  intro ts;induction ts with
  |nil=>exact fun _=>⟨rfl,rfl⟩
  |cons t ts ih=>
   intro cs hc;cases cs with
   |nil=>exact hc.elim
   |cons c cs=>
    obtain⟨h1,h2⟩:=ih hc.2;rcases hc.1 with(rfl|⟨rfl,_⟩)|⟨rfl,_⟩
    ·exact⟨by simp only[adE,h1];rfl,by simp only[List.map_cons,adE,h2];rfl⟩
    ·exact⟨by simp only[adE,h1];rfl,by simp only[List.map_cons,adE,h2];rfl⟩
    ·exact⟨by simp only[adE,h1];rfl,by simp only[List.map_cons,adE,h2];rfl⟩
 unfold oy at h;split at h
 ·unfold TP at h;split at h
  ·split at h
   ·obtain⟨h1,h2⟩:=cl (jg h);refine⟨?_,?_⟩
    ·rename_i t _ _;show t.noRf=true;simpa using h1
    ·rename_i t _ _;show t.toT.isFz=true;simpa using h2
   ·cases h
  ·split at h
   ·cases h
   ·obtain⟨h1,h2⟩:=cl (jg h);exact⟨h1,h2⟩
 ·cases h
theorem cV:∀{us:List U}{vs:List At}{x:Fl us},bv us vs=some x->vs.all At.noRf=true/\(vs.map At.toV).all AV.isFz=true/\(vs.map At.toV).map (AV.map T.canon)=dT us x
 |[],[],_,_=>⟨rfl,rfl,rfl⟩
 |u::r,v::vs,x,h=>by
  simp only[bv]at h;cases h1:oy u v with
  |none=>rw[h1]at h;cases h
  |some a=>
   cases h2:bv r vs with
   |none=>rw[h1,h2]at h;cases h
   |some b=>
    rw[h1,h2]at h;simp only[acV]at h;subst h;obtain⟨i1,i2,i3⟩:=cV h2;obtain⟨k1,k2⟩:=qU h1;refine⟨by simp only[adE,k1,i1,afJ],by simp only[List.map_cons,adE,k2,i2,afJ],?_⟩;simp only[List.map_cons,dT,sK,tw,i3,(yr h1).1]
 |[],_::_,_,h=>by simp[bv]at h
 |_::_,[],_,h=>by simp[bv]at h
section
variable {P:Program}
theorem cO{s:St}{ops:List Operand}(h:ops.all aw=true):ops.map (ev s.toS)=(ops.map (evA s)).map At.toV:=by
 rw[adD];exact adG fun x hx=>ae (adC.1 h x hx)
theorem vr{f:Nat}{φ:List AV->(AV->Prop)->Prop}{ps rs:List U}{pre:Fl ps->Prop}{F:Fl ps->Fl rs}(hφ:∀x K,pre x->K (bC rs (F x)).toV->φ (dT ps x) K)(h:Con P f (oQ φ)):Cont P f (bd ps rs pre F):=by
 refine⟨h.run,fun pk s ops k k' hk hc=>?_,fun g pk s a w H γ F1 ops k hX hops hc=>?_⟩
 ·unfold bd at hc⊢;dsimp only at hc⊢;split at hc
  ·exact⟨hc.1,hk _ _ (bE _ _) hc.2⟩
  ·exact hc.elim
 ·unfold bd at hc;dsimp only at hc;obtain⟨H1,F2,h1⟩:=cj (ops.map (evA s)) s H F1 hX;generalize bt s (ops.map (evA s))=s1 at hc h1;split at hc
  ·rename_i x hx;obtain⟨c1,c2,c3⟩:=cV hx;refine Calls.mono (h.call g s1.toS a w H1 γ F2 ops (fun s' av=>∃t v',SEq s' t.toS/\av=v'.toV/\k t v') h1 hops ?_) ?_
   ·unfold oQ;dsimp only;rw[cO hops,dj c1];have e:(ops.map fun x=>(ev s1.toS x).map T.canon)=(ops.map (ev s1.toS)).map (AV.map T.canon):=by rw[adD];rfl
    rw[e,cO hops];refine⟨c2,?_⟩;rw[c3];exact hφ x _ hc.1 ⟨s1,_,⟨fun _=>rfl,rfl⟩,rfl,hc.2⟩
   ·rintro e w' ⟨r,s',av,H',γ',F',k1,⟨t,v',e1,rfl,k2⟩,k3,k4⟩
    refine .inl ⟨r,t,v',H',γ',F',k1,k2,?_,aV e1 k4⟩;rw[e1.2]at k3;exact k3
  ·exact hc.elim
theorem CJ{f:Nat}{ps rs:List U}{F:Fl ps->Fl rs}(h:Cont P f (bd ps rs (fun _=>True) F)):Cont P f (ap ps rs F):=by
 have e:∀pk s ops k,ap ps rs F pk s ops k->bd ps rs (fun _=>True) F pk s ops k:=by
  intro pk s ops k hc;unfold ap at hc;unfold bd;dsimp only at hc⊢;split at hc
  ·exact⟨trivial,hc⟩
  ·exact hc.elim
 refine⟨h.run,fun pk s ops k k' hk hc=>?_,fun g pk s a w H γ F1 ops k hX hops hc=>h.call g pk s a w H γ F1 ops k hX hops (e _ _ _ _ hc)⟩;unfold ap at hc⊢;dsimp only at hc⊢;split at hc
 ·exact hk _ _ (bE _ _) hc
 ·exact hc.elim
theorem cq{s:St}:∀{rs:List ResultVar}{k:List At->Prop},(∀vs,¬ k vs)->¬ cE P s rs k
 |[],k,hk,h=>hk _ h
 |r::rs,k,hk,h=>by
  have key:∀v,¬ cE P s rs (fun vs=>k (v::vs)):=fun v=>cq fun vs=>hk _
  simp only[cE]at h;unfold lj at h;cases r with
  |tmp t=>exact key _ h
  |cell a t=>
   dsimp only at h;split at h
   ·split at h
    ·split at h
     ·exact loadT_false key h
     ·exact h
    ·exact h
   ·exact h
where
 loadT_false {m:List (Nm×Nat×Rt)} {t:TypeId} {x:At} {k:At->Prop} (hk:∀v,¬ k v) (h:j8 P m t x k):False:=by
  unfold j8 at h;split at h
  ·split at h
   ·split at h<;>split at h<;>first|exact hk _ h|exact h
   ·split at h
    ·exact hk _ h.2
    ·exact h
   ·split at h<;>split at h<;>first|exact hk _ h|exact h
   ·exact h
  ·exact h
theorem iA{s:St}(hop:∀p i,gtA s.t i=.one (.c (.pl p))->okP (toM s.m) p):∀{rs:List ResultVar}{us:List U}{K:Fl us->Prop}{k:List At->Prop},(∀vs,k vs->∃x,bv us vs=some x/\K x)->cE P s rs k ->
  dX P s.toS rs (fun xs=>∃x:Fl us,xs.map (·.map T.canon)=uo us x/\xs.all AV1.isFz=true/\K x)
 |[],us,K,k,hk,h=>by
  obtain⟨x,hx,hK⟩:=hk _ h;cases us with
  |nil=>exact⟨x,rfl,rfl,hK⟩
  |cons u us=>simp[bv]at hx
 |r::rs,us,K,k,hk,h=>by
  simp only[cE]at h;simp only[dX];have step:∀{v:At},cE P s rs (fun vs=>k (v::vs))->(match v.toV with
    |.one x=>dX P s.toS rs fun xs=>∃y:Fl us,(x::xs).map (·.map T.canon)=uo us y/\(x::xs).all AV1.isFz=true/\K y
    |_=>False):=by
   intro v hv;cases us with
   |nil=>exact(cq (fun vs hvs=>by obtain⟨x,hx,_⟩:=hk _ hvs;simp[bv]at hx) hv).elim
   |cons u us=>
    cases hc:oy u v with
    |none=>exact(cq (fun vs hvs=>by obtain⟨x,hx,_⟩:=hk _ hvs;simp only[bv,hc]at hx;cases hx) hv).elim
    |some a=>
     obtain⟨c1,_⟩:=yr hc;obtain⟨_,c3⟩:=qU hc;have ih:=iA hop (us:=us) (K:=fun y=>K (Fl.cons u us a y)) (fun vs hvs=>by
      obtain⟨x,hx,hK⟩:=hk _ hvs;simp only[bv,hc]at hx;cases h2:bv us vs with
      |none=>rw[h2]at hx;cases hx
      |some b=>rw[h2]at hx;simp only[acV]at hx;subst hx;exact⟨b,rfl,hK⟩) hv
     rw[tz]at c1;cases v with
     |one x=>
      refine resGets_mono ?_ ih;rintro xs ⟨y,e1,e2,hK⟩
      refine⟨_,?_,?_,hK⟩
      ·simp only[List.map_cons,uo,sK,tw,e1];simp only[At.toV,AV.map,AV.one.injEq]at c1;rw[c1]
      ·simp only[adE,e2,afO];exact c3
     |tup _=>simp[oy]at hc
     |any=>simp[oy]at hc
  cases r with
  |tmp t=>
   simp only[lj]at h;simp only[vb];rw[show aH s.toS.t t=(gtA s.t t).toV from b9 t s.t];exact step h
  |cell a t=>
   simp only[lj]at h;simp only[vb];split at h
   ·rename_i p hp;split at h
    ·split at h
     ·have hl:=yW (m:=s.m) (x:=gtA s.t a) (fun q hq=>hop q a hq) h
      rw[show aH s.toS.t a=(gtA s.t a).toV from b9 a s.t];refine loadK_mono ?_ hl;rintro _ ⟨v,rfl,hv⟩
      exact step hv
     ·exact h.elim
    ·exact h.elim
   ·exact h.elim
where
 loadK_mono {m:Mm} {t:TypeId} {x:AV} {k k':AV->Prop} (hk:∀v,k v->k' v) (h:sO P m t x k):sO P m t x k':=by
  unfold sO at h⊢;refine⟨h.1,?_⟩
  replace h:=h.2
  split at h
  ·split at h
   ·rename_i ha;rw[if_pos ha];exact⟨h.1,fun hh=>hk _ (h.2 hh)⟩
   ·rename_i ha;rw[if_neg ha];split at h
    ·exact fun hh=>hk _ (h hh)
    ·exact h.elim
  ·split at h
   ·rename_i ha;rw[if_pos ha];exact atK_mono (fun ts hts hh=>hk _ (hts hh)) h
   ·rename_i ha;rw[if_neg ha];refine atK_mono (fun ts hts=>?_) h;split at hts
    ·exact fun hh=>hk _ (hts hh)
    ·exact hts.elim
  ·exact h.elim
 atK_mono {m:Mm} {p:Pl} {n:Nat} {k k':List T->Prop} (hk:∀v,k v->k' v) (h:atK m p n k):atK m p n k':=by
  unfold atK at h⊢;split at h
  ·exact h.elim
  ·split at h
   ·exact⟨h.1,hk _ h.2⟩
   ·exact inK_mono hk h
   ·exact h.elim
 inK_mono {k k':List T->Prop} (hk:∀v,k v->k' v):∀{path:List Step}{sub:List Sh}{l:List (List D)}{n:Nat},inK sub l n path k->inK sub l n path k'
  |[],_,_,_,h=>h.elim
  |[st],sub,l,n,h=>by
   simp only[inK]at h⊢;refine⟨h.1,?_⟩
   replace h:=h.2
   split at h
   ·exact hk _ h
   ·exact h.elim
  |st::st'::r,sub,l,n,h=>by
   simp only[inK]at h⊢;split at h
   ·split at h
    ·exact inK_mono hk h
    ·exact h.elim
   ·exact h.elim
 resGets_mono {s:S}:∀{rs:List ResultVar}{k k':List AV1->Prop},(∀v,k v->k' v)->dX P s rs k->dX P s rs k'
  |[],k,k',hk,h=>hk _ h
  |r::rs,k,k',hk,h=>by
   simp only[dX]at h⊢;have st:∀v:AV,(match v with|.one x=>dX P s rs fun xs=>k (x::xs)|_=>False)->(match v with|.one x=>dX P s rs fun xs=>k' (x::xs)|_=>False):=by
    intro v hv;cases v with
    |one x=>exact resGets_mono (fun xs=>hk _) hv
    |_=>exact hv
   cases r with
   |tmp t=>exact st _ h
   |cell a t=>exact loadK_mono st h
theorem Ex{s:S}{rs:List ResultVar}{us:List U}{K:AV->Prop}{Q:Fl us->Prop}(hfrz:eT s rs=s)(hQ:∀x,Q x->K (bC us x).toV)(h:dX P s rs (fun xs=>∃x:Fl us,xs.map (·.map T.canon)=uo us x/\xs.all AV1.isFz=true/\Q x)):rA P s rs K:=by
 unfold rA;rw[hfrz];refine iA.resGets_mono ?_ h;rintro xs ⟨x,e1,e2,hq⟩
 have hK:=hQ x hq
 have resL_eq:∀(us:List U)(x:Fl us),(bC.resL us x).map A1.toV=uo us x:=by
  intro us;induction us with
  |nil=>intro _;rfl
  |cons u r ih=>intro x;simp only[bC.resL,List.map_cons,uo,ih]
 match xs,e2,us,x,e1,hK with
 |[],_,[],x,_,hK=>exact⟨rfl,hK⟩
 |[y],e2,[u],x,e1,hK=>
  simp only[List.map_cons,List.map_nil,uo,List.cons.injEq,and_true]at e1;refine⟨by simpa using e2,?_⟩;rw[e1];have:(bC [u] x).toV=.one (AU u (Fl.hd u [] x)).toV:=by show(zX u x).toV=_;rw[tz];rfl
  rw[<- this];exact hK
 |y::y'::ys,e2,u::v::r,x,e1,hK=>
  refine⟨e2,?_⟩;rw[e1,<- resL_eq];exact hK
 |[],_,_::_,_,e1,_=>simp[uo]at e1
 |[_],_,[],_,e1,_=>simp[uo]at e1
 |[_],_,_::_::_,_,e1,_=>simp[uo]at e1
 |_::_::_,_,[],_,e1,_=>simp[uo]at e1
 |_::_::_,_,[_],_,e1,_=>simp[uo]at e1
end
section
variable {P:Program}
theorem UH{m:List (Nm×Nat×Rt)}{t:TypeId}{x:At}{k:At->Prop}(h:j8 P m t x k):∃v,k v:=by
 rcases Classical.em (∃v,k v)with hh|hh
 ·exact hh
 ·exact(cq.loadT_false (fun v hv=>hh ⟨v,hv⟩) h).elim
theorem UY{t:Tt}(h:t.owned=false):∀sub l,t.toT≠.ow sub l:=by
 cases t with
 |ow _ _ _=>cases h
 |_=>intro _ _ h;cases h
theorem yI{s:St}{n:Nm}{r:Rt}(hr:be s.m n=some r)(hh:r.hole=none)(hc:r.cells.all (fun t=>!t.owned)=true):∀i,m7 s.toS n i=s.toS
 |0=>rfl
 |i+1=>by
  simp only[m7];rw[yI hr hh hc i];unfold G9;have e:aS s.toS.m ⟨n,i,[]⟩=(r.cells.map Tt.toT)[i]? := by
   unfold aS;rw[show aa s.toS.m n=some r.toR from aP hr];show(holed (r.cells.map Tt.toT) r.hole)[i]? = _
   rw[hh];rfl
  rw[e,acZ];cases hi:r.cells[i]? with
  |none=>rfl
  |some t=>
   have:=adC.1 hc t (adK hi)
   have ho:t.owned=false:=by simpa using this
   have hne:=UY ho
   simp only[Option.map_some];cases ht:t.toT with
   |ow sub l=>exact(hne _ _ ht).elim
   |_=>rfl
theorem m6{s:St}:∀{rs:List ResultVar}{us:List U}{k:List At->Prop},(∀vs,k vs->∃x,bv us vs=some x)->cE P s rs k->eT s.toS rs=s.toS
 |[],_,_,_,_=>rfl
 |r::rs,us,k,hk,h=>by
  simp only[cE]at h;have step:∀{v:At},cE P s rs (fun vs=>k (v::vs))->v.noRf=true/\eT s.toS rs=s.toS:=by
   intro v hv;cases us with
   |nil=>exact(cq (fun vs hvs=>by obtain⟨x,hx⟩:=hk _ hvs;simp[bv]at hx) hv).elim
   |cons u us=>
    cases hc:oy u v with
    |none=>exact(cq (fun vs hvs=>by obtain⟨x,hx⟩:=hk _ hvs;simp only[bv,hc]at hx;cases hx) hv).elim
    |some a=>
     exact⟨(qU hc).1,m6 (us:=us) (fun vs hvs=>by
      obtain⟨x,hx⟩:=hk _ hvs;simp only[bv,hc]at hx;cases h2:bv us vs with
      |none=>rw[h2]at hx;cases hx
      |some b=>exact⟨b,rfl⟩) hv⟩
  simp only[eT];cases r with
  |tmp t=>
   simp only[lj]at h;obtain⟨h1,h2⟩:=step h;have e:oE s.toS (.tmp t)=s.toS:=by
    simp only[oE];rw[show aH s.toS.t t=(gtA s.t t).toV from b9 t s.t];exact uG h1
   rw[e];exact h2
  |cell a t=>
   simp only[lj]at h;split at h
   ·rename_i p hp;split at h
    ·rename_i r hr;split at h
     ·rename_i hb;simp only[acX,Option.isNone_iff_eq_none]at hb;obtain⟨v,hv⟩:=UH h;have e:oE s.toS (.cell a t)=s.toS:=by
       simp only[oE];rw[gG hp];simp only[At.toV,A1.toV,Tt.toT];rw[show aa s.toS.m p.root=some r.toR from aP hr];exact yI hr hb.1 hb.2 _
      rw[e];exact(step hv).2
     ·exact h.elim
    ·exact h.elim
   ·exact h.elim
variable {g:G} {a:Act} {w:World}
theorem xO{s:St}(h:R g s.toS a w)(n:Nm):∀i,R g (yH s n i).toS a w
 |0=>h
 |i+1=>NX (xO h n i) _
theorem Pt{s:St}(h:R g s.toS a w)(r:ResultVar):R g (DC s r).toS a w:=by
 cases r with
 |tmp t=>exact NW h _
 |cell a' t=>
  simp only[DC];split
  ·split
   ·exact xO h _ _
   ·exact h
  ·exact h
theorem mP:∀(rs:List ResultVar){s:St},R g s.toS a w->R g (iu s rs).toS a w
 |[],_,h=>h
 |r::rs,_,h=>mP rs (Pt h r)
theorem US{s:St}(h:R g s.toS a w):∀p i,gtA s.t i=.one (.c (.pl p))->okP (toM s.m) p:=by
 intro p i e;obtain⟨H,γ,F,hX⟩:=h;have:=hX.t i
 rw[gG e]at this;obtain⟨_,h1,_⟩:=this;exact Mg h1
theorem nr{rs:List ResultVar}{us:List U}{KK:Fl us->Prop}{K:AV->Prop}{t:St}(hK:∀r,KK r->K (bC us r).toV)(h:rC P rs us KK t)(hR:R g t.toS a w):∃s'',rA P s'' rs K/\R g s'' a w:=by
 unfold rC at h;have hR1:=mP rs hR
 refine⟨_,Ex (us:=us) (Q:=KK) (m6 (us:=us) ?_ h) hK (iA (US hR1) ?_ h),hR1⟩
 ·intro vs hvs;split at hvs
  ·rename_i x hx;exact⟨x,hx⟩
  ·exact hvs.elim
 ·intro vs hvs;split at hvs
  ·rename_i x hx;exact⟨x,hx,hvs⟩
  ·exact hvs.elim
theorem io:∀(i:Nat)(us:List U)(x:Fl us),(wn i us x).map (fun y=>(y.1,y.2.2.toV))=aW i (dT us x)
 |_,[],_=>rfl
 |i,u::r,x=>by simp only[wn,List.map_cons,dT,aW,io (i+1) r]
theorem cz:∀(us:List U)(x:Fl us),(dT us x).length=us.length
 |[],_=>rfl
 |u::r,x=>by simp only[dT,ac0,cz r]
end
theorem Bo{e:En}(he:e.ok)(hm:e.P.follows .mixedOrders=true){f:Nat}{fn:Func}(hf:e.P.funcs[f]? = some fn) (hname:(fn.name == "runtime.NumGoroutine")=false) (hb:fn.body.isSome=true) {an:An} {ps rs:List U} {pre:Fl ps->Prop} {F:Fl ps->Fl rs}
  (hlen:Nat.ble ps.length fn.ntmps=true) (hc:fi fn.ntmps (fn.body.getD .skip)=true) (law:∀x,pre x->∀KK:Fl rs->Prop,KK (F x)->ao e fn an ps rs x KK):Cont e.P f (bd ps rs pre F):=by
 have hb':fn.body=some (fn.body.getD .skip):=by cases h:fn.body with
  |none=>rw[h]at hb;cases hb
  |some c=>rfl
 refine vr (φ:=fun avs K=>∃x:Fl ps,avs=dT ps x/\pre x/\K (bC rs (F x)).toV) (fun x K hp hk=>⟨x,rfl,hp,hk⟩)
  (xg hf hname hb' _ (fun avs K⟨x,hx,_,_⟩=>by rw[hx,cz];exact ac5 hlen) (fun g avs K hg⟨x,hx,hp,hk⟩=>?_))
 subst hx;have h:=law x hp (fun r=>r=F x) rfl
 have h1:=jD (e:=⟨e.P,e.E,e.cs,e.sh,fun _ _=>False⟩) he hm (g:=g) _ an (yz ps x) _ (by rw[hg];exact hc) h
 have e0:(yz ps x).toS=⟨aW 0 (dT ps x),[]⟩:=aY.S_ext (io 0 ps x) rfl
 rw[e0]at h1;refine lJ h1 (fun ex s' a w h' hR=>?_);cases ex with
 |normal=>
  obtain⟨t,rfl,ht⟩:=h';exact nr (fun r hr=>by rw[hr];exact hk) ht hR
 |ret=>
  obtain⟨t,rfl,ht⟩:=h';exact nr (fun r hr=>by rw[hr];exact hk) ht hR
 |exit i=>exact h'.elim (fun t ht=>ht.2.elim)
 |panic c=>obtain⟨_,_,_,_,hf⟩:=h';exact hf.elim
 |_=>exact h'.elim
theorem xi{e:En}(he:e.ok)(hm:e.P.follows .mixedOrders=true){f:Nat}{fn:Func}(hf:e.P.funcs[f]? = some fn) (hname:(fn.name == "runtime.NumGoroutine")=false) (hb:fn.body.isSome=true) {an:An} {ps rs:List U} {F:Fl ps->Fl rs}
  (hlen:Nat.ble ps.length fn.ntmps=true) (hc:fi fn.ntmps (fn.body.getD .skip)=true) (law:∀x,∀KK:Fl rs->Prop,KK (F x)->ao e fn an ps rs x KK):Cont e.P f (ap ps rs F):=
 CJ (Bo he hm hf hname hb hlen hc (fun x _=>law x))
def MC(s:S)(rs:List ResultVar)(K:List Sh->List (List D)->Prop):Prop:=
 match rs with
 |[.tmp t]=>match aH s.t t with
  |.one (.c (.rf ⟨n,0,[]⟩))=>match aa s.m n with
   |some ⟨false,[.ow sub l]⟩=>K sub l
   |_=>False
  |_=>False
 |_=>False
def aa8(rs:List ResultVar)(K:List Sh->List (List D)->Prop):Exit->S->Prop
 |.normal,s=>MC s rs K
 |.ret,s=>MC s rs K
 |_,_=>False
def UW(φ:List AV->List Sh->List (List D)->(List (List D)->Prop)->Prop):CK1:=fun s ops k=>
 match ops with
 |[]=>False
 |o::os=>
  let s1:=iV s (os.map (ev s))
  match ev s1 o with
  |.one (.c (.rf ⟨r,0,[]⟩))=>match aa s1.m r with
   |some ⟨false,[.ow sub l]⟩=>(os.map (ev s1)).all AV.isFz=true /\
     φ (os.map fun x=>(ev s1 x).map T.canon) sub l (fun l'=>k ⟨j7 (aM r) s1.t,(r,⟨false,[.ow sub l']⟩)::ax (aM r) (bj s1.m r)⟩ (.one (.c (.rf ⟨r,0,[]⟩))))
   |_=>False
  |_=>False
section
variable {P:Program}
theorem V0{f:Nat}{fn:Func}{c:Code}(hf:P.funcs[f]? = some fn) (hname:(fn.name == "runtime.NumGoroutine")=false) (hb:fn.body=some c) (φ:List AV->List Sh->List (List D)->(List (List D)->Prop)->Prop)
  (hlen:∀avs sub l K,φ avs sub l K->avs.length+1<=fn.ntmps)
  (hbody:∀(g:G)avs sub l K,g.nt=fn.ntmps->φ avs sub l K->AW P g c (aa8 fn.results.toList (fun sub' l'=>sub'=sub/\K l')) ⟨aW 0 (.one (.c (.rf ⟨.out 0,0,[]⟩))::avs),[(.out 0,⟨false,[.ow sub l]⟩)]⟩):Con P f (UW φ):=by
 refine⟨fun args w=>?_,?_⟩
 ·have h1:fn.name ≠ "runtime.NumGoroutine" := by simpa using hname
  simp[callFunc,hf,h1,hb]
 ·intro g s a w H γ F ops k hX hops hK;cases ops with
  |nil=>exact hK.elim
  |cons o os=>
  unfold UW at hK;dsimp only at hK;obtain⟨H1,F1,h1⟩:=jN (os.map (ev s)) s H F hX;generalize iV s (os.map (ev s))=s1 at hK h1;have hops':aw o=true/\os.all aw=true:=by simpa using hops
  split at hK
  rotate_left
  ·exact hK.elim
  rename_i r heo;split at hK
  rotate_left
  ·exact hK.elim
  rename_i sub l hroot;obtain⟨hfz,hφ⟩:=hK;have hevo:=aA h1 hops'.1
  rw[heo]at hevo;obtain⟨_,hokr,hval⟩:=hevo;have hR:=h1.mem.roots _ (ac hroot)
  have hR2:=hR
  unfold ba at hR2;rw[if_neg (by simp)]at hR2;obtain⟨v0,t0,hγr,hcells,hTR⟩:=hR2;simp only[List.cons.injEq,and_true]at hcells;subst hcells;have hv0:a.eval o=v0:=by
   simp only[plV,hγr,aq]at hval
   first|exact(Option.some.inj hval).symm|(simp at hval;exact hval.symm)
  have hle:=hlen _ _ _ _ hφ
  rw[acY]at hle
  let γc:Gam:=fun n=>if n=.out 0 then .gh v0 else γ n
  let mc:Mm:=[(.out 0,⟨false,[.ow sub l]⟩)]
  let g1:G:=⟨fn.ntmps,w,H1,F1 r,fun _=>none,none,[]⟩
  have hγc:γc (.out 0)=.gh v0:=by simp[γc]
  have hRc:ba w H1 γc mc (.out 0) ⟨false,[.ow sub l]⟩ (F1 r):=by
   unfold ba;rw[if_neg (by simp)];exact⟨v0,_,hγc,rfl,hTR⟩
  have hge:∀c,F1 r c<=tot F1 s1.m c:=fun c=>aQ (F:=F1) (ac hroot) c
  let Fc:Nm->Fp:=fun _=>F1 r
  have htc:∀c,tot Fc mc c=F1 r c:=fun c=>(afG (F1 r c))
  have hmc:Mem w H1 γc mc Fc:=by
   refine⟨h1.mem.agree,fun x hx=>?_,by simp[mc],fun c=>by rw[htc];exact aeF (hge c) (h1.mem.le1 c),fun c hc=>by rw[htc]at hc;exact h1.mem.lt c (by have:=hge c;omega),fun c hc=>by rw[htc]at hc;exact h1.mem.nofz c (by have:=hge c;omega)⟩;simp only[mc,ac9]at hx;subst hx;exact hRc
  refine calls_of_wp hf hb (Code.wp_mono (fun e a' w' hl=>?_) (hbody g1 _ _ _ _ rfl hφ _ w ⟨H1,γc,Fc,?_⟩))
  ·obtain⟨s',hq,H',γ',F',hX'⟩:=hl;have fin:MC s' fn.results.toList (fun sub' l'=>sub'=sub/\k ⟨j7 (aM r) s1.t,(r,⟨false,[.ow sub l']⟩)::ax (aM r) (bj s1.m r)⟩ (.one (.c (.rf ⟨r,0,[]⟩)))) ->
     a'.defers=[]/\∃v,(results fn a'.tmps).run P w'=.ok v w'/\∃rr s'' av H'' γ'' F'',Ending.returned v=.returned rr/\k s'' av/\AR w' H'' γ'' s''.m av rr/\RX g s'' a w' H'' γ'' F'':=by
    intro hq;unfold MC at hq;split at hq
    rotate_left
    ·exact hq.elim
    rename_i t hrs;split at hq
    rotate_left
    ·exact hq.elim
    rename_i n hgt;split at hq
    rotate_left
    ·exact hq.elim
    rename_i sub' l' hout;obtain⟨rfl,hk⟩:=hq;have hrun:(results fn a'.tmps).run P w'=.ok (a'.tmps.getD t undef) w':=by
     rw[gM,Array.mapM_eq_mapM_toList,hrs];simp[kn]
    have hres:AR w' _ _ _ _ (a'.tmps.getD t undef):=hX'.t t
    rw[hgt]at hres;obtain⟨_,_,hpv⟩:=hres;have hRn:=hX'.mem.roots _ (ac hout)
    unfold ba at hRn;rw[if_neg (by simp)]at hRn;obtain⟨v1,t1,hγn,hc1,hTR1⟩:=hRn;simp only[List.cons.injEq,and_true]at hc1;subst hc1;have hv1:a'.tmps.getD t undef=v1:=by
     simp only[plV,hγn,aq]at hpv
     first|exact(Option.some.inj hpv).symm|(simp at hpv;exact hpv.symm)
    have hfr:=hX'.fr
    dsimp only[g1]at hfr;have hd:=pm h1 r
    have hmdm:(s1.drop r).m=ax (aM r) (bj s1.m r):=rfl
    have hdm:=hd.mem
    rw[hmdm]at hdm;generalize hmd0:ax (aM r) (bj s1.m r)=md at hdm hk;have tdel:∀c,tot F1 md c+F1 r c=tot F1 s1.m c:=fun c=>by
     rw[<- hmd0,aT];exact iC hroot c
    have hsame:∀c,tot F1 md c≠0->w'.heap[c]? = w.heap[c]? := fun c hc=>
     hfr.block c (h1.mem.lt c (by have:=tdel c;omega)) (by have:=tdel c;have:=h1.mem.le1 c;omega)
    have hnewc:∀c,c<w.heap.size->F1 r c=0->H1 c=H' c:=by
     intro c hc h0
     funext o
     cases hh:H1 c o with
     |some y=>rw[hfr.hold c o y hh]
     |none=>
      cases hh2:H' c o with
      |none=>rfl
      |some y=>
       rcases hfr.hnew c o (by rw[hh2];simp) hh with h'|h'
       ·exact absurd h0 h'
       ·omega
    have hKp:=cg (w':=w') hdm hsame
    have hmd:Mem w' H' γ md F1:=by
     refine⟨hX'.mem.agree,fun x hx=>aJ hKp hfr.hold rfl (fun c hc=>hsame c (by have:=aQ (F:=F1) hx c;omega)) (hdm.roots x hx),hdm.keys,hdm.le1,fun c hc=>by have:=hdm.lt c hc;have:=hfr.size;omega,fun c hc o=>?_⟩;rw[<- hnewc c (hdm.lt c hc) (by have:=tdel c;have:=h1.mem.le1 c;omega)];exact hdm.nofz c hc o
    have hnone:aa md r=none:=by rw[<- hmd0];exact yL h1.mem.keys
    have hRr:ba w' H' (upd γ r (.gh v1)) ((r,⟨false,[.ow sub' l']⟩)::md) r ⟨false,[.ow sub' l']⟩ (F' n):=by
     unfold ba;rw[if_neg (by simp)];exact⟨v1,_,cr,rfl,hTR1⟩
    have hf1:∀c,F' n c<=tot F' s'.m c:=fun c=>aQ (F:=F') (ac hout) c
    have hf2:∀c,F' n c≠0->F1 r c≠0\/w.heap.size<=c:=fun c hc=>hfr.tt c (by have:=hf1 c;omega)
    have hmd0':∀c,F' n c≠0->tot F1 md c=0:=fun c hc=>by
     rcases hf2 c hc with h'|h'
     ·have:=tdel c;have:=h1.mem.le1 c;omega
     ·rcases adM (tot F1 md c)with h0|h0
      ·exact h0
      ·have:=hdm.lt c kQ1;omega
    obtain⟨hM,htot⟩:=rY hmd (n:=r) (rc:=.gh v1) (r:=⟨false,[.ow sub' l']⟩) (f:=F' n) hnone hRr (fun c=>by
      by_cases hc:F' n c=0
      ·have:=hdm.le1 c;omega
      ·have:=hmd0' c hc;have:=hX'.mem.le1 c;have:=hf1 c;omega)
     (fun c hc=>⟨hX'.mem.lt c (by have:=hf1 c;omega),hX'.mem.nofz c (by have:=hf1 c;omega)⟩)
    have hFr:Fr w H1 (tot F1 s1.m) w' H' (tot (upd F1 r (F' n)) ((r,⟨false,[.ow sub' l']⟩)::md)):=by
     refine⟨hfr.size,hfr.os,hfr.tape,hfr.output,fun c hc h0=>hfr.block c hc (by have:=hge c;omega),hfr.hold,fun c o h2 h3=>?_,fun c hc=>?_,hfr.nz⟩
     ·rcases hfr.hnew c o h2 h3 with h'|h'
      ·exact .inl (by have:=hge c;omega)
      ·exact .inr h'
     ·rw[htot]at hc;by_cases h0:F' n c=0
      ·exact .inl (by have:=tdel c;omega)
      ·rcases hf2 c h0 with h'|h'
       ·exact .inl (by have:=hge c;omega)
       ·exact .inr h'
    have hKB:KeepsB (aM r) w γ s1.m w' (upd γ r (.gh v1)) ((r,⟨false,[.ow sub' l']⟩)::md):=by
     have hKa:=jr (w:=w') (γ:=γ) (rc:=.gh v1) (r:=⟨false,[.ow sub' l']⟩) hnone
     have hKd:KeepsB (aM r) w γ s1.m w γ md:=by rw[<- hmd0];exact cM
     constructor
     ·intro q hbq hq;obtain⟨k1,k2⟩:=hKd.pl q hbq hq;obtain⟨k3,k4⟩:=hKp.pl q k1;obtain⟨k5,k6⟩:=hKa.pl q k3;exact⟨k5,k6.trans (k4.trans k2)⟩
     ·intro q hbq hq;obtain⟨k1,k2⟩:=hKd.rf q hbq hq;obtain⟨k3,k4⟩:=hKp.rf q k1;obtain⟨k5,k6⟩:=hKa.rf q k3;exact⟨k5,k6.trans (k4.trans k2)⟩
    refine⟨hX'.df.1,_,hrun,_,_,_,H',upd γ r (.gh v1),_,rfl,hk,?_,hM,h1.fr.trans hFr,h1.nt,⟨h1.df.1,fun j b e=>?_,h1.df.2.2⟩,fun i=>?_⟩
    ·refine⟨fun _=>rfl,?_,?_⟩
     ·simp[fI,aa]
     ·rw[hv1];simp[plV,cr,aq]
    ·have:=h1.df.2.1 j b e
     by_cases hj:Nm.out j=r
     ·rw[hj,hγr]at this;cases this
     ·rw[iT hj];exact this
    ·rw[jY];exact pc hKB hfr.hold (h1.t i)
   cases e with
   |normal=>exact fin hq
   |ret=>exact fin hq
   |_=>exact hq.elim
  ·refine⟨hmc,⟨ac1 _,rfl,rfl,rfl,fun _ _ _=>rfl,fun _ _ _ h=>h,fun b o h2 h3=>absurd h3 h2,fun c hc=>.inl (by rw[htc]at hc;exact hc),ji⟩,?_,⟨rfl,fun i b' e=>by simp[g1]at e,dE h1⟩,fun i=>?_⟩
   ·simp[g1];omega
   ·have hget:∀x,(o::os)[i]? = some x->(((o::os).map a.eval).toArray++Array.replicate (fn.ntmps - ((o::os).map a.eval).toArray.size) undef).getD i undef=a.eval x:=by
     intro x hx;rw[adP,ad7 (by simp;have:=ah hx;simp at this;omega)];have e:((o::os).map a.eval)[i]? = some (a.eval x):=by rw[acZ,hx];rfl
     rw[List.getElem?_toArray,e];rfl
    cases i with
    |zero=>
     rw[G.tv_none rfl,hget o rfl,hv0];simp only[aW,aH,if_true];refine⟨fun _=>rfl,?_,?_⟩
     ·simp[fI,aa,mc]
     ·simp[plV,hγc,aq]
    |succ i=>
     have hent:aH (aW 0 (.one (.c (.rf ⟨.out 0,0,[]⟩))::os.map fun x=>(ev s1 x).map T.canon)) (i+1)=((os.map fun x=>(ev s1 x).map T.canon)[i]?).getD .any:=by
      simp only[aW,aH];rw[if_neg kQ1];rw[dg];simp
     show AR w H1 γc mc (aH (aW 0 (.one (.c (.rf ⟨.out 0,0,[]⟩))::os.map fun x=>(ev s1 x).map T.canon)) (i+1)) _
     rw[hent,acZ];cases hi:os[i]? with
     |none=>simp only[aeY,ae9];trivial
     |some x=>
      have hx:=aA h1 (adC.1 hops'.2 x (adK hi))
      simp only[Option.map_some,adW];have hz:(ev s1 x).isFz=true:=by
       have:=adC.1 hfz (ev s1 x) (adO (adK hi))
       exact this
      rw[G.tv_none rfl,hget x (by simpa using hi)];exact dw bW (kA (fun _ _ _ h=>h) hz hx)
end
section
variable {α β γ' δ:Type} {P:Program} {f:Nat} {fn:Func} {co:Code}
def fo0(c:Rw α)(n:Nat)(pre:List α->Prop)(f:List α->List α):List AV->List Sh->List (List D)->(List (List D)->Prop)->Prop
 |[],sub,l,K=>match cm c l with
  |some s=>sub=List.replicate n .fr/\pre s/\K ((f s).map c.enc)
  |_=>False
 |_,_,_,_=>False
def fo1(c:Rw α)(n:Nat)(a:Cd β)(pre:List α->β->Prop)(f:List α->β->List α):List AV->List Sh->List (List D)->(List (List D)->Prop)->Prop
 |[.one x],sub,l,K=>match cm c l,a.dec x with
  |some s,some x=>sub=List.replicate n .fr/\pre s x/\K ((f s x).map c.enc)
  |_,_=>False
 |_,_,_,_=>False
def fo2(c:Rw α)(n:Nat)(a:Cd β)(b:Cd δ)(pre:List α->β->δ->Prop)(f:List α->β->δ->List α):List AV->List Sh->List (List D)->(List (List D)->Prop)->Prop
 |[.one x,.one y],sub,l,K=>match cm c l,a.dec x,b.dec y with
  |some s,some x,some y=>sub=List.replicate n .fr/\pre s x y/\K ((f s x y).map c.enc)
  |_,_,_=>False
 |_,_,_,_=>False
end
attribute [push_cast] UW fo0 fo1 fo2 MC aa8
section
variable {P:Program} {g:G} {a:Act} {w:World} {H:FH} {γ:Gam} {F:Nm->Fp}
theorem Dg{m:Mm}{t:T}{f:Fp}{v:Value}(h:TR w H γ m t f v):pY (m.map (·.1)) t:=by
 have key:∀{n:Nm}{r:Root},aa m n=some r->n∈m.map (·.1):=fun h=>adO (f:=(·.1)) (ac h)
 cases t with
 |pl p=>
  obtain⟨_,h1,_⟩:=h;unfold bz at h1;split at h1
  ·exact h1.elim
  ·rename_i hr;exact key hr
 |rf p=>
  obtain⟨_,h1,_⟩:=h;unfold fI at h1;split at h1
  ·exact h1.elim
  ·rename_i hr;exact key hr
 |_=>trivial
theorem Ni{m:Mm}{x:AV1}{y:Value}(h:AR1 w H γ m x y):wR (m.map (·.1)) x:=by
 cases x with
 |c t=>exact Dg h
 |agg ts=>
  obtain⟨cs,_,_,h1⟩:=h;intro t ht;obtain⟨i,hi,e⟩:=List.getElem_of_mem ht;obtain⟨v,g',_,h2,_⟩:=Dh h1 (i:=i) (t:=t) (by rw[acW hi,e]);exact Dg h2
theorem YQ{m:Mm}{x:AV}{y:Value}(h:AR w H γ m x y):Kf (m.map (·.1)) x:=by
 cases x with
 |one x=>exact Ni h
 |tup xs=>
  obtain⟨l,_,h1⟩:=h;have:∀(xs:List AV1)(ys:List Value),ARs w H γ m xs ys->∀x∈xs,wR (m.map (·.1)) x:=by
   intro xs;induction xs with
   |nil=>intro _ _ x hx;simp at hx
   |cons x xs ih=>
    intro ys h z hz;cases ys with
    |nil=>exact h.elim
    |cons y ys=>
     rcases ac8.1 hz with rfl|hz
     ·exact Ni h.1
     ·exact ih ys h.2 z hz
  exact this xs _ h1
 |any=>trivial
theorem S0{m:Mm}{n:Nm}{r:Root}{f:Fp}(h:ba w H γ m n r f):∀t∈r.cells,pY (m.map (·.1)) t:=by
 intro t ht;unfold ba at h;split at h
 ·obtain⟨b,cs,ty,fz,g',_,_,_,_,h1,_⟩:=h;obtain⟨i,hi,e⟩:=List.getElem_of_mem ht;obtain⟨v,g'',_,h2,_⟩:=Dh h1 (i:=i) (t:=t) (by rw[acW hi,e]);exact Dg h2
 ·obtain⟨v,t',_,h1,h2⟩:=h;rw[h1]at ht;simp only[ac9]at ht;subst ht;exact Dg h2
theorem pj{s:S}(hX:RX g s a w H γ F)(n:Nm):RX g ⟨s.t,s.m.map fun x=>(x.1,if x.1=n then fS x.2 else x.2)⟩ a w H γ F:=by
 have hk:(s.m.map fun x=>(x.1,if x.1=n then fS x.2 else x.2)).map (·.1)=s.m.map (·.1):=by rw[adD];rfl
 refine SU hX (by rw[hk];exact hX.mem.keys) (fun x hx=>?_) (fun i=>.inr ⟨.inl rfl,by rw[hk];exact YQ (hX.t i)⟩);rw[hk];obtain⟨y,hy,rfl⟩:=adR.1 hx;refine⟨y.2,q8 hX.mem.keys hy,?_,S0 (hX.mem.roots y hy)⟩;dsimp only;split
 ·exact mL.canon _
 ·exact mL.refl _
theorem gA{sh:List Sh}{cells ts:List Tt}{j:Nm}(h:dx sh cells=some ts):(cells.map Tt.toT).all (T.self j)=true/\∀r:Nm,(cells.map Tt.toT).map (T.ren r j)=cells.map Tt.toT:=by
 induction cells generalizing sh ts with
 |nil=>exact⟨rfl,fun _=>rfl⟩
 |cons c cells ih=>
  cases sh with
  |nil=>simp[dx]at h
  |cons s sh=>
   have key:∀{ts'},dx sh cells=some ts'->(T.self j c.toT=true/\∀r,T.ren r j c.toT=c.toT)->((c::cells).map Tt.toT).all (T.self j)=true/\∀r:Nm,((c::cells).map Tt.toT).map (T.ren r j)=(c::cells).map Tt.toT:=by
    intro ts' h1 h2;obtain⟨i1,i2⟩:=ih h1;exact⟨by simp only[List.map_cons,adE,h2.1,i1,afJ],fun r=>by rw[List.map_cons,List.map_cons,h2.2 r,i2 r]⟩
   cases s with
   |fr=>
    cases c with
    |d x=>
     simp only[dx]at h;split at h
     ·rename_i hr;exact key hr ⟨rfl,fun _=>rfl⟩
     ·cases h
    |nil=>
     simp only[dx]at h;split at h
     ·rename_i hr;exact key hr ⟨rfl,fun _=>rfl⟩
     ·cases h
    |_=>simp[dx]at h
   |ow sub=>
    cases c with
    |ow s' u l=>
     simp only[dx]at h;split at h
     ·rename_i hr;exact key hr ⟨rfl,fun _=>rfl⟩
     ·cases h
    |_=>simp[dx]at h
theorem u9{a b:Nm}:∀{ts:List T}{sh:List Sh}{cs:List C},ts.map T.canon=(aB sh cs).map Tt.toT->ts.map (T.ren a b)=ts
 |[],_,_,_=>rfl
 |t::ts,sh,cs,h=>by
  cases sh with
  |nil=>simp[aB]at h
  |cons s r=>cases cs with
   |nil=>cases s<;>simp[aB]at h
   |cons c cs=>
    have hd:∃t0:Tt,(∀p,t0≠.pl p)/\aB (s::r) (c::cs)=t0::aB r cs:=by
     cases s with
     |fr=>exact⟨.d c,(fun _ h=>by cases h),(by cases c<;>rfl)⟩
     |ow sub=>cases c with
      |li u l=>exact⟨.ow sub u l,(fun _ h=>by cases h),rfl⟩
      |_=>exact⟨.d _,(fun _ h=>by cases h),rfl⟩
    obtain⟨t0,h0,h1⟩:=hd;rw[h1]at h;simp only[List.map_cons,List.cons.injEq]at h;rw[List.map_cons,u9 h.2]
    congr 1
    cases t with
    |pl p=>
     have:=h.1
     cases t0 with
     |pl q=>exact(h0 q rfl).elim
     |_=>simp[T.canon,Tt.toT]at this
    |_=>rfl
theorem Ev:∀(us:List U)(x:Fl us),(bC us x).toV.isFz=true:=by
 have one:∀(u:U)(x:El u),(AU u x).toV.isFz=true:=by
  intro u x;cases u with
  |st n=>simp only[AU,A1.toV,AV1.isFz,adD,afM];exact adC.2 fun _ _=>rfl
  |_=>rfl
 have all:∀(us:List U)(x:Fl us),((bC.resL us x).map A1.toV).all AV1.isFz=true:=by
  intro us;induction us with
  |nil=>intro _;rfl
  |cons u r ih=>intro x;simp only[bC.resL,List.map_cons,adE,one,ih,afJ]
 intro us x
 match us,x with
 |[],_=>rfl
 |[u],x=>show(zX u x).toV.isFz=true;rw[tz];exact one u x
 |u::v::r,x=>exact all (u::v::r) x
theorem So{e:En}(he:e.ok)(hm:e.P.follows .mixedOrders=true){f:Nat}{fn:Func}(hf:e.P.funcs[f]? = some fn) (hname:(fn.name == "runtime.NumGoroutine")=false) (hb:fn.body.isSome=true) {an:An} {sh:List Sh} {u:U} {ps rs:List U} {pre:El u->Fl ps->Prop} {Fn:El u->Fl ps->Fl rs×El u}
  (hlen:Nat.ble (ps.length+1) fn.ntmps=true) (hc:fi fn.ntmps (fn.body.getD .skip)=true) (law:∀x y,pre x y->∀KK:Fl rs×El u->Prop,KK (Fn x y)->Tl e fn an sh u ps rs x y KK):Cont e.P f (XK sh u ps rs pre Fn):=by
 have hb':fn.body=some (fn.body.getD .skip):=by cases h:fn.body with
  |none=>rw[h]at hb;cases hb
  |some c=>rfl
 let φ:List AV->List T->(AV->List T->Prop)->Prop:=fun avs cells K=>∃(x:El u)(y:Fl ps),avs=dT ps y/\cells.map T.canon=(aB sh (flat u x)).map Tt.toT/\pre x y /\
  ∀cells',cells'.all (T.self (.out 0))=true->cells'.length=cells.length->cells'.map T.canon=(aB sh (flat u (Fn x y).2)).map Tt.toT->K (bC rs (Fn x y).1).toV cells'
 have hcon:Con e.P f (Vc 0 φ):=by
  refine V1 hf hname hb' φ (fun avs cells K⟨x,y,hx,_⟩=>by rw[hx,cz];exact ac5 hlen) (fun g avs cells K hg⟨x,y,hx,hcells,hp,hk⟩=>?_);subst hx;have h:=law x y hp (fun r=>r=Fn x y) rfl
  have h1:=jD (e:=⟨e.P,e.E,e.cs,e.sh,fun _ _=>False⟩) he hm (g:=g) _ an _ _ (by rw[hg];exact hc) h
  have hln:cells.length=(aB sh (flat u x)).length:=by
   have:=congrArg List.length hcells
   simpa using this
  have h2:AW e.P g (fn.body.getD .skip) (LQ (fun _ _=>False) ⟨ko e.P fn.results.toList sh u rs (fun r=>r=Fn x y),fun _ _=>False,ko e.P fn.results.toList sh u rs (fun r=>r=Fn x y)⟩) ⟨aW 0 (.one (.c (.pl ⟨.out 0,0,[]⟩))::dT ps y),[(.out 0,⟨true,cells⟩)]⟩:=by
   intro a w ⟨H,γ,F,hX⟩;refine h1 a w ⟨H,γ,F,?_⟩;have:=pj hX (.out 0)
   have e0:(⟨1,(0,0,.one (.c (.pl ⟨.out 0,0,[]⟩)))::wn 1 ps y,[(.out 0,0,⟨true,aB sh (flat u x),none⟩)]⟩:St).toS=⟨aW 0 (.one (.c (.pl ⟨.out 0,0,[]⟩))::dT ps y),[(.out 0,⟨true,cells⟩)].map fun x=>(x.1,if x.1=.out 0 then fS x.2 else x.2)⟩:=by
    refine aY.S_ext ?_ ?_
    ·simp only[List.map_cons,aW,io];rfl
    ·simp only[List.map_cons,List.map_nil,if_true,Rt.toR,holed,fS,hcells]
   rw[e0];exact this
  refine lJ h2 (fun ex s' a w h' hR=>?_);have fin:∀t:St,R g t.toS a w->ko e.P fn.results.toList sh u rs (fun r=>r=Fn x y) t->∃s'',zG 0 e.P s'' fn.results.toList K/\R g s'' a w:=by
   intro t hR ht;unfold ko at ht;dsimp only at ht;have hR1:=cc (.out 0) (dF u) sh 0 (mP fn.results.toList hR)
   generalize a8 (iu t fn.results.toList) (.out 0) (dF u) sh 0=s1 at ht hR1;have hid:=m6 (us:=rs) (k:=fun vs=>match bv rs vs,be s1.m (.out 0)with
    |some x_1,some ⟨true,cells,none⟩=>match dx sh cells with
     |some ts=>match gz u ts with
      |some y_1=>(x_1,y_1)=Fn x y
      |none=>False
     |none=>False
    |_,_=>False) (by
     intro vs hvs;split at hvs
     ·rename_i h1 _;exact⟨_,h1⟩
     ·exact hvs.elim) ht
   refine⟨s1.toS,?_,hR1⟩;unfold zG;rw[hid];have hg2:=iA (us:=rs) (K:=fun r=>∃cells ts y1,be s1.m (.out 0)=some ⟨true,cells,none⟩/\dx sh cells=some ts/\gz u ts=some y1/\(r,y1)=Fn x y) (US hR1) (by
     intro vs hvs;split at hvs
     ·rename_i x1 cells1 h1 h2;split at hvs
      ·rename_i ts h3;split at hvs
       ·rename_i y1 h4;exact⟨x1,h1,cells1,ts,y1,h2,h3,h4,hvs⟩
       ·exact hvs.elim
      ·exact hvs.elim
     ·exact hvs.elim) ht
   have hroot:∃cells1 ts y1,be s1.m (.out 0)=some ⟨true,cells1,none⟩/\dx sh cells1=some ts/\gz u ts=some y1:=by
    rcases Classical.em (∃cells1 ts y1,be s1.m (.out 0)=some ⟨true,cells1,none⟩/\dx sh cells1=some ts/\gz u ts=some y1)with hh|hh
    ·exact hh
    ·refine(cq (fun vs hvs=>?_) ht).elim;split at hvs
     ·rename_i x1 cells1 h1 h2;split at hvs
      ·rename_i ts h3;split at hvs
       ·rename_i y1 h4;exact hh ⟨cells1,ts,y1,h2,h3,h4⟩
       ·exact hvs
      ·exact hvs
     ·exact hvs
   obtain⟨cells1,ts,y1,r1,r2,r3⟩:=hroot;rw[show aa s1.toS.m (.out 0)=some (⟨true,cells1,none⟩:Rt).toR from aP r1];show rA e.P s1.toS fn.results.toList (fun v=>K v (cells1.map Tt.toT))
   refine Ex hid (Q:=fun r=>∃cells ts y1,be s1.m (.out 0)=some ⟨true,cells,none⟩/\dx sh cells=some ts/\gz u ts=some y1/\(r,y1)=Fn x y) ?_ hg2;rintro r ⟨cells2,ts2,y2,q1,q2,q3,q4⟩
   rw[r1]at q1;have q1':=Option.some.inj q1
   simp only[Rt.mk.injEq,true_and,and_true]at q1';subst q1';have e1:r=(Fn x y).1:=by rw[<- q4]
   have e2:y2=(Fn x y).2:=by rw[<- q4]
   obtain⟨k1,_⟩:=pU q2 (jg q3);rw[e1];refine hk _ (gA q2).1 ?_ (by rw[<- e2,k1]);have l1:(cells1.map Tt.toT).length=(aB sh (flat u y2)).length:=by
    have:=congrArg List.length k1
    simpa using this.symm
   have l2:∀(sh:List Sh)(a b:List C),a.length=b.length->(aB sh a).length=(aB sh b).length:=by
    intro sh;induction sh with
    |nil=>intro a b _;cases a<;>cases b<;>rfl
    |cons s r ih=>
     intro a b hab;have hcons:∀(c:C)(cs:List C),(aB (s::r) (c::cs)).length=(aB r cs).length+1:=by
      intro c cs;cases s<;>cases c<;>rfl
     cases a with
     |nil=>cases b with
      |nil=>rfl
      |cons _ _=>cases hab
     |cons c cs=>cases b with
      |nil=>cases hab
      |cons d ds=>rw[hcons,hcons,ih cs ds (by simpa using hab)]
   rw[l1,hln];exact l2 sh _ _ (by rw[ir,ir])
  cases ex with
  |normal=>obtain⟨t,rfl,ht⟩:=h';exact fin t hR ht
  |ret=>obtain⟨t,rfl,ht⟩:=h';exact fin t hR ht
  |exit i=>exact h'.elim (fun t ht=>ht.2.elim)
  |panic c=>obtain⟨_,_,_,_,hf⟩:=h';exact hf.elim
  |_=>exact h'.elim
 refine⟨hcon.run,fun pk s ops k k' hk hcc=>?_,fun g pk s a w H γ F1 ops k hX hops hcc=>?_⟩
 ·unfold XK at hcc⊢;split at hcc
  ·exact hcc.elim
  ·dsimp only at hcc⊢;split at hcc
   ·split at hcc
    ·split at hcc
     ·split at hcc
      ·split at hcc
       ·refine⟨hcc.1,hk _ _ ?_ hcc.2⟩;exact((bE _ _).trans (cK _ _ _ _ _)).trans ⟨ad3 _,fq (ac1 _),((lO _).trans (cQ (ac1 _))).trans (jq _ _ _ (ac1 _))⟩
       ·exact hcc.elim
      ·exact hcc.elim
     ·exact hcc.elim
    ·exact hcc.elim
   ·exact hcc.elim
 ·unfold XK at hcc;cases ops with
  |nil=>exact hcc.elim
  |cons o os=>
   dsimp only at hcc;have hops':aw o=true/\os.all aw=true:=by simpa using hops
   obtain⟨H1,F2,h1⟩:=cj (os.map (evA s)) s H F1 hX;generalize bt s (os.map (evA s))=s1 at hcc h1;split at hcc
   ·rename_i r hro;obtain⟨H2,γ2,F3,h2⟩:=cc (g:=g) r (dF u) sh 0 (Pu h1);generalize a8 s1 r (dF u) sh 0=s2 at hcc h2;split at hcc
    ·rename_i r' hev2;split at hcc
     ·rename_i cells hdr hty hroot;have hr':r'=r:=by simpa using hdr
      subst hr';split at hcc
      ·rename_i ts hts;split at hcc
       ·rename_i x y hx hy;have hn2:=d9 h2
        obtain⟨c1,c2,c3⟩:=cV hy;obtain⟨k1,_⟩:=pU hts (jg hx);refine Calls.mono (hcon.call g s2.toS a w H2 γ2 F3 (o::os) (fun s' av=>∃t v',(∀{a:Act}{w:World}{H:FH}{γ:Gam}{F:Nm->Fp},RX g s' a w H γ F->RX g t.toS a w H γ F)/\av=v'.toV/\av.isFz=true/\k t v') h2 hops ?_) ?_
        ·unfold Vc;dsimp only;rw[cO hops'.2,dj c1,ae hops'.1,hev2];simp only[At.toV,A1.toV,Tt.toT];rw[show aa s2.toS.m r'=some (⟨true,cells,none⟩:Rt).toR from aP hroot];dsimp only[Rt.toR,holed];refine⟨hty.symm,(gA hts).1,by rw[cO hops'.2];exact c2,x,y,?_,?_,hcc.1,?_⟩
         ·have e:(os.map fun x=>(ev s2.toS x).map T.canon)=(os.map (ev s2.toS)).map (AV.map T.canon):=by rw[adD];rfl
          rw[e,cO hops'.2];exact c3
         ·rw[(gA hts).2,k1]
         ·intro cells' s1' l1' e1';refine⟨by simpa using l1',s1',_,_,?_,rfl,Ev _ _,hcc.2⟩;intro a w H γ F hX';have hc:=pj hX' r'
          have hlist:((r',(⟨true,cells'.map (T.ren (.out 0) r')⟩:Root))::ax (aM r') (bj s2.toS.m r')).map (fun x=>(x.1,if x.1=r' then fS x.2 else x.2))=(r',⟨true,(aB sh (flat u (Fn x y).2)).map Tt.toT⟩)::ax (aM r') (bj s2.toS.m r'):=by
           simp only[List.map_cons,if_true]
           congr 1
           ·rw[u9 e1'];simp only[fS,e1']
           ·refine(adG fun z hz=>?_).trans (List.map_id _);have hne:z.1≠r':=by
             intro e;have hz1:z.1∈(ax (aM r') (bj s2.toS.m r')).map (·.1):=adO (f:=(·.1)) hz
             have e2:(ax (aM r') (bj s2.toS.m r')).map (·.1)=(bj s2.toS.m r').map (·.1):=by simp only[ax,adD];rfl
             rw[e2,e]at hz1;exact mh h2.mem.keys hz1
            rw[if_neg hne];rfl
          have hfin:(⟨s2.nx+1,j6 (jQ r') s2.nx s2.t,(r',s2.nx,⟨true,aB sh (flat u (Fn x y).2),none⟩)::bH (aM r') s2.nx (dq s2.m r')⟩:St).toS=⟨j7 (ic r') s2.toS.t,(r',⟨true,(aB sh (flat u (Fn x y).2)).map Tt.toT⟩)::ax (aM r') (bj s2.toS.m r')⟩:=by
           refine aY.S_ext (jz _ _ _) ?_;simp only[List.map_cons]
           congr 1
           have:=cN (aM r') s2.nx (dq s2.m r')
           rw[jV _ _ hn2]at this;exact this
          rw[hfin];dsimp only at hc;rw[hlist]at hc;exact hc
        ·rintro e' w' ⟨rr,s',av,H',γ',F',q1,⟨t,v',q2,rfl,q3,q4⟩,q5,q6⟩
         exact .inl ⟨rr,t,v',H',γ',F',q1,q4,kA (fun _ _ _ h=>h) q3 q5,q2 q6⟩
       ·exact hcc.elim
      ·exact hcc.elim
     ·exact hcc.elim
    ·exact hcc.elim
   ·exact hcc.elim
theorem Ks(s:St)(k:Nat)(sh:List Sh)(u:U):Ext s (uS s k sh u):=by
 unfold uS;split
 ·exact Bu s k sh u
 ·exact Ext.refl s
theorem SX{s:St}(h:R g s.toS a w)(k:Nat)(sh:List Sh)(u:U):R g (uS s k sh u).toS a w:=by
 unfold uS;split
 ·exact NY h k sh u
 ·exact h
theorem Sm{e:En}(he:e.ok)(hm:e.P.follows .mixedOrders=true){f:Nat}{fn:Func}(hf:e.P.funcs[f]? = some fn) (hname:(fn.name == "runtime.NumGoroutine")=false) (hb:fn.body.isSome=true) {an:An} {u:U} {ps:List U} {pre:List (El u)->Fl ps->Prop} {Fn:List (El u)->Fl ps->List (El u)}
  (hlen:Nat.ble (ps.length+1) fn.ntmps=true) (hc:fi fn.ntmps (fn.body.getD .skip)=true) (law:∀x y,pre x y->∀KK:List (El u)->Prop,KK (Fn x y)->qR e fn an u ps x y KK):Cont e.P f (Ef u ps pre Fn):=by
 have hb':fn.body=some (fn.body.getD .skip):=by cases h:fn.body with
  |none=>rw[h]at hb;cases hb
  |some c=>rfl
 let φ:List AV->List Sh->List (List D)->(List (List D)->Prop)->Prop:=fun avs sub l K=>∃(x:List (El u))(y:Fl ps),avs=dT ps y/\sub=List.replicate (nc u) .fr/\l=x.map (al u)/\pre x y/\K ((Fn x y).map (al u))
 have hcon:Con e.P f (UW φ):=by
  refine V0 hf hname hb' φ (fun avs sub l K⟨x,y,hx,_⟩=>by rw[hx,cz];exact ac5 hlen) (fun g avs sub l K hg⟨x,y,hx,hsub,hl,hp,hk⟩=>?_);subst hx;subst hsub;subst hl;have h:=law x y hp (fun r=>r=Fn x y) rfl
  have h1:=jD (e:=⟨e.P,e.E,e.cs,e.sh,fun _ _=>False⟩) he hm (g:=g) _ an _ _ (by rw[hg];exact hc) h
  have e0:(⟨1,(0,0,.one (.c (.rf ⟨.out 0,0,[]⟩)))::wn 1 ps y,[(.out 0,0,⟨false,[.ow (List.replicate (nc u) .fr) u x],none⟩)]⟩:St).toS=⟨aW 0 (.one (.c (.rf ⟨.out 0,0,[]⟩))::dT ps y),[(.out 0,⟨false,[.ow (List.replicate (nc u) .fr) (x.map (al u))]⟩)]⟩:=by
   refine aY.S_ext ?_ rfl;simp only[List.map_cons,aW,io];rfl
  rw[e0]at h1;refine AW.mono h1 (fun ex s' h'=>?_);have fin:∀t:St,OV fn.results.toList u (fun r=>r=Fn x y) t->MC t.toS fn.results.toList (fun sub' l'=>sub'=List.replicate (nc u) .fr/\K l'):=by
   intro t ht;unfold OV at ht;unfold MC;split at ht
   ·rename_i tt hrs;rw[hrs];dsimp only;split at ht
    ·rename_i n hgt;rw[gG hgt];simp only[At.toV,A1.toV,Tt.toT];split at ht
     ·rename_i sh u' l hr;rw[show aa t.toS.m n=some (⟨false,[.ow sh u' l],none⟩:Rt).toR from aP hr];split at ht
      ·rename_i l' hs hcast;obtain⟨e1,rfl⟩:=ij hcast;subst e1;refine⟨iB hs,?_⟩;have hx2:l=Fn x y:=ht
       show K (l.map (al u'))
       rw[hx2];exact hk
      ·exact ht.elim
     ·exact ht.elim
    ·exact ht.elim
   ·exact ht.elim
  cases ex with
  |normal=>obtain⟨t,rfl,ht⟩:=h';exact fin t ht
  |ret=>obtain⟨t,rfl,ht⟩:=h';exact fin t ht
  |exit i=>exact h'.elim (fun t ht=>ht.2.elim)
  |panic c=>obtain⟨_,_,_,_,hf⟩:=h';exact hf.elim
  |_=>exact h'.elim
 refine⟨hcon.run,fun pk s ops k k' hk hcc=>?_,fun g pk s a w H γ F1 ops k hX hops hcc=>?_⟩
 ·unfold Ef at hcc⊢;split at hcc
  ·dsimp only at hcc⊢;split at hcc
   ·split at hcc
    ·split at hcc
     ·refine⟨hcc.1,hk _ _ ?_ hcc.2⟩;exact((Ks _ _ _ _).trans (bE _ _)).trans ⟨ad3 _,fq (ac1 _),((lO _).trans (cQ (ac1 _))).trans (jq _ _ _ (ac1 _))⟩
     ·exact hcc.elim
    ·exact hcc.elim
   ·exact hcc.elim
  ·exact hcc.elim
 ·unfold Ef at hcc;split at hcc
  ·rename_i t os;have hops':os.all aw=true:=by
    have:=hops
    simp only[adE,acX]at this;exact this.2
   dsimp only at hcc;obtain⟨H0,γ0,F0,h0⟩:=SX (Pu hX) t (List.replicate (nc u) .fr) u;generalize uS s t (List.replicate (nc u) .fr) u=s0 at hcc h0;obtain⟨H1,F2,h1⟩:=cj (os.map (evA s0)) s0 H0 F0 h0;generalize bt s0 (os.map (evA s0))=s1 at hcc h1;have hn1:=d9 h1
   split at hcc
   ·rename_i r hev;split at hcc
    ·rename_i sh u' l hroot;split at hcc
     ·rename_i l' x hs hcast hx;obtain⟨e1,rfl⟩:=ij hcast;subst e1;obtain⟨c1,c2,c3⟩:=cV hx;refine Calls.mono (hcon.call g s1.toS a w H1 γ0 F2 (.tmp t::os) (fun s' av=>∃t' v',s'=t'.toS/\av=v'.toV/\k t' v') h1 hops ?_) ?_
      ·unfold UW;dsimp only;rw[cO hops',dj c1];rw[show ev s1.toS (.tmp t)=(evA s1 (.tmp t)).toV from b9 t s1.t,hev];simp only[At.toV,A1.toV,Tt.toT];rw[show aa s1.toS.m r=some (⟨false,[.ow sh u' l],none⟩:Rt).toR from aP hroot];dsimp only[Rt.toR,holed,List.map_cons,List.map_nil,Tt.toT];refine⟨by rw[cO hops'];exact c2,l,x,?_,iB hs,rfl,hcc.1,_,_,?_,?_,hcc.2⟩
       ·have e:(os.map fun x=>(ev s1.toS x).map T.canon)=(os.map (ev s1.toS)).map (AV.map T.canon):=by rw[adD];rfl
        rw[e,cO hops'];exact c3
       ·refine(aY.S_ext (jz _ _ _) ?_).symm;simp only[List.map_cons]
        congr 1
        have:=cN (aM r) s1.nx (dq s1.m r)
        rw[jV _ _ hn1]at this;exact this
       ·rfl
      ·rintro e' w' ⟨rr,s',av,H',γ',F',q1,⟨t',v',rfl,rfl,q4⟩,q5,q6⟩
       exact .inl ⟨rr,t',v',H',γ',F',q1,q4,q5,q6⟩
     ·exact hcc.elim
    ·exact hcc.elim
   ·exact hcc.elim
  ·exact hcc.elim
end
end Go.Am
end

section
namespace Go.Am
open Go Go.RowKit Go.Proofs
section
variable {P:Program}
theorem Bn{f:Nat}{φ:List AV->(AV->Prop)->Prop}(hrun:∀args w,(callFunc f args).run P w=.ok (.enter f args) w)
  (hbody:∀(avs:List AV)(K:AV->Prop)(args:List Value)(w:World)(H:FH)(γ:Gam),φ avs K->args.length=avs.length->(∀(i:Nat)v,avs[i]? = some v->∃y,args[i]? = some y/\AR w H γ [] v y)->Globs H ->
   (∀b o y,H b o=some y->RdV w b o y) ->
   Calls P f args.toArray w (fun e w'=>∃r av H2,e=.returned r/\K av/\Below w.heap.size w w'/\(∀b o y,H b o=some y->H2 b o=some y)/\(∀b o,H2 b o≠none->H b o=none->w.heap.size<=b)/\(∀b o x l c,H2 b o=some (.c (.slice x l c))->H b o=none->Thawed w' b) /\
    (∀b o y,H2 b o=some y->RdV w' b o y)/\av.isFz=true/\AR w' H2 γ [] av r)):Con P f (oQ φ):=by
 refine⟨hrun,fun g s a w H γ F ops k hX hops hK=>?_⟩;unfold oQ at hK;dsimp only at hK;obtain⟨H1,F1,h1⟩:=jN (ops.map (ev s)) s H F hX;generalize iV s (ops.map (ev s))=s1 at hK h1;obtain⟨hfz,hφ⟩:=hK;refine(hbody _ _ (ops.map a.eval) w H1 γ hφ (by simp) (fun i v hi=>?_) (dE h1) h1.mem.agree).mono ?_
 ·rw[acZ]at hi;obtain⟨x,hx0,rfl⟩:=adA.1 hi;have hx:=aA h1 (adC.1 hops x (adK hx0))
  have hz:(ev s1 x).isFz=true:=adC.1 hfz (ev s1 x) (adO (adK hx0))
  exact⟨a.eval x,by rw[acZ,hx0];rfl,dw bW (kA (fun _ _ _ h=>h) hz hx)⟩
 ·rintro e w' ⟨r,av,H2,rfl,hk,hb,hh,hn,hnz,hag,hz,har⟩
  have hold:∀b,b<w.heap.size->w'.heap[b]? = w.heap[b]? := hb.block
  have hnew:∀b,b<w.heap.size->H1 b=H2 b:=by
   intro b hb
   funext o
   cases hc:H1 b o with
   |some y=>rw[hh b o y hc]
   |none=>
    cases hc2:H2 b o with
    |none=>rfl
    |some y=>have:=hn b o (by rw[hc2];simp) hc;omega
  have hsame:∀b,tot F1 s1.m b≠0->w'.heap[b]? = w.heap[b]? := fun b hb=>hold b (h1.mem.lt b hb)
  have hKp:=cg (w':=w') h1.mem hsame
  have hmem:Mem w' H2 γ s1.m F1:=by
   refine⟨hag,fun x hx=>aJ hKp hh rfl (fun b hb=>hsame b (by have:=aQ (F:=F1) hx b;omega)) (h1.mem.roots x hx),h1.mem.keys,h1.mem.le1,fun b hb'=>by have:=h1.mem.lt b hb';have:=hb.size;omega,fun b hb o=>?_⟩;rw[<- hnew b (h1.mem.lt b hb)];exact h1.mem.nofz b hb o
  have hFr:Fr w H1 (tot F1 s1.m) w' H2 (tot F1 s1.m):=
   ⟨hb.size,hb.os,hb.tape,hb.output,fun b hb _=>hold b hb,hh,fun b o h2 h3=>.inr (hn b o h2 h3),fun b hb=>.inl hb,fun b h0=>h0.of_block (hold b h0.lt),hnz⟩
  exact⟨r,s1,av,H2,γ,F1,rfl,hk,kA (fun _ _ _ h=>h) hz har,eN h1 hmem hFr (fun i=>bT hKp hh (h1.t i)) (fun _=>rfl)⟩
theorem jK{f:Nat}{ps rs:List U}{pre:Fl ps->Prop}{F:Fl ps->Fl rs}(hrun:∀args w,(callFunc f args).run P w=.ok (.enter f args) w)
  (hbody:∀(x:Fl ps)(args:List Value)(w:World)(H:FH)(γ:Gam),pre x->args.length=(dT ps x).length->(∀(i:Nat)v,(dT ps x)[i]? = some v->∃y,args[i]? = some y/\AR w H γ [] v y)->Globs H ->
   (∀b o y,H b o=some y->RdV w b o y) ->
   Calls P f args.toArray w (fun e w'=>∃r H2,e=.returned r/\Below w.heap.size w w'/\(∀b o y,H b o=some y->H2 b o=some y)/\(∀b o,H2 b o≠none->H b o=none->w.heap.size<=b)/\(∀b o x l c,H2 b o=some (.c (.slice x l c))->H b o=none->Thawed w' b) /\
    (∀b o y,H2 b o=some y->RdV w' b o y)/\AR w' H2 γ [] (bC rs (F x)).toV r)):Cont P f (bd ps rs pre F):=
 vr (φ:=fun avs K=>∃x:Fl ps,avs=dT ps x/\pre x/\K (bC rs (F x)).toV) (fun x K hp hk=>⟨x,rfl,hp,hk⟩)
  (Bn hrun (fun avs K args w H γ⟨x,hx,hp,hk⟩hl ha hg hag=>by
   subst hx;refine(hbody x args w H γ hp hl ha hg hag).mono ?_;rintro e w' ⟨r,H2,h1,h2,h3,h4,hz,h5,h6⟩
   exact⟨r,_,H2,h1,hk,h2,h3,h4,hz,h5,Ev rs (F x),h6⟩))
theorem gV{f:Nat}{fn:Func}(hf:P.funcs[f]? = some fn) (hname:(fn.name == "runtime.NumGoroutine")=false) (hb:fn.body.isSome=true) (args:Array Value) (w:World):(callFunc f args).run P w=.ok (.enter f args) w:=by
 have h1:fn.name ≠ "runtime.NumGoroutine" := by simpa using hname
 cases hc:fn.body with
 |none=>rw[hc]at hb;cases hb
 |some c=>simp[callFunc,hf,h1,hc]
theorem kB{w:World}{H:FH}{γ:Gam}{l:List UInt8}{y:Value}(h:AR w H γ [] (.one (.c (.d (.str l)))) y):y=.string ⟨l.toArray⟩/\l.length<=BIG:=by
 obtain⟨_,m,h⟩:=h;cases m<;>exact h
theorem RV{w:World}{H:FH}{γ:Gam}{m:Mm}{l:List UInt8}(h:l.length<=BIG):AR w H γ m (.one (.c (.d (.str l)))) (.string ⟨l.toArray⟩):=⟨fun _=>rfl,0,rfl,h⟩
theorem pz(l:List UInt8):(⟨l.toArray⟩:ByteArray).data.toList=l:=by simp
theorem sB(l:List UInt8):(⟨l.toArray⟩:ByteArray).size=l.length:=by simp[ByteArray.size]
theorem Og{args:List Value}{x y:AV}{w:World}{H:FH}{γ:Gam}(hl:args.length=2)(ha:∀(i:Nat) v,[x,y][i]? = some v->∃y,args[i]? = some y/\AR w H γ [] v y):∃u v,args=[u,v]/\AR w H γ [] x u/\AR w H γ [] y v:=by
 match args,hl with
 |[u,v],_=>
  obtain⟨u',h1,h2⟩:=ha 0 x rfl;obtain⟨v',h3,h4⟩:=ha 1 y rfl;simp only[adX,ad9,acV]at h1 h3;subst h1;subst h3;exact⟨u,v,rfl,h2,h4⟩
theorem Gs(B:Nat)(w:World)(n:Nat):Below B w (w.drewN n):=⟨rfl,rfl,rfl,ac1 _,fun _ _=>rfl⟩
theorem Cc{w:World}{H:FH}(hg:Globs H)(hag:∀b o y,H b o=some y->RdV w b o y){k:Nat}(hk:Xu=some k):∃n,w.cell? ⟨k,0,none⟩=some (.int .i64 n):=by
 obtain⟨n,m,h⟩:=hg.2 k hk;obtain⟨y,h1,h2⟩:=h 0 (by simp);have h2:FD H m (.int .i64 n) y:=h2
 have:y=.int .i64 n:=by cases m<;>exact h2.1
 subst this;exact⟨n,hag k 0 _ h1⟩
end
end Go.Am
end
