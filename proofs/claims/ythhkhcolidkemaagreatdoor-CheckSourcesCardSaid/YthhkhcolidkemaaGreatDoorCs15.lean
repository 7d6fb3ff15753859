/-
  Part 15: AmIt · AmE3i · AmE5 · AmE6 · AmE7 · AmE8 · AmE9 · AmE10 · AmE11 · AmOwnCon · AmE12 · AmE14 · AmLib.
-/
import Derived.Test.YthhkhcolidkemaaGreatDoorCs14
import Derived.Maps.RangeRun
set_option linter.unusedSimpArgs false
set_option linter.unusedVariables false
set_option linter.unusedSectionVars false
set_option linter.unnecessarySimpa false
section
namespace Go.Am
open MapKept
open Go.ChangeMaps (setBlock)
theorem Pm{H:FH}:∀{l:List (D×D)}{es:List MapEntry},ItL H l es->l.length=es.length
 |[],[],_=>rfl
 |_::_,_::_,h=>by simp[Pm h.2]
 |[],_::_,h=>h.elim
 |_::_,[],h=>h.elim
theorem Pk{H:FH}:∀{l:List (D×D)}{es:List MapEntry},ItL H l es->∀{i:Nat}{e:MapEntry},es[i]? = some e->∃x,l[i]? = some x/\x.1.isKey=true/\FDx H x.1 e.key/\FDx H x.2 e.val
 |x::l,e0::es,h,i,e,a=>by
  cases i with
  |zero=>
   obtain rfl:e0=e:=by grind
   exact⟨x,rfl,h.1⟩
  |succ i=>exact Pk h.2 (by grind)
 |[],[],_,i,e,a=>by grind
 |[],_::_,h,_,_,_=>h.elim
 |_::_,[],h,_,_,_=>h.elim
theorem CQ{H:FH}:∀{l:List (D×D)}{es:List MapEntry},ItL H l es->∀i,ItL H (l.eraseIdx i) (es.eraseIdx i)
 |[],[],_,i=>by grind
 |x::l,e::es,h,i=>by
  cases i with
  |zero=>exact h.2
  |succ i=>exact⟨h.1,CQ h.2 i⟩
 |[],_::_,h,_=>h.elim
 |_::_,[],h,_=>h.elim
theorem zN:∀{L:List MapEntry}{i:Nat}{e:MapEntry},(L.map (·.born)).Nodup->L[i]? = some e->L.filter (fun x=>!(x.born==e.born))=L.eraseIdx i
 |[],i,e,_,h=>by rfl
 |x::L,i,e,hn,h=>by
  simp only[List.map_cons,akT]at hn;cases i with
  |zero=>
   grind [List.filter_eq_self]
  |succ i=>
   have h:L[i]? = some e:=by grind
   have b:x.born≠e.born:=fun a=>hn.1 (a ▸ List.mem_map_of_mem (akB h))
   simp only[List.filter_cons,List.eraseIdx_cons_succ];rw[if_pos (by grind),zN hn.2 h]
theorem U6{H:FH}{m:Nat}:∀{l:List (D×D)}{es:List MapEntry},es.length=l.length->(∀(i:Nat)(x:D×D)(y:MapEntry),l[i]? = some x->es[i]? = some y->FD H m x.1 y.key/\FD H m x.2 y.val)->(∀e∈l,e.1.isKey=true)->ItL H l es
 |[],[],_,_,_=>trivial
 |x::l,e::es,hl,h,hk=>by
  have h0:=h 0 x e rfl rfl
  exact⟨⟨hk x (by simp),⟨m,h0.1⟩,m,h0.2⟩,U6 (by grind) (fun i a b c hb=>h (i+1) a b (by grind) (by grind)) (fun a c=>hk a (by simp[c]))⟩
 |[],_::_,h,_,_=>by simp at h
 |_::_,[],h,_,_=>by simp at h
variable{cur:Option (D×D)}{n:Nm}{rest:List (D×D)}
section
variable {P:Program} {g:G} {s:S} {a:Act} {w:World} {H:FH} {γ:Gam} {F:Nm->Fp}
theorem Vf(h:RX g s a w H γ F){z:Option (List (D×D))}{v:Value}(hv:FDx H (.mp z) v)(hk:∀e∈z.getD [],e.1.isKey=true)(hno:n.isOut=false)(hn:af s.m n=none){t kt et:TypeId}(j:P.underlying t=some (.map kt et)) :
  ∃w' γ' F',(Instr.range t v).run P w=.ok (.pointer (some ⟨w.heap.size,0,none⟩)) w'/\RX g ⟨s.t,(n,⟨false,[.it none (z.getD [])]⟩)::s.m⟩ a w' H γ' F'/\γ' n=.gh (.pointer (some ⟨w.heap.size,0,none⟩)):=by
 have d:∀o:Obj,(∃q a c,o=.mapIter q a #[] c/\ItR H none (z.getD []) q a #[] c)->∃γ' F',RX g ⟨s.t,(n,⟨false,[.it none (z.getD [])]⟩)::s.m⟩ a (w.alloc o) H γ' F'/\γ' n=.gh (.pointer (some ⟨w.heap.size,0,none⟩)):=by
  rintro o ⟨q,a',c,rfl,hi⟩
  have hold:∀k,k<w.heap.size->(w.alloc (.mapIter q a' #[] c)).heap[k]? = w.heap[k]? := fun k hk=>cP hk
  have h1:=pe h (w':=w.alloc (.mapIter q a' #[] c)) (by simp) rfl rfl rfl (fun b hb=>.inl (hold b hb))
  have i:tot F s.m w.heap.size=0:=by
   rcases aj5 (tot F s.m w.heap.size)with h'|h'
   ·exact h'
   have:=h.mem.lt w.heap.size kQ1;omega
  refine dN h1 hno hn (v:=.pointer (some ⟨w.heap.size,0,none⟩)) (t:=.it none (z.getD [])) (f:=fun b=>if b=w.heap.size then 1 else 0) ⟨w.heap.size,q,a',#[],c,rfl,bw,hi,fun _=>rfl⟩ (fun b=>?_) (fun b hb=>?_) (fun b hb=>?_)
  ·by_cases e:b=w.heap.size
   ·grind
   rw[if_neg e];have:=h.mem.le1 b;omega
  ·have e:b=w.heap.size:=by
    grind
   subst e;refine⟨by simp,fun o=>?_⟩;cases hc:H w.heap.size o with
   |none=>rfl
   |some y=>have:=(h.mem.agree _ _ _ hc).lt;omega
  right
  have e:b=w.heap.size:=by
   grind
  have:=h.fr.size
  omega
 cases z with
 |none=>
  have hv:v=.map none:=by obtain⟨m,hv⟩:=hv;cases m<;>exact hv
  subst hv;obtain⟨γ',F',h1,h2⟩:=d (.mapIter none 0 #[] 0) ⟨_,_,_,rfl,rfl,rfl⟩;exact⟨_,γ',F',by simp_all[Instr.range,run_underlying],h1,h2⟩
 |some l=>
  obtain⟨m,hv⟩:=hv;cases m with
  |zero=>exact hv.elim
  |succ m=>
   obtain⟨b,es,ck,rfl,k2,k3,k4⟩:=hv;obtain⟨k5,k6⟩:=h.mem.agree b 0 _ k2;obtain⟨γ',F',h1,h2⟩:=d (.mapIter (some b) ck #[] ck) ⟨_,_,_,rfl,es,ck,k2,rfl,rfl,by rw[List.filter_eq_self.2 (fun e _=>by simp)];exact U6 k3 k4 hk,trivial⟩;exact⟨_,γ',F',by simp_all[Instr.range,run_underlying,getObj,Sem.run],h1,h2⟩
theorem adQ(h:Mem w H γ s.m F)(hr:af s.m n=some ⟨false,[.it cur rest]⟩) :
  ∃r q x y c,γ n=.gh (.pointer (some ⟨r,0,none⟩))/\w.heap[r]? = some (.mapIter q x y c)/\ItR H cur rest q x y c/\∀k,F n k=if k=r then 1 else 0:=by
 have a:=h.roots _ (ah hr)
 unfold bv at a;dsimp only at a;rw[if_neg (by simp)]at a;obtain⟨v,t,h1,h2,h3⟩:=a;obtain rfl:t=.it cur rest:=by grind
 obtain⟨r,q,x,y,c,rfl,k2,k3,k4⟩:=h3
 grind
theorem QV(h:RX g s a w H γ F)(hr:af s.m n=some ⟨false,[.it cur rest]⟩)(ty:TypeId) :
  ∃v,γ n=.gh v/\((rest=[]/\(Instr.next v false ty).run P w=.ok (.tuple #[.bool false]) w) \/
   ∃i x ky vl w' F',i<rest.length/\rest[i]? = some x/\(Instr.next v false ty).run P w=.ok (.tuple #[.bool true,ky,vl]) w'/\FDx H x.1 ky/\FDx H x.2 vl /\
    RX g ⟨s.t,cv s.m n ⟨false,[.it (some x) (rest.eraseIdx i)]⟩⟩ a w' H γ F'):=by
 obtain⟨r,q,x,y,c,h1,h2,h3,h4⟩:=adQ h.mem hr;refine⟨_,h1,?_⟩;cases q with
 |none=>
  obtain⟨rfl,rfl⟩:=h3;exact .inl ⟨rfl,by simp[Instr.next,getObj,Sem.run_bind,Sem.run,h2,Result.andThen]⟩
 |some b=>
  obtain⟨es,ck,k1,k2,k3,k4,k5⟩:=h3;obtain⟨k6,k7⟩:=h.mem.agree b 0 _ k1;have A:=(stamped_iff es ck).1 k7
  have L:(leftOf es y).toList=es.toList.filter fun e=>!y.contains e.born:=by simp[leftOf]
  rcases run_next_at (P:=P) w ty r b x c y es ck h2 k6 (fun e u=>by grind) kQ1 with⟨h5,h6⟩|⟨e,u,w1,hw1,h6⟩
  ·grind [Pm]
  refine .inr ?_;rw[L]at u;obtain⟨i,hi⟩:=List.getElem?_of_mem u;obtain⟨z,G,Q,z3,z4⟩:=Pk k4 hi;have E:i<rest.length:=(akH.1 G).1
  have C:w1.heap=w.heap/\w1.os=w.os/\w1.tape=w.tape/\w1.output=w.output:=by rcases hw1 with rfl|rfl<;>exact⟨rfl,rfl,rfl,rfl⟩
  obtain⟨K,R,J,N⟩:=C;have j:=heap_set (o':=.mapIter (some b) x (y.push e.born) ck) h2
  have B:tot F s.m r≠0:=by have:=bC (F:=F) (ah hr) r;grind
  have M:b≠r:=fun e=>by grind
  have D:((es.toList.filter fun e=>!y.contains e.born).map (·.born)).Nodup:=(A.2.1.sublist ((List.filter_sublist (p:=fun e:MapEntry=>!y.contains e.born) (l:=es.toList)).map _))
  have k:e∈es.toList:=(List.mem_filter.1 u).1
  have I:es.toList.filter (fun x=>!(y.push e.born).contains x.born)=(es.toList.filter fun e=>!y.contains e.born).eraseIdx i:=by
   rw[<- zN D hi,List.filter_filter]
   grind
  refine⟨i,z,e.key,e.val,setBlock w1 r (.mapIter (some b) x (y.push e.born) ck),upd F n (F n),E,G,h6,z3,z4,?_⟩;have d:(setBlock w1 r (.mapIter (some b) x (y.push e.born) ck)).heap=w.heap.setIfInBounds r (.mapIter (some b) x (y.push e.born) ck):=by show w1.heap.setIfInBounds _ _=_;rw[K]
  refine Ve h rfl rfl hr h1 (f':=F n) ⟨r,some b,x,y.push e.born,ck,rfl,by grind,⟨es,ck,k1,k2,rfl,by grind [CQ],y,e,rfl,k,Q,z3,z4⟩,h4⟩ (fun c=>by have:=h.mem.le1 c;omega) (fun c hc=>?_) (by grind) R J N (fun c hc=>?_) (fun _ _ _ h=>h) (fun b' o O hy=>(h.mem.agree b' o O hy).frame ?_) (fun b o h1 h2=>absurd h2 h1) ⟨fun b' h'=>h'.of_block ?_,fun c o x y z h1 h2=>by grind⟩
  ·have:tot F s.m c≠0:=by grind
   exact⟨h.mem.lt c this,h.mem.nofz c this,h.fr.tt c this⟩
  ·grind
  ·rw[d];exact j.2 b' fun e=>by subst e;rw[h.mem.nofz _ B o]at hy;cases hy
  rw[d];refine j.2 b' fun e=>?_
  subst e;obtain⟨cs,ty,e⟩:=h'
  grind
theorem LI(h:RX g s a w H γ F){x:D×D}(hr:af s.m n=some ⟨false,[.it (some x) rest]⟩) :
  ∃v ky vl,γ n=.gh v/\(Instr.entry v).run P w=.ok (.tuple #[ky,vl]) w/\x.1.isKey=true/\FDx H x.1 ky/\FDx H x.2 vl:=by
 obtain⟨r,q,a',y,c,h1,h2,h3,h4⟩:=adQ h.mem hr;cases q with
 |none=>obtain⟨h3,_⟩:=h3;cases h3
 |some b=>
  obtain⟨es,ck,k1,k2,k3,k4,i,e,rfl,k5,k8,j,f⟩:=h3;obtain⟨k6,k7⟩:=h.mem.agree b 0 _ k1;have d:=(stamped_iff es ck).1 k7
  subst k3;exact⟨_,e.key,e.val,h1,run_entry_at w r b a' i es c e h2 k6 k5 d.2.1,k8,j,f⟩
theorem Ul{m:Mm}{v:Value}(hn:af m n=some ⟨false,[.it cur rest]⟩)(a:γ n=.gh v):AR w H γ m (.one (.c (.rf ⟨n,0,[]⟩))) v:=by
 refine⟨fun _=>rfl,?_,?_⟩
 ·rw[bV];exact⟨_,hn,trivial⟩
 unfold plV;dsimp only;rw[a];rfl
end
end Go.Am
end

section
namespace Go.Am
variable{caps:List Operand}{d:Tmp}{et kt t tt:TypeId}{ku vu:U}{n:Nm}{row:List C}{x:At}{y:Value}
section
variable {P:Program} {g:G} {a:Act} {w:World} {H:FH} {γ:Gam} {F:Nm->Fp} {s:St} {k k':St->Prop}
theorem N8{x:Operand}(hk:∀s',Ext s s'->k s'->k' s')(h:wy P s t x d k):wy P s t x d k':=by
 unfold wy at h⊢;dsimp only at h⊢
 (repeat' split at h)<;>first|exact h.elim|exact hk _ ((((iD _ _).trans (bQ _ _)).trans (da _ _ _)).trans (aA _ _ _)) h
theorem Tl{d:Option Tmp}(hk:∀s',Ext s s'->k s'->k' s')(h:Dv s x d k):Dv s x d k':=by
 unfold Dv at h⊢;split at h
 ·exact⟨fun e=>hk _ (aA _ _ _) (h.1 e),fun i hi=>hk _ ((tF _ _ _).trans (aA _ _ _)) (h.2 i hi)⟩
 omega
theorem Mw{d:Option Tmp}(hk:∀s',Ext s s'->k s'->k' s')(h:qN s x d k):qN s x d k':=by
 grind [qN,aA]
theorem Ki(hk:∀s',Ext s s'->k s'->k' s')(h:qZ s x d k):qZ s x d k':=by
 unfold qZ at h⊢
 grind [aA]
theorem Q5:∀{t:Tt},t.hit (bq n)=false->t.frB n row=t:=by
 intro t h;cases t with
 |pl p=>
  have h:decide (p.root=n)=false:=h
  grind [Tt.frB,Tt.kill,bq]
 |rf p=>
  have h:decide (p.root=n)=false:=h
  grind [Tt.frB,Tt.kill,bq]
 |_=>rfl
theorem QL(s:St)(n:Nm):Ext s (I6 s n):=by
 unfold I6;split
 ·split
  ·exact⟨aj2 _,tD (·.hit (bq n)) (·.map (Tt.frB n _)) (fun _ h=>vp Q5 h) (ajB _),(mN n).trans (dM (ajB _))⟩
  exact Ext.refl s
 exact Ext.refl s
theorem qy:∀(vs:List At)(s:St),Ext s (rW s vs)
 |[],s=>Ext.refl s
 |v::vs,s0=>by
  unfold rW;split
  ·grind
  ·rename_i h;cases h;exact(QL _ _).trans (qy _ _)
  rename_i h;cases h;exact qy _ _
theorem B3{f:Nat}{d:Option Tmp}(hk:∀s',Ext s s'->k s'->k' s')(h:km s f caps d k):km s f caps d k':=by
 unfold km at h⊢;dsimp only at h⊢;split at h
 ·exact hk _ ((qy _ _).trans (aA _ _ _)) h
 omega
theorem aaD(h1:leaf ku=true)(h2:leaf vu=true)(z:Option (List (El ku×El vu))):(C.mp ku vu z).toD=.mp (z.map fun l=>l.map (rJ ku vu)):=by
 show D.mp _=D.mp _
 congr 1
 cases z with
 |none=>rfl
 |some l=>
  show some _=some _
  congr 1
  refine ajN fun x _=>?_
  show((ap ku x.1).headD .any,(ap vu x.2).headD .any)=_
  rw[pE h1,pE h2];rfl
theorem TL{x:Operand}(u:RX g s.toS a w H γ F)(hd:okD g.nt (some d)=true)(hx:aF x=true)(h:wy P s t x d k) :
  ∃t' y w' H' γ' F',(Instr.range t (a.eval x)).run P w=.ok y w'/\k t'/\RX g t'.toS (a.put (some d) y) w' H' γ' F':=by
 unfold wy at h;dsimp only at h;obtain⟨H1,F1,h1⟩:=gI u (evA s x);generalize fP s (evA s x)=s1 at h h1;split at h
 ·rename_i kt et o;split at h
  ·rename_i ku vu z hv;split at h
   ·rename_i hc;simp only[ai9]at hc;obtain⟨_,td,_,q,b,_⟩:=aS o (by simp);obtain rfl:=r9 b;have h2:=cU h1 (.gh d)
    rw[<- bx (fT h1)]at h2;have h3:=aH h2 hx
    rw[aj hx,hv]at h3;have h4:FDx H1 (.mp (z.map fun l=>l.map (rJ ku vu))) (a.eval x):=by rw[<- aaD (AC hc.1) hc.2];exact h3.2
    have hn:=bZ h1 (.gh d)
    rw[<- bx (fT h1)]at hn;obtain⟨w',γ',F',r,f,p⟩:=Vf (P:=P) h2 h4 (fun e i=>by
     cases z with
     |none=>cases i
     |some l=>
      obtain⟨y,_,rfl⟩:=ajX.1 (show e∈l.map (rJ ku vu)from i);exact oy (fV hc.1 y.1)) (n:=.gh d) rfl hn q
    refine⟨_,_,w',H1,γ',F',r,h,?_⟩;have j:(z.map fun l=>l.map (rJ ku vu)).getD []=(z.getD []).map (rJ ku vu):=by cases z<;>rfl
    rw[j]at f;have e:((s1.fresh (.gh d)).root (.gh d) ⟨false,[.it ku vu none (z.getD [])],none⟩).toS=⟨(s1.fresh (.gh d)).toS.t,(.gh d,⟨false,[.it none ((z.getD []).map (rJ ku vu))]⟩)::(s1.fresh (.gh d)).toS.m⟩:=rfl
    rw[<- e]at f;refine bH (aO _ (some d) (.one (.c (.rf ⟨.gh d,0,[]⟩)))) (f.put hd ?_);exact Ul (cur:=none) (rest:=(z.getD []).map (rJ ku vu)) (by grind [af]) p
   grind
  grind
 grind
theorem P5{cur:Option (El ku×El vu)}{rest:List (El ku×El vu)}(h:aa3 s.m x=some (n,⟨ku,vu,cur,rest⟩)) :
  x=.one (.c (.rf ⟨n,0,[]⟩))/\af s.toS.m n=some ⟨false,[.it (cur.map (rJ ku vu)) (rest.map (rJ ku vu))]⟩:=by
 unfold aa3 at h;split at h
 ·split at h
  ·rename_i hr;cases h;exact⟨rfl,bi hr⟩
  grind
 grind
theorem adR{v:Value}{m:Mm}(a:γ n=.gh v)(h:AR w H γ m (.one (.c (.rf ⟨n,0,[]⟩))) y):y=v:=by
 obtain⟨_,_,hv⟩:=h;unfold plV at hv;dsimp only at hv;rw[a]at hv;exact(Option.some.inj hv).symm
theorem XD{d:Option Tmp}(f:RX g s.toS a w H γ F)(hd:okD g.nt d=true)(hy:AR w H γ s.toS.m x.toV y)(ty:TypeId)(h:Dv s x d k) :
  ∃t' z w' F',(Instr.next y false ty).run P w=.ok z w'/\k t'/\RX g t'.toS (a.put d z) w' H γ F':=by
 unfold Dv at h;split at h
 ·rename_i n ku vu cur rest hi;obtain⟨rfl,hr⟩:=P5 hi;obtain⟨v,o,b⟩:=QV (P:=P) f hr ty;obtain rfl:=adR o hy;rcases b with⟨h1,h2⟩|⟨i,e,ky,vl,w',F',h1,h2,h3,h4,h5,h6⟩
  ·refine⟨_,_,w,F,h2,h.1 (List.map_eq_nil_iff.1 h1),bH (aO _ _ _) (f.put hd ?_)⟩;exact⟨_,rfl,⟨fun _=>rfl,0,rfl⟩,trivial⟩
  have c:i<rest.length:=by grind
  refine⟨_,_,w',F',h3,h.2 i c,?_⟩;have j:e=rJ ku vu (rest.getD i (dflt ku,dflt vu)):=by
   grind
  have l:(⟨s.nx+1,s.t,dj s.m n s.nx ⟨false,[.it ku vu (some (rest.getD i (dflt ku,dflt vu))) (rest.eraseIdx i)],none⟩⟩:St).toS=⟨s.toS.t,cv s.toS.m n ⟨false,[.it (some e) ((rest.map (rJ ku vu)).eraseIdx i)]⟩⟩:=by
   rw[j,<- Go.ChangeMaps.map_eraseIdx];show(⟨_,toM (dj s.m n s.nx _)⟩:S)=_
   rw[fA];rfl
  rw[<- l]at h6;refine bH (aO _ _ _) (h6.put hd ?_);rw[j]at h4 h5;exact⟨_,rfl,⟨fun _=>rfl,0,rfl⟩,⟨fun _=>rfl,h4⟩,⟨fun _=>rfl,h5⟩,trivial⟩
 grind
theorem Sj{d:Option Tmp}(b:RX g s.toS a w H γ F)(hd:okD g.nt d=true)(hy:AR w H γ s.toS.m x.toV y)(h:qN s x d k) :
  ∃t' z,(Instr.entry y).run P w=.ok z w/\k t'/\RX g t'.toS (a.put d z) w H γ F:=by
 unfold qN at h;split at h
 ·rename_i n ku vu e rest hi;obtain⟨rfl,hr⟩:=P5 hi;obtain⟨v,ky,vl,c,h1,_,h2,h3⟩:=LI (P:=P) b hr;obtain rfl:=adR c hy;exact⟨_,_,h1,h,bH (aO _ _ _) (b.put hd ⟨_,rfl,⟨fun _=>rfl,h2⟩,⟨fun _=>rfl,h3⟩,trivial⟩)⟩
 grind
theorem Bf{b:Nat}{es:Array MapEntry}{ck:Nat}(a:P.underlying t=some (.map kt et))(hb:w.heap[b]? = some (.map es ck)) :
  (Builtin.len_ #[t] tt #[.map (some b)]).run P w=.ok (.int .i64 (es.size:Int)) w:=by
 simp_all[Builtin.len_,run_underlying,getObj,Sem.run,goInt]
theorem KS(a:P.underlying t=some (.map kt et)) :
  (Builtin.len_ #[t] tt #[.map none]).run P w=.ok (.int .i64 0) w:=by
 simp_all[Builtin.len_,run_underlying,goInt]
theorem Pq{w:World}{H:FH}:∀{l:List (D×Sh×D)}{es:List MapEntry}{f:Fp},MpO w H l es f->l.length=es.length
 |[],[],_,_=>rfl
 |_::_,_::_,_,h=>by obtain⟨_,f1,a,k,_,_,h⟩:=h;simp[Pq h]
 |[],_::_,_,h=>h.elim
 |_::_,[],_,h=>h.elim
theorem NC(i:RX g s.toS a w H γ F)(hd:okD g.nt (some d)=true)(hy:AR w H γ s.toS.m x.toV y)(v:(ty P t).k=.mp kt et)(h:qZ s x d k) :
  ∃t' z,(Builtin.len_ #[t] tt #[y]).run P w=.ok z w/\k t'/\RX g t'.toS (a.put (some d) z) w H γ F:=by
 obtain⟨_,td,_,o,j,_⟩:=aS v (by simp);obtain rfl:=r9 j;have big:∀n:Nat,n<=4611686018427387904->(Lit.int .i64 (n:Int)).wf=true:=fun n h=>BA (by grind [BIG])
 unfold qZ at h;split at h
 ·rename_i ku vu z;have c:FDx H (.mp (z.map fun l=>l.map fun x=>((ap ku x.1).headD .any,(ap vu x.2).headD .any))) y:=hy.2
  cases z with
  |none=>
   have q:y=.map none:=by obtain⟨m,c⟩:=c;cases m<;>exact c
   subst q;exact⟨_,_,KS o,h.2,bH (aO _ _ _) (i.put hd ⟨fun _=>rfl,0,rfl,big 0 kQ1⟩)⟩
  |some l=>
   obtain⟨m,c⟩:=c;cases m with
   |zero=>exact c.elim
   |succ m=>
    obtain⟨b,es,ck,rfl,k2,k3,k4⟩:=c;obtain⟨k5,k6⟩:=i.mem.agree b 0 _ k2;have e:es.size=l.length:=by grind
    exact⟨_,_,Bf o k5,h.2,bH (aO _ _ _) (i.put hd ⟨fun _=>rfl,0,by grind,big _ h.1⟩)⟩
 ·rename_i p;split at h
  ·rename_i ku vu l hm;obtain⟨n,rfl,hr⟩:=qX hm;obtain⟨b,es,ck,f,rfl,_,r,A,u,_⟩:=s5 i hr hy;have e:es.size=l.length:=by have:=Pq u;grind
   exact⟨_,_,Bf o r,h.2,bH (aO _ _ _) (i.put hd ⟨fun _=>rfl,0,by rw[e],big _ h.1⟩)⟩
  grind
 grind
theorem YC:∀{cells:List Tt}{row:List C},tdC cells=some row->(cells.map Tt.toT).all T.isD=true/\(cells.map Tt.toT).map T.toD=row.map C.toD
 |[],row,h=>by cases h;grind
 |t::ts,row,h=>by
  cases t with
  |d c=>
   have h':∃r,tdC ts=some r/\row=c::r:=by
    cases c with
    |any=>cases h
    |_=>obtain⟨r,h1,h2⟩:=ajL.1 h;grind
   obtain⟨r,h1,rfl⟩:=h';obtain⟨k1,k2⟩:=YC h1;exact⟨by simp only[List.map_cons,ajJ,k1];rfl,by simp only[List.map_cons,k2];rfl⟩
  |_=>simp[tdC]at h
theorem LS(n:Nm)(row:List C)(t:Tt):(t.frB n row).toT=t.toT.frB n (row.map C.toD):=by
 cases t with
 |pl p=>
  obtain⟨r,o,path⟩:=p;cases path with
  |nil=>
   show(if r=n then Tt.el row o else Tt.pl ⟨r,o,[]⟩).toT=if r=n then T.el (row.map C.toD) o else T.pl ⟨r,o,[]⟩
   by_cases e:r=n
   ·rw[if_pos e,if_pos e];rfl
   rw[if_neg e,if_neg e];rfl
  |cons st u=>exact dV (bq n) (.pl ⟨r,o,st::u⟩)
 |rf p=>exact dV (bq n) (.rf p)
 |_=>rfl
theorem Q0(h:RX g s.toS a w H γ F)(n:Nm):∃H',RX g (I6 s n).toS a w H' γ F:=by
 unfold I6;split
 ·rename_i cells hr;split
  ·rename_i row b;obtain⟨h1,h2⟩:=YC b;obtain⟨H',h'⟩:=Zd h n;refine⟨H',?_⟩;have c:af s.toS.m n=some ⟨true,cells.map Tt.toT⟩:=bi hr
   have e:s.toS.frzB n=(⟨s.nx+1,s.t.map fun x=>(x.1,stp (x.2.2.hit (bq n)) s.nx x.2.1,x.2.2.map (Tt.frB n row)),b9 (bq n) s.nx (eM s.m n)⟩:St).toS:=by
    unfold S.frzB;rw[c];dsimp only;rw[if_pos h1,h2];refine bE.S_ext ?_ ?_
    ·simp only[St.toS,sO,akA]
     grind [ajN,se,LS]
    have h3:=eB (bq n) s.nx (eM s.m n)
    rw[mY n s.m (fT h)]at h3;exact h3.symm
   grind
  grind
 grind
theorem qC:∀(vs:List At)(s:St)(H:FH),RX g s.toS a w H γ F->∃H',RX g (rW s vs).toS a w H' γ F
 |[],s,H,h=>⟨H,h⟩
 |v::vs,s0,H,h=>by
  unfold rW;split
  ·grind
  ·rename_i e;cases e;obtain⟨H1,h1⟩:=Q0 h _;exact qC _ _ H1 h1
  rename_i e;cases e;exact qC _ _ H h
theorem zG{c:Lt.Cap}:∀{l:List Sn},IH row l=some c->row=flat (.st (Eu c).1) (Eu c).2/\c.enc=row.map C.toD
 |[],h=>by cases h
 |n::r,h=>by
  unfold IH at h;split at h
  ·rename_i x hx;split at h
   ·rename_i a hc;cases h;obtain⟨h1,h2⟩:=Z5 hc;have h3:=wG hx
    refine⟨by grind,?_⟩;rw[h2,h3,bR];rfl
   exact zG h
  exact zG h
theorem C1(p:RX g s.toS a w H γ F):∀{ops:List Operand}{cs:List Lt.Cap},ops.all aF=true->Ew s ops=some cs->cs.length=ops.length/\∃m,∀(i:Nat)(row:List D)(y:Value),(cs.map Lt.Cap.enc)[i]? = some row->(ops.map a.eval)[i]? = some y ->
   ∃b o,y=.pointer (some ⟨b,o,none⟩)/\∀j,j<row.length->∃z:Value,H b (o+j)=some z/\FD H m (row.getD j default) z
 |[],cs,_,h=>by cases h;simp_all
 |x::ops,cs,f,h=>by
  simp only[ajJ,ai9]at f;unfold Ew at h;split at h
  ·rename_i row hv;split at h
   ·rename_i c q hc k;cases h;obtain⟨h1,n,h2⟩:=C1 p f.2 k;have h3:=aH p f.1
    rw[aj f.1,hv]at h3;obtain⟨_,b,o,l,h4,h5⟩:=h3;obtain⟨_,h6⟩:=zG hc;refine⟨by simp[h1],n+l,fun i e y hi hy=>?_⟩;have mono:=fun{m:Nat}(hm:m<=n+l){d:D}{v:Value}(h:FD H m d v)=>gj (fun _ _ _ h=>h) m (n+l) d v hm h
    cases i with
    |zero=>
     have hi:c.enc=e:=by grind
     have hy:a.eval x=y:=by grind
     subst hi hy;rw[h6];refine⟨b,o,h4,fun j hj=>?_⟩;obtain⟨z,r,hf⟩:=h5 j hj
     grind
    |succ i=>
     grind
   grind
  grind
theorem E3{f:Nat}{d:Option Tmp}(c:RX g s.toS a w H γ F)(hd:okD g.nt d=true)(hc:caps.all aF=true)(h:km s f caps d k) :
  ∃t' H',k t'/\RX g t'.toS (a.put d (.func (.func f) #[] (caps.map a.eval).toArray)) w H' γ F:=by
 unfold km at h;dsimp only at h;obtain⟨H1,h1⟩:=qC (caps.map (evA s)) s H c;generalize rW s (caps.map (evA s))=s1 at h h1;split at h
 ·rename_i cs b;obtain⟨k1,m,k2⟩:=C1 h1 hc b;refine⟨_,H1,h,bH (aO _ _ _) (h1.put hd ⟨fun _=>rfl,m+1,caps.map a.eval,rfl,?_,k2⟩)⟩;simp[k1]
 grind
end
abbrev chn(v:Value):List PanicEntry:=[{ v,recovered:=false }]
def mX(g:G)(a:Act)(pk:PKt)(k:St->At->Prop)(e:Ending)(w':World):Prop:=
 (∃r s' av H' γ' F',e=.returned r/\k s' av/\AR w' H' γ' (toM s'.m) av.toV r/\RX g s'.toS a w' H' γ' F') \/
 ∃v s',e=.panicked (chn v)/\pk v s'/\R g s'.toS a w'
structure Cont (P:Program) (f:Nat) (C:CKt):Prop where
 run:∀args w,(callFunc f args).run P w=.ok (.enter f args) w
 ext:∀(pk:PKt)(s:St)(ops:List Operand)(k k':St->At->Prop),(∀s' v,Ext s s'->k s' v->k' s' v)->C pk s ops k->C pk s ops k'
 call:∀(g:G)(pk:PKt)(s:St)(a:Act)(w:World)(H:FH)(γ:Gam)(F:Nm->Fp)(ops:List Operand)(k:St->At->Prop),RX g s.toS a w H γ F->ops.all aF=true->C pk s ops k ->
  Calls P f (ops.map a.eval).toArray w (mX g a pk k)
structure ContC (P:Program) (key:Nat) (C:CKt):Prop where
 big:1000000<=key
 run:∀args w,(callFunc (key - 1000000) args).run P w=.ok (.enter (key - 1000000) args) w
 ext:∀(pk:PKt)(s:St)(ops:List Operand)(k k':St->At->Prop),(∀s' v,Ext s s'->k s' v->k' s' v)->C pk s ops k->C pk s ops k'
 call:∀(g:G)(pk:PKt)(s:St)(a:Act)(w:World)(H:FH)(γ:Gam)(F:Nm->Fp)(t:Tmp)(ops:List Operand)(k:St->At->Prop)(ps:Array Value),RX g s.toS a w H γ F->ops.all aF=true->t<TB->a.tmps.getD t undef=.func (.func (key - 1000000)) #[] ps->C pk s (.tmp t::ops) k ->
  Calls P (key - 1000000) ((ops.map a.eval).toArray++ps) w (mX g a pk k)
def En.ok(e:En):Prop:=∀x∈e.cs,(Nat.blt x.1 1000000=true->Cont e.P x.1 x.2)/\(1000000<=x.1->ContC e.P x.1 x.2)
theorem En.ok_get'{e:En}(h:e.ok){f:Nat}{C:CKt}(hg:e.cs.get f=some C):(Nat.blt f 1000000=true->Cont e.P f C)/\(1000000<=f->ContC e.P f C):=by
 have:∀cs:CTt,(∀x∈cs,(Nat.blt x.1 1000000=true->Cont e.P x.1 x.2)/\(1000000<=x.1->ContC e.P x.1 x.2))->cs.get f=some C->(Nat.blt f 1000000=true->Cont e.P f C)/\(1000000<=f->ContC e.P f C):=by
  intro cs;induction cs with
  |nil=>intro _ h;cases h
  |cons x cs ih=>
   obtain⟨f',C'⟩:=x;intro h hg2;simp only[CTt.get]at hg2;split at hg2
   all_goals simp_all
 exact this e.cs h hg
theorem En.ok_get{e:En}(h:e.ok){f:Nat}{C:CKt}(hg:e.cs.get f=some C)(hf:Nat.blt f 1000000=true):Cont e.P f C:=(En.ok_get' h hg).1 hf
variable{v:At}
theorem Sc{key:Nat}(h:C5 v=some key):1000000<=key:=by
 unfold C5 at h
 grind
variable{K':C->Prop}{i:Nat}{m:List (Nm×Nat×Rt)}{o:Oper}{op:BinOp}
section
variable {k k':At->Prop}
theorem NV{c y:At}(hk:∀v,k v->k' v)(h:xm c x y k):xm c x y k':=by
 unfold xm at h⊢
 grind
theorem Tq{κ:IntKind}{a b:Int}{K:C->Prop}(hk:∀v,K v->K' v)(h:NJ op κ a b K):NJ op κ a b K':=by
 unfold NJ at h⊢;cases op<;>first|exact hk _ h|grind
theorem Rk{x y:C}{K:C->Prop}(hk:∀v,K v->K' v)(h:BF op x y K):BF op x y K':=by
 unfold BF at h⊢;split at h
 ·split at h<;>first|exact h.elim|exact hk _ h|grind
 grind [Tq]
theorem Rl{P:Program}{y:At}(hk:∀v,k v->k' v)(h:Ij P op t x y k):Ij P op t x y k':=by
 unfold Ij at h⊢
 (repeat' split at h)<;>first|exact h.elim|exact hk _ h|exact⟨h.1,hk _ h.2⟩|grind [Rk]|(simp_all;done)
theorem YH{op:UnOp}(hk:∀v,k v->k' v)(h:unT op x k):unT op x k':=by
 unfold unT at h⊢
 grind
theorem BK(hk:∀v,k v->k' v)(h:jk x i k):jk x i k':=by
 unfold jk at h⊢
 grind
theorem K7{i:At}(hk:∀v,k v->k' v)(h:qq x i k):qq x i k':=by
 unfold qq at h⊢
 grind
theorem jh{y:Option At}{d:Nat}{k1 k2:Nat->Prop}(hk:∀n,k1 n->k2 n)(hb:fQ y d k1):fQ y d k2:=by
 unfold fQ at hb⊢
 grind
theorem K2{P:Program}{lo hi:Option At}(hk:∀v,k v->k' v)(h:ql P t x lo hi k):ql P t x lo hi k':=by
 unfold ql at h⊢;split at h
 ·split at h
  ·exact jh (fun a c=>jh (fun b hb=>⟨hb.1,hk _ hb.2⟩) c) h
  omega
 ·split at h
  ·skip
   split at h
   ·exact jh (fun a c=>jh (fun b hb=>⟨hb.1,hk _ hb.2⟩) c) h
   omega
  omega
 all_goals grind (splits:=20) [jh]
theorem xM{P:Program}(hk:∀v,k v->k' v)(h:fg P m t x i k):fg P m t x i k':=by
 unfold fg at h⊢;split at h
 ·skip
  split at h
  all_goals grind
 omega
theorem oU{P:Program}{i:At}(hk:∀v,k v->k' v)(h:eA P m t x i k):eA P m t x i k':=by
 unfold eA at h⊢;split at h
 ·split at h
  ·skip
   split at h
   all_goals grind
  all_goals grind
 omega
theorem Nv{P:Program}(hk:∀v,k v->k' v)(h:kY P m t x k):kY P m t x k':=by
 unfold kY at h⊢;split at h
 ·skip
  split at h
  all_goals grind
 omega
theorem IU{P:Program}(hk:∀v,k v->k' v)(h:pG P t x i k):pG P t x i k':=by
 unfold pG at h⊢;split at h
 all_goals grind
theorem Az(hk:∀v,k v->k' v)(h:gP x k):gP x k':=by
 unfold gP at h⊢
 grind
theorem Ip{P:Program}{ps:List (Nat×At)}(hk:∀v,k v->k' v)(h:px P t ps k):px P t ps k':=by
 grind [px]
theorem Mt{P:Program}{b a:TypeId}(hk:∀v,k v->k' v)(h:xa P b a x k):xa P b a x k':=by
 unfold xa at h⊢;split at h
 all_goals grind
theorem FA{e:En}{s:St}(hk:∀v,k v->k' v)(h:qT e o s k):qT e o s k':=by
 unfold qT at h⊢;cases b:o.op with
 |move x=>grind
 |assign x=>grind
 |pick c x y=>grind [NV]
 |binOp op t x y z=>grind [Rl]
 |unOp op t x=>grind [YH]
 |load t x=>grind [Nv]
 |field t x i=>grind [IU]
 |fieldAddr t x i=>grind [xM]
 |indexAddr t x i=>grind [oU]
 |index t x i=>
  grind [K7]
 |extract x i=>grind [BK]
 |convert f d x=>grind [Mt]
 |slice t x lo hi a=>
  rw[b]at h;cases a<;>grind [K2]
 |nilCheck x=>grind [Az]
 |build t ps=>grind [Ip]
 |call c=>
  grind [Dp]
 |_=>grind
end
variable{E:Ut}{s':St}{sub:List Sh}{ts:List Tt}{u:U}
section
variable {k k':St->Prop} {s:St}
theorem LX{P:Program}(hk:∀s',Ext s s'->k s'->k' s')(h:pq P s t d k):pq P s t d k':=by
 unfold pq at h⊢;split at h
 ·skip
  split at h
  ·exact hk _ (((bQ _ _).trans (da _ _ _)).trans (aA _ _ _)) h
  omega
 omega
theorem VL{x:Operand}(hk:∀s',Ext s s'->k s'->k' s')(h:Io s x d k):Io s x d k':=by
 unfold Io at h⊢;split at h
 ·skip
  split at h
  ·exact hk _ (((bQ _ _).trans (da _ _ _)).trans (aA _ _ _)) h
  omega
 omega
theorem xK{P:Program}{n:Nat}{ps:Array (Nat×Operand)}(hk:∀s',Ext s s'->k s'->k' s')(h:dW P E s t n ps d k):dW P E s t n ps d k':=by
 unfold dW at h⊢;split at h
 ·skip
  split at h
  ·skip
   split at h
   ·skip
    dsimp only at h⊢;split at h
    ·skip
     split at h
     ·skip
      exact hk _ ((((d9 _ _).trans (bQ _ _)).trans (da _ _ _)).trans (aA _ _ _)) h
     omega
    omega
   omega
  omega
 omega
theorem A0{p:Pl}{t:Tt}(hk:∀s',Ext s s'->k s'->k' s')(h:B9 s p t k):B9 s p t k':=by
 unfold B9 at h⊢;split at h
 ·omega
 skip
 split at h
 ·skip
  split at h
  ·exact hk _ ⟨aj2 _,fun _ _ _ h _=>h,dq _ _ (ajB _) _⟩ h
  omega
 ·skip
  split at h
  ·exact rh (hk _ ⟨aj2 _,fun _ _ _ h _=>h,dq _ _ (ajB _) _⟩) h
  omega
 ·skip
  split at h
  ·skip
   split at h
   ·exact rh (xc (hk _ ⟨aj2 _,fun _ _ _ h _=>h,dq _ _ (ajB _) _⟩)) h
   omega
  omega
 omega
theorem ml:∀{ts:List Tt}{s:St}{p:Pl},(∀s',Ext s s'->k s'->k' s')->iw s p ts k->iw s p ts k'
 |[],s,p,hk,h=>hk _ (Ext.refl s) h
 |t::ts,s,p,hk,h=>by
  cases t with
  |rf q=>
   simp only[iw]at h⊢;split at h
   ·skip
    split at h
    ·skip
     exact A0 (fun s' f a=>ml (fun b e=>hk b (((tE _ _).trans f).trans e)) a) h
    omega
   omega
  |any=>exact h.elim
  |d c=>cases c with
   |any=>exact h.elim
   |_=>exact A0 (fun s' f a=>ml (fun b e=>hk b (f.trans e)) a) h
  |_=>exact A0 (fun s' f a=>ml (fun b e=>hk b (f.trans e)) a) h
theorem KF{p:Pl}(hk:∀s',Ext s s'->k s'->k' s')(h:mg s p ts k):mg s p ts k':=by
 unfold mg at h⊢;split at h
 ·omega
 skip
 split at h
 ·skip
  split at h
  ·exact rh (hk _ ⟨aj2 _,fun _ _ _ h _=>h,dq _ _ (ajB _) _⟩) h
  omega
 omega
theorem Ou{P:Program}(hk:∀s',Ext s s'->k s'->k' s')(h:qm P s t x v k):qm P s t x v k':=by
 unfold qm at h⊢
 grind (splits:=20) [KF,ml]
theorem iI{l:List (El u)}(h:kH s u v=some (s',sub,l)):Ext s s':=by
 unfold kH at h;split at h
 ·grind [Ext.refl]
 ·split at h
  ·split at h
   ·rename_i a;simp only[ai8,Prod.mk.injEq]at h;obtain⟨rfl,_⟩:=h;unfold YB at a;split at a
    ·grind
    split at a
    ·simp only[ai8]at a;rw[<- a];exact⟨aj2 _,gH (ajB _),(dq _ _ (ajB _) s.m).trans (dM (ajB _))⟩
    ·simp only[ai8]at a;rw[<- a];exact⟨aj2 _,gH (ajB _),(dq _ _ (ajB _) s.m).trans (dM (ajB _))⟩
    grind
   grind
  grind
 grind
theorem Ie{P:Program}{u:TypeId}{x y:Operand}(hk:∀s',Ext s s'->k s'->k' s')(h:lL P E s t u x y d k):lL P E s t u x y d k':=by
 unfold lL at h⊢;dsimp only at h⊢;split at h
 ·skip
  split at h
  ·skip
   split at h
   ·skip
    split at h
    ·rename_i h3 h4;split at h
     ·skip
      exact⟨h.1,hk _ (((((iD _ _).trans (iI h4)).trans (bQ _ _)).trans (da _ _ _)).trans (aA _ _ _)) h.2⟩
     omega
    omega
   omega
  omega
 omega
theorem vL{P:Program}{n:Nat}{ps:Array (Nat×Operand)}(hk:∀s',Ext s s'->k s'->k' s')(h:dw P E sub s t n ps d k):dw P E sub s t n ps d k':=by
 unfold dw at h⊢;split at h
 ·skip
  split at h
  ·skip
   split at h
   ·skip
    dsimp only at h⊢;split at h
    ·skip
     split at h
     ·skip
      exact hk _ ((((d9 _ _).trans (bQ _ _)).trans (da _ _ _)).trans (aA _ _ _)) h
     omega
    omega
   omega
  omega
 omega
theorem vN{P:Program}{n:Nat}{ps:Array (Nat×Operand)}(hk:∀s',Ext s s'->k s'->k' s')(h:dx P E sub s t n ps d k):dx P E sub s t n ps d k':=by
 unfold dx at h⊢
 (repeat' split at h)<;>first|exact h.elim|skip
 exact hk _ ((((iI (by assumption)).trans (bQ _ _)).trans (da _ _ _)).trans (aA _ _ _)) h
theorem Ek{P:Program}{u:TypeId}{x y:Operand}(hk:∀s',Ext s s'->k s'->k' s')(h:jd P E s t u x y d k):jd P E s t u x y d k':=by
 unfold jd at h⊢;split at h
 ·skip
  split at h
  ·skip
   split at h
   ·skip
    split at h
    ·rename_i h3;split at h
     ·rename_i h4;split at h
      ·skip
       exact⟨h.1,hk _ (((((iI h3).trans (iI h4)).trans (bQ _ _)).trans (da _ _ _)).trans (aA _ _ _)) h.2⟩
      omega
     omega
    omega
   omega
  omega
 omega
theorem kA(a:Nat):∀(sh:List Sh)(j:Nat)(s:St),Ext s (Ay a sh j s)
 |[],_,s=>Ext.refl s
 |.fr::r,j,s=>kA a r (j+1) s
 |.ow _::r,j,s=>by
  simp only[Ay];split
  ·split
   ·split
    ·split
     ·rename_i h _;split
      ·exact((((iI (by assumption)).trans (bQ _ _)).trans (da _ _ _)).trans (aA _ _ _)).trans (kA a r (j+1) _)
      exact(((iI (by assumption)).trans (bQ _ _)).trans (da _ _ _)).trans (kA a r (j+1) _)
     exact kA a r (j+1) s
    exact kA a r (j+1) s
   exact kA a r (j+1) s
  exact Ext.refl s
theorem UE(sh:List (TypeId×List Sh))(s:St)(t:TypeId)(v:Operand):Ext s (Km sh s t v):=by
 unfold Km
 grind [kA,Ext.refl]
theorem FI{e:En}{x hi:Operand}(hk:∀s',Ext s s'->k s'->k' s')(h:nC e s t x hi d k):nC e s t x hi d k':=by
 unfold nC at h⊢;split at h
 ·split at h
  ·split at h
   ·split at h
    ·rename_i hb;exact⟨h.1,hk _ ((((iI hb).trans (bQ _ _)).trans (da _ _ _)).trans (aA _ _ _)) h.2⟩
    omega
   omega
  omega
 omega
theorem TY{e:En}(hk:∀s',Ext s s'->k s'->k' s')(h:K4 e o s k):K4 e o s k':=by
 unfold K4 at h⊢;split at h
 ·exact FI hk h
 ·exact Kh hk h
 ·grind [Ki]
 ·dsimp only at h⊢;split at h
  ·split at h
   ·exact oU (fun v hv=>hk _ ((qy _ _).trans (aA _ _ _)) hv) h
   omega
  omega
 omega
theorem DY:∀{row:List C}{l:List a8},Bq row=some l->row=l.map C.s
 |[],_,h=>by cases h;rfl
 |c::r,l,h=>by
  cases c with
  |s x=>
   simp only[Bq]at h;split at h
   ·rename_i l' hr;cases h;rw[DY hr];rfl
   grind
  |_=>simp[Bq]at h
theorem afS{e:En}(j:e.ok)(hk:∀s',Ext s s'->k s'->k' s')(h:lT e o s k):lT e o s k':=by
 unfold lT at h⊢;cases g:o.op with
 |store t x v=>rw[g]at h;exact Ou (fun s' j a=>hk _ ((((UE _ _ _ _).trans (QM _ _ _)).trans j).trans (aA _ _ _)) a) h
 |alloc t=>
  grind [LX]
 |box t x=>
  grind [VL]
 |buildSlice t n ps=>
  rw[g]at h;cases hd:o.dst with
  |none=>grind
  |some d=>
   rw[hd]at h;dsimp only at h⊢;split at h
   all_goals grind [xK,vN,vL]
 |call c=>
  rw[g]at h;dsimp only at h⊢;split at h
  ·grind (splits:=20) [Ie,Ek]
  ·exact Kg (fun s' f a=>hk _ (f.trans (aA _ _ _)) a) h
  ·skip
   split at h
   ·rename_i C l hf;exact(En.ok_get j l hf).ext _ _ _ _ _ (fun s' v f a=>hk _ (f.trans (aA _ _ _)) a) h
   omega
  ·skip
   split at h
   ·skip
    split at h
    ·rename_i C l hf;exact(En.ok_get j l hf).ext _ _ _ _ _ (fun s' v f a=>hk _ (f.trans (aA _ _ _)) a) h
    omega
   ·split at h
    ·split at h
     ·rename_i p _ C l;exact((En.ok_get' j l).2 (Sc p)).ext _ _ _ _ _ (fun s' v f a=>hk _ (f.trans (aA _ _ _)) a) h
     omega
    omega
   omega
  omega
 |makeMap t r=>
  rw[g]at h
  grind [E4]
 |lookup t x i ok=>
  grind [E9,E7,aA]
 |mapUpdate t m i v=>
  rw[g]at h;dsimp only at h⊢;split at h
  ·exact Kj (fun s' f a=>hk _ (f.trans (aA _ _ _)) a) h
  exact Kk (fun s' f a=>hk _ (((iD _ _).trans f).trans (aA _ _ _)) a) h
 |makeSlice t n c=>
  grind [Av]
 |makeFunc fn first caps=>
  grind [B3]
 |range t x=>
  grind [N8]
 |next x b=>
  rw[g]at h;cases b<;>grind [Tl]
 |entry x=>grind [Mw]
 |_=>grind
theorem Kv{e:En}(a:e.ok)(hk:∀s',Ext s s'->k s'->k' s')(h:AH e o s k):AH e o s k':=by
 unfold AH at h⊢;split at h
 ·rename_i hq;exact FA (fun v hv=>hk _ ((Gc _ _).trans (aA _ _ _)) hv) h
 grind [afS]
theorem abT{e:En}(a:e.ok)(hk:∀s',Ext s s'->k s'->k' s')(h:opT e o s k):opT e o s k':=by
 grind [opT,TY,Kv]
end
variable{K:S->Prop}{all:List Oper}
section
variable {P:Program} {g:G} {Q:Exit->S->Prop} {s:St}
def AOt(P:Program)(g:G)(o:Oper)(k:St->Prop)(Q:Exit->S->Prop)(s:St):Prop:=
 ∀a w,R g s.toS a w->o.wp P a w (fun a' w'=>∃s':St,k s'/\R g s'.toS a' w') (lift g Q)
def PQ(pk:PKt):Exit->S->Prop:=fun x s=>∃v,∃t:St,x=.panic (chn v)/\s=t.toS/\pk v t
section
variable {g:G} {a:Act} {w:World} {H:FH}
theorem jB{s:St}(h:gtA s.t i=v):aV s.toS.t i=v.toV:=by rw[<- h];exact dy i s.t
theorem Vy{γ:Gam}{F:Nm->Fp}{s:St}(e:RX g s.toS a w H γ F){c j:Nat}{t:Tt}(d:gtA s.t c=.one (.agg ts))(hj:ts[j]? = some t) :
  ∃vs v,g.tv a c=.agg vs/\vs.toList[j]? = some v/\TR w H γ s.toS.m t.toT (fun _=>0) v:=by
 have h:=e.t c
 rw[jB d]at h;obtain⟨vs,h1,_,h3⟩:=h;obtain⟨_,v,g',_,h4,h5,h6⟩:=sg h3 (k:=j) (x:=t.toT) (by grind);refine⟨vs,v,h1,h4,?_⟩;have:g'=fun _=>0:=funext fun b=>by grind
 grind
theorem kE(k:Nat):∀(sh:List Sh)(j:Nat)(s:St)(γ:Gam)(F:Nm->Fp),RX g s.toS a w H γ F->∃γ' F',RX g (Ay k sh j s).toS a w H γ' F'
 |[],_,s,γ,F,e=>⟨γ,F,e⟩
 |.fr::r,j,s,γ,F,e=>kE k r (j+1) s γ F e
 |.ow _::r,j,s,γ,F,e=>by
  simp only[Ay];split
  ·rename_i ts I;split
   ·rename_i q hj;split
    ·rename_i u L _ _ _;split
     ·rename_i s1 sub l hb;obtain⟨vs,v,C,J,B⟩:=Vy e I hj;have hy:AR w H γ s.toS.m (.one (.c (.rf q))) v:=B
      obtain⟨b1,b2,_⟩:=mT (size:=nc u) rfl (fT e) (fun M x=>by
       cases x;exact pY B.2.1) hb
      obtain⟨kb,f,F1,k1,k2,k3,k4,k5⟩:=mU e hy b1;have A:=cU k2 (.gh (700000+j))
      have z:∀b,tot F1 (s1.toS.fresh (.gh (700000+j))).m b<=tot F1 s1.toS.m b:=by
       intro b;unfold S.fresh;split
       ·omega
       show tot F1 (aJ _ _) b<=_
       rw[bh];exact gi
      obtain⟨γ',F',d,y⟩:=dN A (n:=.gh (700000+j)) rfl (bZ k2 (.gh (700000+j))) (v:=v) (t:=.ow sub (l.map (ap u))) (f:=f) ⟨kb,k1⟩
       (fun b=>by have h1:=z b;have h2:=k4 b;have h3:=e.mem.le1 b;omega) (fun b hb=>⟨(k5 b hb).1,(k5 b hb).2.1⟩) (fun b hb=>(k5 b hb).2.2)
      have D:((s1.fresh (.gh (700000+j))).root (.gh (700000+j)) ⟨false,[.ow sub u l],none⟩).toS=⟨(s1.toS.fresh (.gh (700000+j))).t,(.gh (700000+j),⟨false,[.ow sub (l.map (ap u))]⟩)::(s1.toS.fresh (.gh (700000+j))).m⟩:=by
       rw[<- bx b2];rfl
      rw[<- D]at d;generalize hs2:(s1.fresh (.gh (700000+j))).root (.gh (700000+j)) ⟨false,[.ow sub u l],none⟩=s2 at d D;split
      ·rename_i o p;refine kE k r (j+1) _ γ' F' ⟨d.mem,d.fr,d.nt,d.df,fun i=>?_⟩;show AR w H γ' s2.toS.m (aV ((k,At.toV (.one (.agg (o.set j (.rf ⟨.gh (700000+j),0,[]⟩)))))::s2.toS.t) i) _
       simp only[aV];split
       ·rename_i hi;subst hi;have h:=d.t k
        rw[jB p,C]at h;obtain⟨cs,h1,h2,h3⟩:=h;obtain rfl:=Value.agg.inj h1;rw[C];refine⟨vs,rfl,by grind,?_⟩;by_cases G:j<o.length
        ·obtain⟨_,_,_,K,fr,_,_,_,a4,_,E,_⟩:=cT _ _ _ _ j h3 (by grind);have hr:TR w H γ' s2.toS.m (.rf ⟨.gh (700000+j),0,[]⟩) (fun _=>0) v:=(gX (H:=H) (w:=w) (sub:=sub) (l:=l.map (ap u)) (by grind [af]) y:AR w H γ' s2.toS.m (.one (.c (.rf ⟨.gh (700000+j),0,[]⟩))) v)
         have:=E (fun _=>TR w H γ' s2.toS.m) (.rf ⟨.gh (700000+j),0,[]⟩) v (fun _=>0) (fun _ _ _ _ _ h=>h) hr
         rw[qk J]at this;unfold Ts;rw[ajH]at this⊢;rw[akS,ajZ];exact o8 (fun b=>by grind) this
        grind
       exact d.t i
      exact kE k r (j+1) _ γ' F' d
     exact kE k r (j+1) s γ F e
    exact kE k r (j+1) s γ F e
   exact kE k r (j+1) s γ F e
  grind
theorem Vm(sh:List (TypeId×List Sh)){s:St}{γ:Gam}{F:Nm->Fp}(t:TypeId)(v:Operand)(b:RX g s.toS a w H γ F):∃γ' F',RX g (Km sh s t v).toS a w H γ' F':=by
 unfold Km;split
 ·exact kE _ _ _ _ _ _ b
 grind
end
theorem aaN{w:World}{H:FH}{γ:Gam}{m:Mm}(h:AR w H γ m v.toV y){f:Nat}(hf:aaM v=some f):y=.func (.func f) #[] #[]:=by
 unfold aaM at hf;split at hf
 ·rename_i f' x z;split at hf
  ·rename_i a b;simp only[ai8]at hf;subst hf;obtain⟨_,m,h3⟩:=h;have d:y=.func (.func f') x z:=by cases m<;>exact h3.1
   grind
  grind
 ·rename_i c;split at hf
  ·rename_i hc;simp only[ai8]at hf;subst hf;obtain⟨_,m,h3⟩:=h;cases m with
   |zero=>exact h3.elim
   |succ m=>
    obtain⟨ps,h4,h5,_⟩:=h3
    grind
  grind
 grind
theorem Ws{w:World}{H:FH}{γ:Gam}{m:Mm}(h:AR w H γ m v.toV y){key:Nat}(hf:C5 v=some key):∃f ps,key=f+1000000/\y=.func (.func f) #[] ps:=by
 unfold C5 at hf;split at hf
 ·rename_i c;simp only[ai8]at hf;subst hf;obtain⟨_,m,h3⟩:=h;cases m with
  |zero=>exact h3.elim
  |succ m=>
   obtain⟨ps,h4,_⟩:=h3
   grind
 grind
theorem XN{e:En}{c:Call}(a:o.op=.call c)(hd:o.dst=some d)(h:XM e o=true):∃t kt et,c.callee=.builtin .len/\c.argTypes.toList=[t]/\(ty e.P t).k=.mp kt et:=by
 grind [XM]
theorem ad8{e:En}(Z:e.ok)(O:∀x s,PQ e.pk x s->Q x s){k:St->Prop}(hc:opC g.nt o=true)(hq:isQ o=false)(h:lT e o s k):AOt e.P g o k Q s:=by
 intro a w hR;obtain⟨H,γ,F,p⟩:=hR;have hn:=fT p
 have W:∀{s1:St},(∃H' F',RX g s1.toS a w H' γ F')->opK e.P [] o s1.toS (upS k)->o.wp e.P a w (fun a' w'=>∃s':St,k s'/\R g s'.toS a' w') (lift g Q):=by
  intro s1 ⟨H',F',D⟩ hop;exact bY (fun a' w'⟨s',⟨t,e,hk⟩,S⟩=>⟨t,hk,CU e S⟩) (fun _ _ _ h=>h) (Lp (Q:=Q) CT.ok0 hc hop a w ⟨H',γ,F',D⟩)
 have j:=hc
 unfold opC at j;rw[ai9]at j;obtain⟨hd,j⟩:=j;unfold lT at h;cases L:o.op with
 |store t x v=>
  rw[L]at h j;simp only[ai9]at j;obtain⟨X,F0,h0⟩:=Vm e.sh t v p;obtain⟨H1,F1,h1⟩:=Q1 h0 (evA (Km e.sh s t v) x) (evA (Km e.sh s t v) v);refine bY (fun a' w'⟨s',⟨t,e,hk⟩,S⟩=>⟨t,hk,CU e S⟩) (fun _ _ _ h=>h) (Lp (Q:=Q) CT.ok0 hc (?_:opK e.P [] o _ (upS k)) a w ⟨H1,X,F1,h1⟩);unfold opK;rw[L];dsimp only;rw[aj j.1,aj j.2];exact T5 (fun t' hk=>⟨_,aO t' o.dst .any,hk⟩) (fT h1) h
 |alloc t=>
  grind [opK,Rb]
 |box t x=>
  grind [opK,ZA]
 |buildSlice t n ps=>
  rw[L]at h j;cases B:o.dst with
  |none=>grind
  |some d=>
   rw[B]at h hd;have D:=iE (ps.toList.map fun x=>evA s x.2) s H F p
   dsimp only at h;split at h
   ·grind [opK,zo,fT]
   split at h
   ·obtain⟨t',y,w',γ',F',K,hk,J⟩:=xJ p hd j h;unfold Oper.wp;have:(execOp a.eval o).run e.P w=.ok (.value y) w':=by simp_all[execOp]
    rw[this];exact⟨t',hk,_,γ',F',by rw[B];exact J⟩
   obtain⟨H1,F1,h1⟩:=D;obtain⟨s',y,w',H',γ',F',K,⟨t',et,hk⟩,J⟩:=xH (P:=e.P) h1 hd j (xI j (fT h1) h);unfold Oper.wp;have:(execOp a.eval o).run e.P w=.ok (.value y) w':=by simp_all[execOp]
   rw[this];exact⟨t',hk,H',γ',F',bH et (by grind)⟩
 |call c=>
  rw[L]at h j;obtain⟨M,args,A⟩:=c;obtain⟨args⟩:=args;obtain⟨A⟩:=A;dsimp only at h j;cases M with
  |builtin b=>
   cases b with
   |append=>
    match args,A,h with
    |[x,y],[t,u],h=>
     have h1:aF x=true/\aF y=true:=by grind
     cases B:o.dst with
     |none=>grind
     |some d=>
      rw[B]at h hd;dsimp only at h;split at h
      rotate_left
      ·obtain⟨s',y',w',H',γ',F',K,⟨t',et,hk⟩,J⟩:=Ib (P:=e.P) (tt:=o.type) p hd h1.1 h1.2 (Ic h1.1 h1.2 hn (fun q hq=>by
         have h3:=aH p h1.2
         rw[aj h1.2,hq]at h3;obtain⟨_,h4,_⟩:=h3;exact pY h4) (fun size s1 sub l q ab hb hq=>by
         have hy:=aH p h1.2
         rw[aj h1.2]at hy;obtain⟨_,_,F1,_,D,_⟩:=mU p hy hb;have h3:=aH D h1.1
         rw[aj h1.1,hq]at h3;obtain⟨_,h4,_⟩:=h3;exact pY h4) h)
       unfold Oper.wp;have:(execOp a.eval o).run e.P w=.ok (.value y') w':=by
        simp_all[execOp,resolve,invoke,builtin]
       rw[this];exact⟨t',hk,H',γ',F',bH et (by grind)⟩
      have D:=gI p (evA s y)
      refine W D ?_;unfold opK;rw[L,B];obtain⟨H1,F1,h2⟩:=D;exact L1 h1.1 h1.2 (fT h2) (fun q hq=>by
       have h3:=aH h2 h1.1
       rw[aj h1.1,hq]at h3;obtain⟨_,h4,_⟩:=h3;exact pY h4) h
   |delete=>
    match args,A,h with
    |[x,i],t::ts,h=>
     have h1:aF x=true/\aF i=true:=by grind
     have h2:=aH p h1.1
     have h3:=aH p h1.2
     rw[aj h1.1]at h2;rw[aj h1.2]at h3;obtain⟨t',w',F',K,I,J⟩:=Ny (tt:=o.type) p h2 h3 h;unfold Oper.wp;have:(execOp a.eval o).run e.P w=.ok (.value (.tuple #[])) w':=by
      simp only[execOp,L,resolve,invoke,builtin,Sem.run_bind,Sem.run_pure,Result.andThen_ok,List.map_toArray,List.map_cons,List.map_nil];rw[K];rfl
     rw[this];exact⟨_,I,H,γ,F',bH (aO t' o.dst (.tup [])) (J.put hd ⟨#[],rfl,trivial⟩)⟩
   |_=>grind
  |value v=>
   cases v with
   |func f=>
    dsimp only at h;split at h
    ·rename_i C V hf;have U:=En.ok_get Z V hf
     have hr:(execOp a.eval o).run e.P w=.ok (.enter f (args.map a.eval).toArray) w:=by
      grind [execOp,resolve,Act.eval,Deferred.ofValue,invoke,Cont.run]
     unfold Oper.wp;rw[hr];refine Calls.mono (U.call g e.pk s a w H γ F args _ p j h) (fun e' w' hp=>?_);rcases hp with⟨r,s',av,H',γ',F',k1,k2,k3,k4⟩|⟨v,s',k1,k2,k4⟩
     ·subst k1;exact⟨_,k2,H',γ',F',bH (aO s' o.dst av) (k4.put hd k3)⟩
     subst k1;exact⟨_,O _ _ ⟨v,s',rfl,rfl,k2⟩,k4⟩
    grind
   |tmp t=>
    dsimp only at h;have N:Nat.blt t 100000=true->AR w H γ s.toS.m (gtA s.t t).toV (a.tmps.getD t undef):=fun T=>by
     have h3:=p.t t
     rw[G.tv_lo (show t<TB from ajG T),show aV s.toS.t t=(gtA s.t t).toV from dy t s.t]at h3;exact h3
    split at h
    ·rename_i f T hf;split at h
     ·rename_i C V Y;have U:=En.ok_get Z V Y
      have hv:a.eval (.tmp t)=.func (.func f) #[] #[]:=aaN (N T) hf
      have hr:(execOp a.eval o).run e.P w=.ok (.enter f (args.map a.eval).toArray) w:=by
       grind [execOp,resolve,Deferred.ofValue,invoke,Cont.run]
      unfold Oper.wp;rw[hr];refine Calls.mono (U.call g e.pk s a w H γ F args _ p j h) (fun e' w' hp=>?_);rcases hp with⟨r,s',av,H',γ',F',k1,k2,k3,k4⟩|⟨v,s',k1,k2,k4⟩
      ·subst k1;exact⟨_,k2,H',γ',F',bH (aO s' o.dst av) (k4.put hd k3)⟩
      subst k1;exact⟨_,O _ _ ⟨v,s',rfl,rfl,k2⟩,k4⟩
     grind
    ·rename_i T hf;split at h
     ·rename_i key aa;split at h
      ·rename_i C V;obtain⟨f,ps,rfl,hv⟩:=Ws (N T) aa;have ac:a.eval (.tmp t)=.func (.func f) #[] ps:=hv
       have U:=(En.ok_get' Z V).2 kQ1
       ·have hr:(execOp a.eval o).run e.P w=.ok (.enter f ((args.map a.eval).toArray++ps)) w:=by
         have h5:=U.run
         grind [execOp,resolve,Deferred.ofValue,invoke]
        unfold Oper.wp;rw[hr];have h6:=U.call g e.pk s a w H γ F t args _ ps p j (ajG T) (by grind) h
        rw[Nat.add_sub_cancel]at h6;refine Calls.mono h6 (fun e' w' hp=>?_);rcases hp with⟨r,s',av,H',γ',F',k1,k2,k3,k4⟩|⟨v,s',k1,k2,k4⟩
        ·subst k1;exact⟨_,k2,H',γ',F',bH (aO s' o.dst av) (k4.put hd k3)⟩
        subst k1;exact⟨_,O _ _ ⟨v,s',rfl,rfl,k2⟩,k4⟩
      grind
     grind
    grind
   |_=>grind
  |invoke r n=>grind
 |makeMap t r=>
  rw[L]at h j;have key:∀d,o.dst=some d->fW e.P e.E (fB e.sh (4000000+t)).isSome s t d k->(∀v,r.map a.eval=some v->∃κ n,v=.int κ n)->o.wp e.P a w (fun a' w'=>∃s':St,k s'/\R g s'.toS a' w') (lift g Q):=by
   intro d B h hr;rw[B]at hd;obtain⟨t',y,w',γ',F',K,I,J⟩:=Kf p hd h hr;unfold Oper.wp;have:(execOp a.eval o).run e.P w=.ok (.value y) w':=by simp_all[execOp]
   rw[this];exact⟨t',I,H,γ',F',by grind⟩
  dsimp only at h;split at h
  ·grind
  ·rename_i d x B;split at h
   ·rename_i κ n hx;refine key d B h (fun v hv=>?_);have h3:=aH p (show aF x=true from j)
    rw[aj j,hx]at h3;exact⟨κ,n,by rw[<- Option.some.inj hv];exact(nM h3).1⟩
   grind
  grind
 |lookup t x i ok=>
  rw[L]at h j;have h1:aF x=true/\aF i=true:=by grind
  have h2:=aH p h1.1
  have h3:=aH p h1.2
  rw[aj h1.1]at h2;rw[aj h1.2]at h3;dsimp only at h;split at h
  ·rename_i d _ B;rw[B]at hd;obtain⟨t',y,γ',F',K,I,J⟩:=Kl p hd h1.1 h1.2 h;unfold Oper.wp;have:(execOp a.eval o).run e.P w=.ok (.value y) w:=by simp_all[execOp]
   rw[this];exact⟨_,I,H,γ',F',by grind⟩
  obtain⟨z,v,K,I,J⟩:=NB p h2 h3 h;unfold Oper.wp;have:(execOp a.eval o).run e.P w=.ok (.value z) w:=by simp_all[execOp]
  rw[this];exact⟨_,J,H,γ,F,bH (aO s o.dst v) (p.put hd I)⟩
 |mapUpdate t m i v=>
  rw[L]at h j;have h1:(aF m=true/\aF i=true)/\aF v=true:=by grind
  dsimp only at h;split at h
  ·have h2:=aH p h1.1.1
   have h3:=aH p h1.1.2
   have h4:=aH p h1.2
   rw[aj h1.1.1]at h2;rw[aj h1.1.2]at h3;rw[aj h1.2]at h4;obtain⟨t',w',F',K,I,J⟩:=NE p h2 h3 h4 h;unfold Oper.wp;have:(execOp a.eval o).run e.P w=.ok .skip w':=by simp_all[execOp]
   rw[this];exact⟨_,I,H,γ,F',bH (aO t' o.dst .any) (J.put hd trivial)⟩
  obtain⟨H1,F1,D⟩:=gI p (evA s v);generalize fP s (evA s v)=s1 at h D;have h2:=aH D h1.1.1
  have h3:=aH D h1.1.2
  have h4:=aH D h1.2
  rw[aj h1.1.1]at h2;rw[aj h1.1.2]at h3;rw[aj h1.2]at h4;obtain⟨t',w',F',K,I,J⟩:=NG D h2 h3 h4 h;unfold Oper.wp;have:(execOp a.eval o).run e.P w=.ok .skip w':=by simp_all[execOp]
  rw[this];exact⟨_,I,H1,γ,F',bH (aO t' o.dst .any) (J.put hd trivial)⟩
 |makeSlice t n c=>
  rw[L]at h j;have h1:aF n=true/\aF c=true:=by grind
  cases B:o.dst with
  |none=>grind
  |some d=>
   rw[B]at h hd;obtain⟨t',y,w',γ',F',K,I,J⟩:=B5 p hd h1.1 h;unfold Oper.wp;have:(execOp a.eval o).run e.P w=.ok (.value y) w':=by simp_all[execOp]
   rw[this];exact⟨t',I,H,γ',F',by grind⟩
 |makeFunc fn first caps=>
  rw[L]at h j;dsimp only at h;split at h
  ·rename_i f ad;obtain⟨t',H',K,I⟩:=E3 p hd j h;unfold Oper.wp;have hf0:first=#[]:=by grind
   have:(execOp a.eval o).run e.P w=.ok (.value (.func (.func f) #[] (caps.toList.map a.eval).toArray)) w:=by
    simp only[execOp,L,hf0,Instr.makeFunc,Sem.run_bind,Sem.run_pure,Result.andThen_ok,Array.map_empty];simp[<- Array.toList_map]
   rw[this];exact⟨t',K,H',γ,F,I⟩
  grind
 |range t x=>
  rw[L]at h j;cases B:o.dst with
  |none=>grind
  |some d=>
   rw[B]at h hd;obtain⟨t',y,w',H',γ',F',K,I,J⟩:=TL p hd j h;unfold Oper.wp;have:(execOp a.eval o).run e.P w=.ok (.value y) w':=by simp_all[execOp]
   rw[this];exact⟨t',I,H',γ',F',by grind⟩
 |next x b=>
  rw[L]at h j;cases b with
  |true=>grind
  |false=>
   have h1:=aH p (show aF x=true from j)
   rw[aj j]at h1;obtain⟨t',z,w',F',K,I,J⟩:=XD p hd h1 o.type h;unfold Oper.wp;have:(execOp a.eval o).run e.P w=.ok (.value z) w':=by simp only[execOp,L];rw[Sem.run_bind,K];rfl
   rw[this];exact⟨t',I,H,γ,F',J⟩
 |entry x=>
  rw[L]at h j;have h1:=aH p (show aF x=true from j)
  rw[aj j]at h1;obtain⟨t',z,K,I,J⟩:=Sj p hd h1 h;unfold Oper.wp;have:(execOp a.eval o).run e.P w=.ok (.value z) w:=by simp only[execOp,L];rw[Sem.run_bind,K];rfl
  rw[this];exact⟨t',I,H,γ,F,J⟩
 |_=>grind
theorem FW{e:En}(n:e.ok)(f:∀x s,PQ e.pk x s->Q x s){k:St->Prop}(hc:opC g.nt o=true)(h:AH e o s k):AOt e.P g o k Q s:=by
 unfold AH at h;split at h
 ·rename_i hq;intro a w ⟨H,γ,F,l⟩;obtain⟨H1,F1,b⟩:=yX l o;obtain⟨z,d,B,_,i,j,c⟩:=A3 b hc (Yc b hc h);obtain⟨m,rfl,hk⟩:=c;unfold Oper.wp;rw[i w (fun _ _=>rfl)];exact⟨_,hk,H1,γ,F1,bH (aO _ _ _) (b.put (fH hc) j)⟩
 grind [ad8]
theorem YY{e:En}(S:e.ok)(L:∀x s,PQ e.pk x s->Q x s){k:St->Prop}(hc:opC g.nt o=true)(h:opT e o s k):AOt e.P g o k Q s:=by
 unfold opT at h;split at h
 ·rename_i D;intro a w ⟨H,γ,F,A⟩;unfold K4 at h;have b:=hc
  unfold opC at b;rw[ai9]at b;obtain⟨hd,b⟩:=b;split at h
  ·rename_i t x hi d j f;rw[j]at b;rw[f]at hd;simp only[ai9,Option.all_none,Option.all_some,and_true]at b;obtain⟨t',y,γ',F',I,p,E⟩:=KM A hd b.1 b.2 h;unfold Oper.wp;have:(execOp a.eval o).run e.P w=.ok (.value y) w:=by simp_all[execOp]
   rw[this];exact⟨t',p,H,γ',F',by grind⟩
  ·rename_i x d j f;rw[j]at b;rw[f]at hd;obtain⟨t',H',F',p,E⟩:=Nz A hd b h;unfold Oper.wp;have:(execOp a.eval o).run e.P w=.ok (.value (a.eval x)) w:=by simp_all[execOp]
   rw[this];exact⟨t',p,H',γ,F',by grind⟩
  ·rename_i c d j f;rw[j]at b;rw[f]at hd;split at h
   ·rename_i x hx;obtain⟨t,kt,et,M,O,J⟩:=XN j f D;have u:aF x=true:=by
     grind
    have h1:=aH A u
    rw[aj u]at h1;obtain⟨t',z,I,p,E⟩:=NC (tt:=o.type) A hd h1 J h;unfold Oper.wp;have:(execOp a.eval o).run e.P w=.ok (.value z) w:=by
     obtain⟨G,⟨args⟩,⟨r⟩⟩:=c
     simp_all[builtin,execOp,resolve,invoke]
    rw[this];exact⟨t',p,H,γ,F,by grind⟩
   grind
  ·rename_i t x i d j f;rw[j]at b;simp only[ai9]at b;obtain⟨H1,n⟩:=qC [evA s x] s H A;dsimp only at h;generalize rW s [evA s x]=s1 at h n;split at h
   ·rename_i row C;split at h
    ·rename_i l hl;have I:=DY hl
     have hk:=rZ (m:=s1.m) (P:=e.P) (t:=t) (x:=.one (.c (.ga .s l 0))) (i:=evA s1 i) (fun q hq=>by grind) h
     have p:(At.one (.c (.ga .s l 0))).toV=ev s1.toS x:=by
      rw[aj b.1,C,I];show AV.one (.c (.el _ 0))=AV.one (.c (.el _ 0))
      rw[akA];rfl
     rw[p,<- aj b.2]at hk;have hq:qK e.P o s1.toS (up fun v=>k (s1.put (some d) v)):=by unfold qK;rw[j];exact hk
     obtain⟨z,R,B,_,E,K,T,rfl,N⟩:=A3 n hc hq;unfold Oper.wp;rw[E w (fun _ _=>rfl)];exact⟨_,N,H1,γ,F,by rw[f];exact bH (aO _ _ _) (n.put (by grind) K)⟩
    grind
   grind
  grind
 grind [FW]
theorem Uh{s s':S}(e:SEq s s')(h:AO P g o K Q s'):AO P g o K Q s:=fun a w b=>h a w (CU e b)
theorem Ln{ops rest:List Oper}{s s':S}(e:SEq s s')(h:AL P g ops rest Q s'):AL P g ops rest Q s:=fun a w b=>h a w (CU e b)
theorem YX(h:AOt P g o (fun t=>K t.toS) Q s):AO P g o K Q s.toS:=fun a w c=>
 bY (fun a' w'⟨s',hk,b⟩=>⟨s'.toS,hk,b⟩) (fun _ _ _ h=>h) (h a w c)
theorem uQ(s:St)(d:Nat)(b:Bool):SEq (s.toS.put (some d) (.one (.c (.d (.bool b))))) (s.put (some d) (sct (.bo b))).toS:=aO s (some d) (sct (.bo b))
theorem AZ(s:St)(d:Nat)(b:Bool)(o:Option Tmp):SEq ((s.toS.put (some d) (.one (.c (.d (.bool b))))).put o (.tup [])) ((s.put (some d) (sct (.bo b))).put o (.tup [])).toS:=by
 have h1:=uQ s d b
 have h2:=aO (s.put (some d) (sct (.bo b))) o (.tup [])
 refine⟨fun i=>?_,?_⟩
 ·rw[<- h2.1 i];cases o with
  |none=>exact h1.1 i
  |some o=>show aV (s8 _ o _) i=aV (s8 _ o _) i;rw[iP,iP,h1.1 i];rfl
 rw[<- h2.2];cases o<;>exact h1.2
theorem th{e:En}(p:e.ok)(f:∀x s,PQ e.pk x s->Q x s){k:St->Prop}:∀{rest:List Oper}{s:St},abU g.nt all rest=true->ny e all rest s k->(∀t:St,k t->Q .normal t.toS)->AL e.P g all rest Q s.toS
 |[],s,_,h,n=>ad7 (n s h)
 |o::r,s,hc,h,n=>by
  simp only[abU,ai9]at hc;obtain⟨⟨l,b⟩,i⟩:=hc;simp only[ny]at h;have run:∀{s:St},opT e o s (fun s'=>ny e all r s' k)->AO e.P g o (AL e.P g all r Q) Q s.toS:=fun{s}h=>
   YX (fun a w z=>bY (fun a' w'⟨s',hk,y⟩=>⟨s',th p f i hk n,y⟩) (fun _ _ _ h=>h) (YY p f l h a w z))
  cases v:o.guard with
  |none=>
   grind [YW]
  |some q=>
   obtain⟨j,want⟩:=q;rw[v]at h b;dsimp only at h b;cases hj:(all[j]?).bind (·.dst)with
   |none=>grind
   |some d=>
    rw[hj]at h b;dsimp only at h b;split at h
    ·rename_i c m;have u:aV s.toS.t d=.one (.c (.d (.bool c))):=jB m
     cases want with
     |true=>
      dsimp only at h;refine FV v hj u b (fH l) (fun hc=>?_) (fun hc=>?_)
      ·grind [Uh,uQ]
      subst hc;rw[if_neg (by simp)]at h;exact Ln (AZ s d _ _) (th p f i h n)
     |false=>
      dsimp only at h;refine FV v hj u b (fH l) (fun hc=>?_) (fun hc=>?_)
      ·grind [Uh,uQ]
      subst hc;rw[if_pos (by rfl)]at h;exact Ln (AZ s d _ _) (th p f i h n)
    ·rename_i m;exact Lo v hj (jB m) (fH l) (Ln (aO s o.dst (.tup [])) (th p f i h n))
    grind
theorem AJ{e:En}(f:e.ok){k k':St->Prop}:∀{rest:List Oper}{s:St},(∀s',Ext s s'->k s'->k' s')->ny e all rest s k->ny e all rest s k'
 |[],s,hk,h=>hk s (Ext.refl s) h
 |o::r,s,hk,h=>by
  have run:∀{s1:St},Ext s s1->opT e o s1 (fun s'=>ny e all r s' k)->opT e o s1 (fun s'=>ny e all r s' k'):=fun{s1}h1 h=>
   abT f (fun s' h2 b=>AJ f (fun a h3=>hk a ((h1.trans h2).trans h3)) b) h
  have rest:∀{s1:St},Ext s s1->ny e all r s1 k->ny e all r s1 k':=fun{s1}h1 h=>AJ f (fun a h3=>hk a (h1.trans h3)) h
  simp only[ny]at h⊢;split at h
  ·grind [Ext.refl]
  rename_i j want i;split at h
  ·rename_i d hj;split at h
   ·rename_i c g;cases want<;>cases c<;>simp only[ajC,if_true,if_false]at h⊢
    ·grind [aA]
    ·exact rest ((aA _ _ _).trans (aA _ _ _)) h
    ·exact rest ((aA _ _ _).trans (aA _ _ _)) h
    grind [aA]
   all_goals grind [aA]
  omega
end
variable{fuel:Nat}{listed:Array Bool}{no:St->Prop}{ops:Array Oper}
section
variable {e:En} {g:G} {k:St->Prop} {Q:Exit->S->Prop}
theorem SL(h:W1 x=true):Jp x.toV=true:=by
 unfold W1 at h;split at h
 ·rfl
 ·rfl
 grind
theorem MC{s:St}(hc:opC g.nt o=true)(h:lV s o=true):gz s.toS o:=by
 grind [lV,gz,opC,aj,SL]
theorem adN{ops:List Oper}{s:St}{f:St->Prop}(h:gT ops o s f no):gK ops o s.toS (upS f) (upS no):=by
 unfold gT at h;unfold gK;cases b:o.guard with
 |none=>rw[b]at h;exact⟨s,⟨fun _=>rfl,rfl⟩,h⟩
 |some q=>
  obtain⟨j,want⟩:=q;rw[b]at h;dsimp only at h⊢;cases hj:(ops[j]?).bind (·.dst)with
  |none=>grind
  |some d=>
   rw[hj]at h;dsimp only at h⊢;split at h
   ·rename_i c a;rw[jB a]
    grind [At.toV,A1.toV,Tt.toT,C.toD,gsel,uQ,AZ]
   ·rename_i a;rw[jB a];exact⟨_,aO s o.dst (.tup []),h⟩
   grind
theorem WM{ops:List Oper}{s:St}{f f' a:St->Prop}(hf:∀s',Ext s s'->f s'->f' s')(hn:∀s',Ext s s'->no s'->a s')(h:gT ops o s f no):gT ops o s f' a:=by
 unfold gT at h⊢;cases b:o.guard with
 |none=>grind [Ext.refl]
 |some q=>
  obtain⟨j,want⟩:=q;rw[b]at h;dsimp only at h⊢;cases hj:(ops[j]?).bind (·.dst)with
  |none=>grind
  |some d=>
   rw[hj]at h;dsimp only at h⊢;split at h
   ·rename_i c _;cases want<;>cases c<;>simp only[ajC,if_true,if_false]at h⊢
    ·grind [aA]
    ·exact hn _ ((aA _ _ _).trans (aA _ _ _)) h
    ·exact hn _ ((aA _ _ _).trans (aA _ _ _)) h
    grind [aA]
   all_goals grind [aA]
theorem FU{A:List Nat}{fz:Bool}(J:lX g.nt ops=true)(hs:Region.noSelect ops=true)(hi:ops[i]? = some o)
  (t:Bu ops listed i A fz=true) {s:St} {D:St->Prop} (q:∀s:St,D s->AD e.P g ops Q K fuel (listed.setIfInBounds i true) s.toS)
  (h:gT ops.toList o s (fun s=>(fz=true->lV s o=true)/\qT e o s fun v=>D (s.put o.dst v)) D):AD e.P g ops Q K (fuel+1) listed s.toS:=by
 intro a w H γ F Pr C l;simp only[Bu,ai9]at t;obtain⟨⟨⟨⟨r,I⟩,t3⟩,t4⟩,t5⟩:=t;obtain⟨p,E⟩:=jm J hi;have c:=Region.ready_mem_of_contains I
 have k:behind .any ops i (fun j=>A.contains j) listed:=by
  intro j hj f;have:=ajM.1 t4 j (by grind)
  rw[fM.2 f]at this;cases N:ops[j]?<;>grind [fM]
 have n:∀j,(listed.setIfInBounds i true).getD j true=false->listed.getD j true=false:=fun j h=>(iO h).1
 rcases ui C (adN h) (fH p) E with⟨hw,s0,⟨s',e0,hf,hq⟩,hX0⟩|⟨hw,s0,⟨s',e0,hno⟩,hX0⟩
 ·have hX':=bH e0 hX0
  obtain⟨z,d,B,e0,x,L,M,u,hk⟩:=A3 hX' p (Yc hX' p hq);subst u;refine ke (tT g Q) (A:=fun j=>A.contains j) (B:=B) (v:=z) hi (Region.noSelect_spec hs) fuel listed Pr (fun j b=>Pr j b\/(A.contains j=false/\B b)) a w (fun j b h=>.inl h) (fun j b h1 h2=>.inr ⟨h1,h2⟩)
   (Region.free_spec hi r) k c (.inl ⟨hw,fun w2 hs2=>x w2 hs2⟩) (q _ hk (a.put o.dst z) w H γ F _ (bH (aO _ _ _) (hX'.put (fH p) L)) ?_)
  intro j G hj f;obtain⟨m,y⟩:=iO f;rcases l j G hj m with hp|hp
  all_goals grind [MC,fM]
 have hX':=bH e0 hX0
 refine ke (tT g Q) (A:=fun _=>false) (B:=fun _=>False) (v:=undef) hi (Region.noSelect_spec hs) fuel listed Pr Pr a w (fun j b h=>h) (fun j b _ h2=>h2.elim)
  (Region.free_spec hi r) (fun j h=>by cases h) c (.inr ⟨hw,rfl⟩) (q _ hno (a.put o.dst undef) w H γ F _ hX' (l.mono n (fun _ _ _ h=>h)))
theorem Ug(U:e.ok)(E:∀x s,PQ e.pk x s->Q x s)(V:lX g.nt ops=true)(u:listed.getD i true=false)(hi:ops[i]? = some o){s:St}
  {D:St->Prop} (C:∀s:St,D s->AD e.P g ops Q K fuel (listed.setIfInBounds i true) s.toS) (h:gT ops.toList o s (fun s=>AH e.cl o s D) D) {a:Act} {w:World} {H:FH} {γ:Gam} {F:Nm->Fp} {Pr:Nat->Bs} (S:RX g s.toS a w H γ F) (k:QS ops listed H Pr) :
  lOp e.P ops (Zx g Q) Pr i (fun a' w'=>∃r:Nat->Bs,(∀j b,Pr j b->r j b)/\tf e.P .any ops (Zx g Q) (fun a w=>∃s',K s'/\R g s' a w) fuel (listed.setIfInBounds i true) r a' w') a w:=by
 have f:∀j,(listed.setIfInBounds i true).getD j true=false->listed.getD j true=false:=fun j h=>(iO h).1
 unfold lOp;rw[hi];obtain⟨q,T⟩:=jm V hi;dsimp only;rcases ui S (adN h) (fH q) T with⟨hw,s0,⟨s',e0,hop⟩,hX0⟩|⟨hw,s0,⟨s',e0,hno⟩,hX0⟩
 ·have hX':=bH e0 hX0
  rw[if_pos hw];by_cases hq:isQ o=true
  ·unfold AH at hop;rw[hq]at hop;dsimp only at hop;obtain⟨H1,F1,p,J⟩:=G2 hX' (fun g' H F hx=>yX hx o);obtain⟨z,d,B,_,O,W,N⟩:=A3 p q (Yc p q hop);obtain⟨X,rfl,hk⟩:=N;unfold Oper.wp;rw[O w (fun _ _=>rfl)];exact⟨fun _ _=>rfl,Pr,fun _ _ h=>h,C _ hk (a.put o.dst z) w H1 γ F1 Pr (bH (aO _ _ _) (p.put (fH q) W)) (k.mono f J)⟩
  have hp:∀b,Pr i b->∃x y,H b x=some y:=by
   rcases k i o hi u with h|h
   all_goals grind
  let g':G:=⟨g.nt,w,H,tot F s'.toS.m,g.out,g.ex,g.dfs⟩
  have M:RX g' s'.toS a w H γ F:=⟨hX'.mem,Fr.refl' rfl rfl rfl rfl (fun _ h=>h),hX'.nt,⟨hX'.df.1,hX'.df.2.1,jb hX'⟩,hX'.t⟩
  refine bY ?_ (fun x a' w' h=>?_) (FW (g:=g') (e:=e.cl) (Q:=PQ e.cl.pk) U (fun _ _ h=>h) q hop a w ⟨H,γ,F,M⟩)
  ·intro a' w' ⟨s2,hs2,I,n,A,c⟩;have l:=c.fr
   refine⟨fun b hb=>?_,Pr,fun _ _ h=>h,?_⟩
   ·obtain⟨x,y,L⟩:=hp b hb;have hc:=hX'.mem.agree b x y L
    refine l.block b ?_ ?_
    ·exact hc.lt
    show tot F s'.toS.m b=0
    rcases aj5 (tot F s'.toS.m b)with h|h
    ·exact h
    have:=hX'.mem.nofz b kQ1 x
    grind
   exact C _ hs2 a' w' I n A Pr ⟨c.mem,hX'.fr.trans l,c.nt,⟨c.df.1,c.df.2.1,hX'.df.2.2⟩,c.t⟩ (k.mono f l.hold)
  obtain⟨s2,⟨v,t,rfl,rfl,hv⟩,I,n,A,c⟩:=h;exact⟨t.clr.toS,rfl,E _ _ ⟨v,t.clr,rfl,rfl,hv⟩,I,n,A,Vh ⟨c.mem,hX'.fr.trans c.fr,c.nt,⟨c.df.1,c.df.2.1,hX'.df.2.2⟩,c.t⟩ rfl rfl⟩
 have hX':=bH e0 hX0
 rw[if_neg (by grind)];exact⟨Pr,fun _ _ h=>h,C _ hno (a.put o.dst undef) w H γ F Pr hX' (k.mono f (fun _ _ _ h=>h))⟩
theorem lc{s:St}{A:List Nat}{fz:Bool}:∀{a:List Nat},xl ops listed s a=some (i,A,fz) ->
  ∃o,ops[i]? = some o/\Bu ops listed i A fz=true/\(fz=true->lV s o=true)/\isQ o=true
 |[],h=>by cases h
 |j::r,h=>by
  simp only[xl]at h;split at h
  ·exact lc h
  rename_i o b;split at h
  ·exact lc h
  rename_i hq;split at h
  ·rename_i hf;split at h
   ·grind
   exact lc h
  split at h
  ·grind
  exact lc h
theorem G9{f:Nat->Prop}:∀{l:List Nat},Q8 f l->∀i∈l,f i
 |[i],h,j,hj=>by simp only[ajQ]at hj;subst hj;exact h
 |i::i'::r,h,j,hj=>by
  simp only[ajI]at hj;rcases hj with rfl|hj
  ·exact h.1
  exact G9 h.2 j (by grind)
theorem Tz{s:St}{x:Operand}(h:o.op=.load t x):B8 s o=s:=by grind [B8]
theorem tg(l:e.ok)(c:∀x s,PQ e.pk x s->Q x s)(f:lX g.nt ops=true)(hs:Region.noSelect ops=true)(r:∀t:St,k t->K t.toS) :
  ∀(fuel:Nat)(listed:Array Bool)(s:St),gM e ops fuel listed s k->AD e.P g ops Q K fuel listed s.toS
 |0,listed,s,h=>by
  grind [gM,Uf]
 |fuel+1,listed,s,h=>by
  simp only[gM]at h;split at h
  ·grind [Uf]
  rename_i G C hr;split at h
  ·rename_i i A fz hp;obtain⟨o,hi,v,hf,hq⟩:=lc hp;rw[hi]at h;dsimp only at h;obtain⟨B,E⟩:=jm f hi;split at h
   ·rename_i z;intro a w H γ F Pr u d;obtain⟨H1,F1,n,m⟩:=G2 u (fun g' H F hx=>yX hx o);refine FU (D:=fun s'=>gM e ops fuel (listed.setIfInBounds i true) s' k) f hs hi v (fun s' b=>tg l c f hs r fuel _ _ b) ?_ a w H1 γ F1 Pr n (d.mono (fun _ h=>h) m)
    grind [gT,Tz,lV]
   rename_i q z;refine FU (D:=fun s'=>gM e ops fuel (listed.setIfInBounds i true) s' k) f hs hi v (fun s' b=>tg l c f hs r fuel _ _ b) ?_
   grind
  intro a w H γ F Pr u d;refine⟨fun h0=>absurd (hr ▸ h0) (by simp),fun i hi=>?_⟩;have p:listed.getD i true=false:=(mem_ready.1 hi).1
  have j:=G9 h i (hr ▸ hi)
  cases y:ops[i]? with
  |none=>grind
  |some o=>
   rw[y]at j;exact Ug l c f p y (fun s b=>tg l c f hs r fuel _ s b) j u d
theorem Ur{id:Nat}{l:List Oper}(i:e.ok)(c:∀x s,PQ e.pk x s->Q x s)(hm:e.P.follows .mixedOrders=true)(d:lX g.nt l.toArray=true)(hs:Region.noSelect l.toArray=true){s:St}
  (f:∀t:St,k t->Q .normal t.toS) (h:gM e l.toArray l.toArray.size (Array.replicate l.toArray.size false) s k):AW e.P g (.region id l.toArray true) Q s.toS:=by
 intro a w m;refine wp_region_any hm (oR (Z:=Zx g Q) (Q:=fun a w=>∃s',Q .normal s'/\R g s' a w) (fun a w h=>h) (fun e a w h=>Zi h) _ _ (fun _ _=>False) _ _ ?_);obtain⟨H,γ,F,n⟩:=m;exact tg (Q:=Q) i c d hs f _ _ s h a _ H γ F _ (Vd n _ rfl rfl rfl rfl) (fun j o _ _=>.inr fun b hb=>hb.elim)
theorem G8{f f':Nat->Prop}(h:∀i,f i->f' i):∀{l:List Nat},Q8 f l->Q8 f' l
 |[],_=>trivial
 |[i],a=>h i a
 |i::i'::r,a=>⟨h i a.1,G8 h (l:=i'::r) a.2⟩
theorem ki(b:e.ok){k':St->Prop}:∀{fuel:Nat}{listed:Array Bool}{s:St},(∀s',Ext s s'->k s'->k' s')->gM e ops fuel listed s k->gM e ops fuel listed s k'
 |0,listed,s,hk,h=>by
  grind [gM,Ext.refl]
 |fuel+1,listed,s,hk,h=>by
  simp only[gM]at h⊢;split at h
  ·grind [Ext.refl]
  split at h
  ·split at h
   ·split at h
    ·exact FA (fun v hv=>ki b (fun s' a=>hk s' (((Gc _ _).trans (aA _ _ _)).trans a)) hv) h
    refine WM (fun s1 h1 hs1=>?_) (fun s1 h1 hs1=>ki b (fun s' a=>hk s' (h1.trans a)) hs1) h;split at hs1
    ·exact FA (fun v hv=>ki b (fun s' a=>hk s' ((h1.trans (aA _ _ _)).trans a)) hv) hs1
    omega
   omega
  refine G8 (fun i hi=>?_) h;split at hi
  ·exact WM (fun s1 h1 hs1=>Kv (e:=e.cl) b (fun s2 h2 hs2=>ki b (fun s' a=>hk s' ((h1.trans h2).trans a)) hs2) hs1) (fun s1 h1 hs1=>ki b (fun s' a=>hk s' (h1.trans a)) hs1) hi
  omega
end
def rG(N:List Nm):T->Prop
 |.pl p=>p.root∈N
 |.rf p=>p.root∈N
 |_=>True
def yn(N:List Nm):AV1->Prop
 |.c t=>rG N t
 |.agg ts=>∀t∈ts,rG N t
def Lq(N:List Nm):AV->Prop
 |.one x=>yn N x
 |.tup xs=>∀x∈xs,yn N x
 |.any=>True
def mA(r:Root):Root:=⟨r.blk,r.cells.map T.canon⟩
def nN(r a:Root):Prop:=a.blk=r.blk/\a.cells.length=r.cells.length/\∀(i:Nat)t t',r.cells[i]? = some t->a.cells[i]? = some t'->t'=t\/t'=t.canon
theorem nN.refl(r:Root):nN r r:=⟨rfl,rfl,fun i t t' h1 h2=>.inl (by grind)⟩
theorem nN.canon(r:Root):nN r (mA r):=⟨rfl,by simp[mA],fun i t t' h1 h2=>.inr (by grind [mA])⟩
theorem nN.of{r r':Root}(h:r'=r\/r'=mA r):nN r r':=by
 grind [nN.refl,nN.canon]
theorem sF:∀{m:Mm}{n:Nm}{r:Root},(m.map (·.1)).Nodup->(n,r)∈m->af m n=some r
 |[],_,_,_,h=>by cases h
 |(k,x)::m,n,r,hn,h=>by
  simp only[List.map_cons,akT]at hn;simp only[af];rcases ajI.1 h with h|h
  ·grind
  rw[if_neg (fun e=>hn.1 (by grind)),sF hn.2 h]
theorem Le{F:Nm->Fp}{b:Nat}:∀{m' m:Mm},(m'.map (·.1)).Nodup->(m.map (·.1)).Nodup->(∀x∈m',∃r,af m x.1=some r)->tot F m' b<=tot F m b
 |[],_,_,_,_=>aj0 _
 |x::m',m,h1,h2,h=>by
  simp only[List.map_cons,akT]at h1;obtain⟨r,hr⟩:=h x (by simp);have e:=mm (F:=F) hr b
  have ih:=Le (F:=F) (b:=b) (m':=m') (m:=bP m x.1) h1.2 (AA h2) (fun y hy=>by
   grind [m0])
  grind [tot]
section
variable {g:G} {a:Act} {w:World} {H:FH} {γ:Gam} {F:Nm->Fp}
theorem Lw{R a:T->Fp->Value->Prop}:∀{ts:List T}{ts':List T}{f:Fp}{vs:List Value},ts'.length=ts.length->(∀(i:Nat)t t' f v,ts[i]? = some t->ts'[i]? = some t'->R t f v->a t' f v)->Ts R ts f vs->Ts a ts' f vs
 |[],[],_,_,_,_,h=>h
 |t::ts,t'::ts',f,vs,hl,hi,h=>by
  obtain⟨v,r,f1,d,b,c,h1,h2⟩:=h;exact⟨v,r,f1,d,b,c,hi 0 t t' _ _ rfl rfl h1,Lw (by grind) (fun i=>hi (i+1)) h2⟩
theorem Vk{s s':S}(j:RX g s a w H γ F)(G:(s'.m.map (·.1)).Nodup)
  (hm:∀x∈s'.m,∃r,af s.m x.1=some r/\nN r x.2/\∀t∈r.cells,rG (s'.m.map (·.1)) t)
  (O:∀i,aV s'.t i=.any\/((aV s'.t i=aV s.t i\/aV s'.t i=(aV s.t i).map T.canon)/\Lq (s'.m.map (·.1)) (aV s.t i))):RX g s' a w H γ F:=by
 have hget:∀n,n∈s'.m.map (·.1)->∃r o,af s.m n=some r/\af s'.m n=some o/\nN r o:=by
  grind [sF]
 have cell:∀{r o:Root},nN r o->o.cells.length=r.cells.length/\∀(i:Nat)sub l,r.cells[i]? = some (.ow sub l)->o.cells[i]? = some (.ow sub l):=by
  rintro r o ⟨_,h2,h3⟩
  refine⟨h2,fun i sub l h=>?_⟩;have k:i<o.cells.length:=by grind
  rw[ajA k];rcases h3 i _ _ h (ajA k)with e|e
  ·rw[e]
  rw[e];rfl
 have pl:∀p,p.root∈s'.m.map (·.1)->bU s.m p->bU s'.m p:=by
  intro p hp h;obtain⟨r,o,A,C,u⟩:=hget _ hp;obtain⟨M,N⟩:=cell u;unfold bU at h⊢
  grind (splits:=20)
 have rf:∀p,p.root∈s'.m.map (·.1)->gU s.m p->gU s'.m p:=by
  intro p hp h;obtain⟨r,o,A,C,u⟩:=hget _ hp;obtain⟨M,N⟩:=cell u;unfold gU at h⊢;rw[A]at h;rw[C];dsimp only at h⊢;split at h
  ·grind
  ·rename_i l hc B;have k:p.off<o.cells.length:=by grind
   have K:o.cells[p.off]? = some (.mp l):=by
    rw[ajA k];rcases u.2.2 p.off _ _ hc (ajA k)with e|e
    ·rw[e]
    rw[e];rfl
   grind
  ·rename_i cur l hc B;have k:p.off<o.cells.length:=by grind
   have K:∃D,o.cells[p.off]? = some (.it D l):=by
    rw[ajA k];rcases u.2.2 p.off _ _ hc (ajA k)with e|e
    ·grind
    exact⟨none,by rw[e];rfl⟩
   grind
  all_goals grind
 have tr:∀{t:T}{f:Fp}{v:Value},rG (s'.m.map (·.1)) t->TR w H γ s.m t f v->TR w H γ s'.m t f v:=by
  intro t f v d h;cases t with
  |pl p=>exact⟨h.1,pl p d h.2.1,h.2.2⟩
  |rf p=>exact⟨h.1,rf p d h.2.1,h.2.2⟩
  |_=>exact h
 have L:∀{t:T}{f:Fp}{v:Value},rG (s'.m.map (·.1)) t->TR w H γ s.m t f v->TR w H γ s'.m t.canon f v:=by
  intro t f v d h;have h':=tr d h
  cases t with
  |nil=>exact⟨h'.1,(fe (w:=w) (H:=H) (γ:=γ) (m:=s'.m) .nil v ⟨fun _=>rfl,h'.2⟩).2⟩
  |it cur rest=>exact adB h'
  |_=>exact h'
 have I:∀b,tot F s'.m b<=tot F s.m b:=fun b=>Le G j.mem.keys (fun x hx=>by grind)
 refine⟨⟨j.mem.agree,fun x hx=>?_,G,fun b=>akQ (I b) (j.mem.le1 b),fun b hb=>j.mem.lt b (by grind),fun b hb=>j.mem.nofz b (by grind)⟩,
  ⟨j.fr.size,j.fr.os,j.fr.tape,j.fr.output,j.fr.block,j.fr.hold,j.fr.hnew,fun b hb=>j.fr.tt b (by grind),j.fr.nz⟩,j.nt,j.df,fun i=>?_⟩
 ·obtain⟨r,h1,h2,h3⟩:=hm x hx;have J:=j.mem.roots _ (ah h1)
  have q:=(cell h2).1
  have key:∀(i:Nat)t t' f v,r.cells[i]? = some t->x.2.cells[i]? = some t'->TR w H γ s.m t f v->TR w H γ s'.m t' f v:=by
   intro i t t' f v A C h;have d:=h3 t (akB A)
   rcases h2.2.2 i t t' A C with e|e
   all_goals grind
  have E:x.2.blk=r.blk:=h2.1
  unfold bv at J⊢;rw[E];split at J
  ·rename_i hb;rw[if_pos hb];obtain⟨b,cs,ty,fz,g',k1,k2,k3,k4,k5,k6⟩:=J;exact⟨b,cs,ty,fz,g',k1,k2,k3,by grind,Lw q key k5,k6⟩
  rename_i hb;rw[if_neg hb];obtain⟨v,t,k1,k2,k3⟩:=J;dsimp only at k2;rw[k2]at q key
  match hc:x.2.cells,q with
  |[t'],_=>exact⟨v,t',k1,rfl,key 0 t t' _ _ rfl (by grind) k3⟩
 rcases O i with h|⟨h,d⟩
 ·rw[h];trivial
 have hv:=j.t i
 have one:∀{x:AV1}{y:Value},yn (s'.m.map (·.1)) x->AR1 w H γ s.m x y->AR1 w H γ s'.m x y:=by
  intro x y d h;cases x with
  |c t=>exact tr d h
  |agg ts=>
   obtain⟨cs,A,C,u⟩:=h;refine⟨cs,A,C,Lw rfl (fun i t t' f v h1 h2 h=>?_) u⟩;rw[h1]at h2;obtain rfl:=Option.some.inj h2;exact tr (d t (akB h1)) h
 have all:AR w H γ s'.m (aV s.t i) (g.tv a i):=by
  revert hv d
  cases aV s.t i with
  |one x=>exact fun d hv=>one d hv
  |tup xs=>
   rintro d ⟨l,e,hl⟩
   refine⟨l,e,?_⟩;have:∀(xs:List AV1)(ys:List Value),(∀x∈xs,yn (s'.m.map (·.1)) x)->ARs w H γ s.m xs ys->ARs w H γ s'.m xs ys:=by
    intro xs;induction xs with
    |nil=>intro ys _ h;cases ys<;>exact h
    |cons x xs ih=>
     intro ys d h;cases ys with
     |nil=>exact h.elim
     |cons y ys=>exact⟨one (d x (by simp)) h.1,ih ys (fun z P=>d z (aj1 _ P)) h.2⟩
   exact this xs _ d hl
  |any=>exact fun _ _=>trivial
 grind [iC,fe]
end
variable{rs:List Nm}{s0:St}{σ:Sg}{J:FSp σ.sp->Prop}
section
variable {g:G} {a:Act} {w:World}
theorem Vo{s:S}{H:FH}{γ:Gam}{F:Nm->Fp}(h:RX g s a w H γ F):R g s a w:=⟨H,γ,F,h⟩
theorem zY(n:Nm):∀m:List (Nm×Nat×Rt),bJ (eM m n) n=none
 |[]=>rfl
 |(k,j,v)::m=>by
  simp only[eM];by_cases h:k=n
  ·rw[if_pos h];exact zY n m
  rw[if_neg h];simp only[bJ];rw[if_neg h];exact zY n m
theorem ME(s:St)(n:Nm):bJ (s.fresh n).m n=none:=by
 unfold St.fresh;split
 ·omega
 show bJ (b9 _ _ (eM s.m n)) n=none
 rw[Dg,zY];rfl
theorem Cm(s:St)(k:Nat)(sh:List Sh)(u:U):Ext s (DA s k sh u):=by
 unfold DA;split
 ·refine(bQ s (j8 k)).trans ⟨aj2 _,vr _ _ _ (ajB _),kf _ _ _ (ajB _)⟩
 ·split
  ·refine((tE s _).trans (bQ _ (j8 k))).trans ⟨aj2 _,vr _ _ _ (ajB _),kf _ _ _ (ajB _)⟩
  exact Ext.refl s
 exact Ext.refl s
theorem PA{s:St}(h:R g s.toS a w)(k:Nat)(sh:List Sh)(u:U):R g (DA s k sh u).toS a w:=by
 obtain⟨H,γ,F,b⟩:=h;have hn:=fT b
 unfold DA;split
 ·rename_i hv;obtain⟨γ',F',h'⟩:=Pw b k (j8 k) sh;refine CU ?_ (Vo h');unfold Tw;rw[jB hv];simp only[At.toV,A1.toV,Tt.toT];have e:af (s.toS.fresh (j8 k)).m (j8 k)=none:=by
   rw[<- bx hn,show(s.fresh (j8 k)).toS.m=toM (s.fresh (j8 k)).m from rfl,uh,ME];rfl
  rw[e];show SEq ⟨s8 (s.toS.fresh (j8 k)).t k _,_⟩ _
  rw[<- bx hn];refine⟨fun i=>?_,rfl⟩;show aV (s8 _ k _) i=aV ((k,_)::_) i
  rw[iP];rfl
 ·rename_i n hv;split
  ·rename_i c u' l' d hr;obtain⟨γ',F',h'⟩:=Pw b k (j8 k) sh;refine CU ?_ (Vo h');unfold Tw;rw[jB hv];simp only[At.toV,A1.toV,Tt.toT];rw[show af s.toS.m n=some (⟨false,[.ow c u' l'],none⟩:Rt).toR from bi hr];show SEq ⟨s8 ((s.toS.drop n).fresh (j8 k)).t k _,_⟩ _
   rw[<- bE hn,<- bx (Ps hn)];refine⟨fun i=>?_,rfl⟩;show aV (s8 _ k _) i=aV ((k,_)::_) i
   rw[iP];rfl
  exact⟨H,γ,F,b⟩
 exact⟨H,γ,F,b⟩
theorem dF(n:Nm)(us:List U):∀(sh:List Sh)(off:Nat)(s:St),Ext s (br s n us sh off)
 |[],_,s=>Ext.refl s
 |.ow sub::r,off,s=>by
  simp only[br];split
  ·split
   ·rename_i cells hr _ _ u hc a;have h1:Ext s ⟨s.nx+1,s.t,dj s.m n s.nx ⟨true,cells.set off (.ow sub u []),none⟩⟩:=⟨aj2 _,fun _ _ _ h _=>h,dq _ _ (ajB _) _⟩
    exact h1.trans (dF n us r (off+1) _)
   exact dF n us r (off+1) s
  exact Ext.refl s
 |.fr::r,off,s=>by
  simp only[br];split
  ·split
   ·exact(vw s _).trans (dF n us r (off+1) _)
   exact dF n us r (off+1) s
  exact Ext.refl s
theorem Pz{s:St}(h:R g s.toS a w)(q:Pl):R g (ug s q).toS a w:=by
 obtain⟨H,γ,F,b⟩:=h;obtain⟨H',F',h'⟩:=vC b q;exact⟨H',γ,F',h'⟩
theorem Py{s:St}(h:R g s.toS a w)(v:At):R g (fP s v).toS a w:=by
 obtain⟨H,γ,F,b⟩:=h;obtain⟨H',F',h'⟩:=gI b v;exact⟨H',γ,F',h'⟩
theorem dU(n:Nm)(us:List U):∀(sh:List Sh)(off:Nat){s:St},R g s.toS a w->R g (br s n us sh off).toS a w
 |[],_,_,h=>h
 |.ow sub::r,off,s,h=>by
  simp only[br];split
  ·rename_i cells hr;split
   ·rename_i u hc d;refine dU n us r (off+1) ?_;obtain⟨H,γ,F,c⟩:=h;have h':=Zf c n off sub
    have e:s.toS.ownR n off sub=(⟨s.nx+1,s.t,dj s.m n s.nx ⟨true,cells.set off (.ow sub u []),none⟩⟩:St).toS:=by
     unfold S.ownR;rw[show af s.toS.m n=some (⟨true,cells,none⟩:Rt).toR from bi hr];have b:(⟨true,cells,none⟩:Rt).toR.cells[off]? = some .nil:=by
      show(cells.map Tt.toT)[off]? = _
      rw[ajD,hc];rfl
     show(match(⟨true,cells,none⟩:Rt).toR.cells[off]? with|some .nil=>_|_=>_)=_
     rw[b];refine bE.S_ext rfl ?_;show _=toM (dj s.m n s.nx _)
     rw[fA]
     congr 1
     grind [Rt.toR,holed,ajZ,Tt.toT]
    grind [Vo]
   exact dU n us r (off+1) h
  omega
 |.fr::r,off,s,h=>by
  simp only[br];split
  ·split
   ·exact dU n us r (off+1) (Pz h _)
   exact dU n us r (off+1) h
  omega
theorem gY:∀(sp:List Sp)(s:St),Ext s (prep sp s)
 |[],s=>Ext.refl s
 |.sl k u::r,s=>(iD s _).trans (gY r _)
 |.ow k sh u::r,s=>(Cm s k sh u).trans (gY r _)
 |.rt n sh u::r,s=>(dF n _ (unmark sh) 0 s).trans (gY r _)
 |.mp _ _ _::r,s=>gY r s
 |.mo _ _ _::r,s=>gY r s
 |.it _ _ _::r,s=>gY r s
 |.gw _ _ _::r,s=>gY r s
theorem nQ:∀(sp:List Sp){s:St},R g s.toS a w->R g (prep sp s).toS a w
 |[],_,h=>h
 |.sl k u::r,_,h=>nQ r (Py h _)
 |.ow k sh u::r,_,h=>nQ r (PA h k sh u)
 |.rt n sh u::r,_,h=>nQ r (dU n _ (unmark sh) 0 h)
 |.mp _ _ _::r,_,h=>nQ r h
 |.mo _ _ _::r,_,h=>nQ r h
 |.it _ _ _::r,_,h=>nQ r h
 |.gw _ _ _::r,_,h=>nQ r h
mutual
theorem acF:∀{a b:Sh},ahT a b=true->a=b
 |.fr,.fr,_=>rfl
 |.ow a,.ow b,h=>by rw[jv (show nI a b=true from h)]
theorem jv:∀{a b:List Sh},nI a b=true->a=b
 |[],[],_=>rfl
 |a::r,b::q,h=>by
  simp only[nI,ai9]at h;rw[acF h.1,jv h.2]
end
def CL:List Tt->List C->Prop
 |[],[]=>True
 |t::ts,c::cs=>((t=.d c\/t=.d .nm/\∃k v,c=.mp k v none)\/(t=.nil/\∃u',c=.li u' []))/\CL ts cs
 |_,_=>False
theorem PJ{t:Tt}{x:El u}(h:BG u t=some x):(t=.d (ao u x)\/t=.d .nm/\∃k v,ao u x=.mp k v none)\/(t=.nil/\∃u',ao u x=.li u' []):=by
 unfold BG at h;split at h
 ·split at h
  ·simp only[ai8]at h;subst h;exact .inl (.inr ⟨rfl,_,_,rfl⟩)
  grind
 ·grind [dQ]
 ·split at h
  ·simp only[ai8]at h;subst h;exact .inr ⟨rfl,_,rfl⟩
  grind
 grind
theorem IG:∀{us:List U}{ts:List Tt}{x:Fl us},lO us ts=some x->CL ts (ff us x)
 |[],[],_,_=>trivial
 |u::r,c::cs,x,h=>by
  simp only[lO]at h;cases h1:BG u c with
  |none=>grind
  |some y=>
   cases h2:lO r cs with
   |none=>grind
   |some z=>
    rw[h1,h2]at h;simp only[ai8]at h;subst h;rw[ff,uj,ve];exact⟨PJ h1,IG h2⟩
 |[],_::_,_,h=>by simp[lO]at h
 |_::_,[],_,h=>by simp[lO]at h
theorem nX{x:El u}(h:lF u ts=some x):CL ts (flat u x):=by
 cases u with
 |st n=>
  simp only[lF]at h;cases h1:lO (sd n).fs ts with
  |none=>grind
  |some y=>
   rw[h1]at h;have:=Option.some.inj h
   subst this;show CL ts (ff (sd n).fs ((sd n).un ((sd n).mkF y)))
   rw[(sd n).l2];exact IG h1
 |_=>
  cases ts with
  |nil=>cases h
  |cons t r=>cases r with
   |nil=>rw[kj rfl];exact⟨PJ h,trivial⟩
   |cons _ _=>cases h
theorem yt:∀{ts:List Tt}{cs:List C},CL ts cs->(cs.map Tt.d).map Tt.toT=(ts.map Tt.toT).map T.canon/\∀N,∀t∈ts.map Tt.toT,rG N t
 |[],[],_=>⟨rfl,fun _ _ h=>by simp at h⟩
 |t::ts,c::cs,h=>by
  obtain⟨h1,h2⟩:=h;obtain⟨k1,k2⟩:=yt h2;simp only[List.map_cons,k1];rcases h1 with(rfl|⟨rfl,k,v,rfl⟩)|⟨rfl,u',rfl⟩
  ·exact⟨rfl,fun N t a=>by
    rcases ajI.1 a with rfl|a
    ·trivial
    grind⟩
  ·exact⟨rfl,fun N t a=>by
    rcases ajI.1 a with rfl|a
    ·trivial
    grind⟩
  exact⟨rfl,fun N t a=>by
   rcases ajI.1 a with rfl|a
   ·trivial
   grind⟩
 |[],_::_,h=>h.elim
 |_::_,[],h=>h.elim
theorem zF{x:El u}(h:pz u v=some x):(Bv u x).toV=v.toV.map T.canon/\∀N,Lq N v.toV:=by
 unfold pz at h;split at h
 ·rename_i y;unfold Wm at h;split at h
  ·rename_i t;split at h
   ·rename_i hl;have hc:=nX h
    rw[kj hl]at hc;obtain⟨k1,k2⟩:=yt hc;have e:(Bv u x)=sct (ao u x):=by cases u<;>first|rfl|cases hl
    rw[e];refine⟨?_,fun N=>k2 N t.toT (by simp)⟩
    grind [At.toV,A1.toV,AV.map,AV1.map]
   grind
  rename_i ts;split at h
  ·cases h
  rename_i hl;obtain⟨k1,k2⟩:=yt (nX h);have e:(Bv u x)=.one (.agg ((flat u x).map Tt.d)):=by cases u<;>first|rfl|cases hl
  rw[e];exact⟨by grind [At.toV,A1.toV,AV.map,AV1.map],fun N=>k2 N⟩
 grind
theorem yj:∀{sh:List Sh}{cells ts:List Tt}{cs:List C},gW sh cells=some ts->CL ts cs->(bg sh cs).map Tt.toT=(cells.map Tt.toT).map T.canon/\∀N,∀t∈cells.map Tt.toT,rG N t
 |[],[],ts,cs,h,hc=>by
  simp only[gW,ai8]at h;subst h;cases cs with
  |nil=>exact⟨rfl,fun _ _ h=>by simp at h⟩
  |cons _ _=>exact hc.elim
 |.ow s::r,c::cells,ts,cs,h,hc=>by
  cases c with
  |ow s' u l=>
   simp only[gW]at h;split at h
   ·rename_i ts' hs hr;simp only[ai8]at h;subst h;cases cs with
    |nil=>exact hc.elim
    |cons c cs=>
     obtain⟨h1,h2⟩:=hc;obtain⟨k1,k2⟩:=yj hr h2;rcases h1 with(h1|⟨h1,_⟩)|⟨h1,_⟩
     ·simp only[Tt.d.injEq]at h1;subst h1;rw[jv hs];simp only[bg,List.map_cons,k1];exact⟨rfl,fun N t a=>by
       rcases ajI.1 a with rfl|a
       ·trivial
       grind⟩
     all_goals grind
   grind
  |_=>simp[gW]at h
 |.fr::r,c::cells,ts,cs,h,hc=>by
  have f:∀{t:Tt}{ts':List Tt},c=t->gW r cells=some ts'->ts=t::ts'->(∃x,t=.d x)\/t=.nil->(bg (.fr::r) cs).map Tt.toT=((c::cells).map Tt.toT).map T.canon/\∀N,∀t∈(c::cells).map Tt.toT,rG N t:=by
   rintro t ts' rfl hr rfl hk
   cases cs with
   |nil=>exact hc.elim
   |cons b cs=>
    obtain⟨h1,h2⟩:=hc;obtain⟨k1,k2⟩:=yj hr h2;have e:bg (.fr::r) (b::cs)=.d b::bg r cs:=by rfl
    rw[e];simp only[List.map_cons,k1];rcases h1 with(rfl|⟨rfl,k,v,rfl⟩)|⟨rfl,u',rfl⟩
    ·exact⟨rfl,fun N t a=>by
      rcases ajI.1 a with rfl|a
      ·trivial
      grind⟩
    ·exact⟨rfl,fun N t a=>by
      rcases ajI.1 a with rfl|a
      ·trivial
      grind⟩
    exact⟨rfl,fun N t a=>by
     rcases ajI.1 a with rfl|a
     ·trivial
     grind⟩
  cases c<;>grind [gW]
 |[],_::_,_,_,h,_=>by simp[gW]at h
 |.ow _::_,[],_,_,h,_=>by simp[gW]at h
 |.fr::_,[],_,_,h,_=>by simp[gW]at h
theorem YG:∀{sh:List Sh}{cells ts:List Tt}{cs:List C},iB sh cells=some ts->CL ts cs ->
  (((dB sh cs).map Tt.toT).length=(cells.map Tt.toT).length/\∀(i:Nat)t t',(cells.map Tt.toT)[i]? = some t->((dB sh cs).map Tt.toT)[i]? = some t'->t'=t\/t'=t.canon)/\∀N,∀t∈cells.map Tt.toT,rG N t:=by
 intro sh;induction sh with
 |nil=>
  intro cells ts cs h hc;cases cells with
  |nil=>
   simp only[iB,ai8]at h;subst h;cases cs with
   |nil=>exact⟨⟨rfl,fun i t t' h=>by simp at h⟩,fun _ _ h=>by simp at h⟩
   |cons _ _=>exact hc.elim
  |cons _ _=>simp[iB]at h
 |cons s r ih=>
  intro cells ts cs h hc;cases cells with
  |nil=>grind [iB]
  |cons c cells=>
   have j:∀{t0:Tt}{g:C}{f:List C}{ts':List Tt},iB r cells=some ts'->CL ts' f->dB (s::r) (g::f)=t0::dB r f->(t0.toT=c.toT\/t0.toT=c.toT.canon)->(∀N,rG N c.toT) ->
     (((dB (s::r) (g::f)).map Tt.toT).length=((c::cells).map Tt.toT).length/\∀(i:Nat)t t',((c::cells).map Tt.toT)[i]? = some t->((dB (s::r) (g::f)).map Tt.toT)[i]? = some t'->t'=t\/t'=t.canon)/\∀N,∀t∈(c::cells).map Tt.toT,rG N t:=by
    grind
   cases s with
   |fr=>
    have m:∀{t:Tt}{ts':List Tt},c=t->iB r cells=some ts'->ts=t::ts'->(∃x,t=.d x)\/t=.nil->(((dB (.fr::r) cs).map Tt.toT).length=((c::cells).map Tt.toT).length/\∀(i:Nat)t t',((c::cells).map Tt.toT)[i]? = some t->((dB (.fr::r) cs).map Tt.toT)[i]? = some t'->t'=t\/t'=t.canon)/\∀N,∀t∈(c::cells).map Tt.toT,rG N t:=by
     rintro t ts' rfl hr rfl hk
     cases cs with
     |nil=>exact hc.elim
     |cons g cs=>
      have e:dB (.fr::r) (g::cs)=.d g::dB r cs:=by rfl
      obtain⟨h1,h2⟩:=hc;refine j hr h2 e ?_ ?_
      ·rcases h1 with(h1|⟨h1,k,v,h1'⟩)|⟨h1,u',h1'⟩
       ·grind
       ·rw[h1,h1'];exact .inl rfl
       rw[h1,h1'];exact .inr rfl
      intro N;rcases hk with⟨x,hx⟩|hx
      ·rw[hx];trivial
      rw[hx];trivial
    cases c with
    |d x=>
     grind [iB]
    |nil=>
     grind [iB]
    |_=>simp[iB]at h
   |ow a=>
    cases a with
    |nil=>
     cases c with
     |nil=>
      simp only[iB]at h;split at h
      ·rename_i ts' hr;simp only[ai8]at h;subst h;cases cs with
       |nil=>exact hc.elim
       |cons g cs=>exact j hr hc.2 rfl (.inl rfl) (fun N=>trivial)
      grind
     |_=>simp[iB]at h
    |cons a b=>
     cases c with
     |ow s' u l=>
      simp only[iB]at h;split at h
      ·rename_i ts' hs hr;simp only[ai8]at h;subst h;cases cs with
       |nil=>exact hc.elim
       |cons g cs=>
        obtain⟨h1,h2⟩:=hc;rcases h1 with(h1|⟨h1,_⟩)|⟨h1,_⟩
        ·simp only[Tt.d.injEq]at h1;subst h1;refine j hr h2 rfl (.inl ?_) (fun N=>trivial)
         grind [jv]
        all_goals grind
      grind
     |_=>simp[iB]at h
theorem kl(k:Nat):∀t:List (Nat×Nat×At),gtA t k=match cc t k with|some (_,v)=>v|none=>.any
 |[]=>rfl
 |(i,j,v)::t=>by
  simp only[gtA,cc];cases Nat.beq i k with
  |true=>rfl
  |false=>exact kl k t
theorem EK{t:Tt}(h:t.inR rs=true):rG rs t.toT:=by
 cases t with
 |pl p=>show p.root∈rs;grind [Tt.inR]
 |rf p=>show p.root∈rs;grind [Tt.inR]
 |_=>trivial
theorem WX{x:A1}(h:x.inR rs=true):yn rs x.toV:=by
 cases x with
 |c t=>exact EK h
 |agg ts=>
  intro t a;obtain⟨t',h1,rfl⟩:=ajX.1 a;exact EK (ajM.1 h t' h1)
theorem afO(h:x.inR rs=true):Lq rs x.toV:=by
 cases x with
 |one x=>exact WX h
 |tup xs=>
  intro t a;obtain⟨t',h1,rfl⟩:=ajX.1 a;exact WX (ajM.1 h t' h1)
 |any=>trivial
theorem PY{p:Nat->At->Prop}:∀{t:List (Nat×Nat×At)},(∀x∈t,p x.1 x.2.2)->∀i,gtA t i=.any\/p i (gtA t i)
 |[],_,_=>.inl rfl
 |(k,j,v)::t,h,i=>by
  simp only[gtA];cases hb:Nat.beq k i with
  |true=>simp_all
  |false=>exact PY (fun x hx=>h x (aj1 _ hx)) i
theorem q9{t:List (Nat×Nat×At)}:∀{ks:List Nat}{x:Nat×Nat×At},x∈Dl t ks->x.1∈ks/\cc t x.1=some x.2
 |[],x,h=>by simp[Dl]at h
 |k::r,x,h=>by
  simp only[Dl]at h;split at h
  ·rename_i j v hl;rcases ajI.1 h with rfl|h
   ·grind
   have:=q9 h;grind
  have:=q9 h;grind
theorem q8{t:List (Nm×Nat×Rt)}:∀{ks:List Nm}{x:Nm×Nat×Rt},x∈pT t ks->x.1∈ks/\cV t x.1=some x.2
 |[],x,h=>by simp[pT]at h
 |k::r,x,h=>by
  simp only[pT]at h;split at h
  ·rename_i j v hl;rcases ajI.1 h with rfl|h
   ·grind
   have:=q8 h;grind
  have:=q8 h;grind
theorem I0{s:St}:∀{ks:List Nat},aaJ s0 s rs ks=true->∀k∈ks,∃j v0 v,cc s0.t k=some (j,v0)/\cc s.t k=some (j,v)/\j<s0.nx/\v.inR rs=true
 |[],_,k,hk=>by grind
 |i::r,h,k,hk=>by
  simp only[aaJ,ai9]at h;rcases ajI.1 hk with rfl|hk
  ·have h1:=h.1
   split at h1
   ·rename_i j v0 j' v a b;simp only[ai9]at h1;have:=ajF h1.1.1
    simp_all
   grind
  exact I0 h.2 k hk
theorem zQ{s:St}:∀{ks:List Nm},Ss s0 s rs ks=true->∀k∈ks,∃j v0 v,cV s0.m k=some (j,v0)/\cV s.m k=some (j,v)/\j<s0.nx/\v.cells.all (·.inR rs)=true
 |[],_,k,hk=>by grind
 |i::r,h,k,hk=>by
  simp only[Ss,ai9]at h;rcases ajI.1 hk with rfl|hk
  ·have h1:=h.1
   split at h1
   ·rename_i j v0 j' v a b;simp only[ai9]at h1;have:=ajF h1.1.1
    simp_all
   grind
  exact zQ h.2 k hk
theorem IZ{s:St}:∀{ps:List (Nat×Nm×Nat)},aaI s rs ps=true->∀p∈ps,gtA s.t p.1=.one (.c (.pl ⟨p.2.1,p.2.2,[]⟩))/\p.2.1∈rs
 |[],_,p,hp=>by grind
 |(k,n,o)::r,h,p,hp=>by
  simp only[aaI,ai9]at h;rcases ajI.1 hp with rfl|hp
  ·grind [ajF]
  exact IZ h.2 p hp
theorem Aj{s:St}:∀{ks:List Nm},Ss s0 s rs ks=true->(pT s0.m ks).map (·.1)=ks
 |[],_=>rfl
 |k::r,h=>by
  have b:=h
  simp only[Ss,ai9]at h;obtain⟨j,v0,v,a,_⟩:=zQ b k (by simp);simp only[pT,a,List.map_cons,Aj h.2]
theorem gO(nx:Nat):∀(sp:List Sp)(x:FSp sp),(e8 nx sp x).map (·.1)=sp.flatMap Sp.rn
 |[],_=>rfl
 |.sl k u::r,x=>by simp only[e8,akE,Sp.rn,aj7];exact gO nx r _
 |.ow k sh u::r,x=>by simp only[e8,akE,Sp.rn,List.map_cons,akV];rw[gO nx r]
 |.rt n sh u::r,x=>by simp only[e8,akE,Sp.rn,List.map_cons,akV];rw[gO nx r]
 |.mp n ku vu::r,x=>by simp only[e8,akE,Sp.rn,List.map_cons,akV];rw[gO nx r]
 |.mo n ku vu::r,x=>by simp only[e8,akE,Sp.rn,List.map_cons,akV];rw[gO nx r]
 |.it n ku vu::r,x=>by simp only[e8,akE,Sp.rn,List.map_cons,akV];rw[gO nx r]
 |.gw n sh u::r,x=>by simp only[e8,akE,Sp.rn,List.map_cons,akV];rw[gO nx r]
theorem Dx:∀{l:List Nm},Fh l=true->l.Nodup
 |[],_=>List.nodup_nil
 |n::r,h=>by
  simp only[Fh,ai9,ajY,List.contains_eq_mem,decide_eq_false_iff_not]at h;exact akT.2 ⟨h.1,Dx h.2⟩
theorem zH{a b:U}{l:List (El ku×El vu)}{x:List (El a×El b)}(h:II ku vu a b l=some x):∃(c:ku=a)(d:vu=b),x=c ▸ d ▸ l:=by
 grind [II]
theorem Xl{s:St}{nx:Nat}:∀{sp:List Sp}{x:FSp sp},unS s sp=some x ->
  (∀y∈mC nx sp x,(y.2.2.toV=(gtA s.t y.1).toV\/y.2.2.toV=(gtA s.t y.1).toV.map T.canon)/\∀N,(∀n∈sp.flatMap Sp.rn,n∈N)->Lq N (gtA s.t y.1).toV) /\
  (∀y∈e8 nx sp x,∃r,bJ s.m y.1=some r/\nN r.toR y.2.2.toR/\∀N,∀t∈r.toR.cells,rG N t)
 |[],_,_=>⟨fun y h=>by simp[mC]at h,fun y h=>by simp[e8]at h⟩
 |p::r,x,h=>by
  simp only[unS]at h;cases h1:Lg s p with
  |none=>grind
  |some a=>
   cases h2:unS s r with
   |none=>grind
   |some b=>
    rw[h1,h2]at h;simp only[ai8]at h;obtain⟨A,B⟩:=Xl (nx:=nx) h2;cases p with
    |sl k u=>
     have d:FSp.hd (.sl k u) r x=a:=by grind [si]
     have hb:FSp.tl (.sl k u) r x=b:=by grind [sk]
     refine⟨fun y hy=>?_,fun y hy=>?_⟩
     ·simp only[mC,d,hb,ajI]at hy;rcases hy with rfl|hy
      ·obtain⟨k1,k2⟩:=zF (v:=gtA s.t k) h1
       grind
      grind
     grind [e8]
    |ow k sh u=>
     have d:FSp.hd (.ow k sh u) r x=a:=by grind [si]
     have hb:FSp.tl (.ow k sh u) r x=b:=by grind [sk]
     simp only[Lg]at h1;split at h1
     ·rename_i n g u' l hv hr;cases hn:decide (n=j8 k)<;>cases f:nI sh g<;>rw[hn,f]at h1
      ·cases h1
      ·cases h1
      ·cases h1
      have hn':n=j8 k:=by grind
      subst hn';obtain⟨e,rfl⟩:=jj h1;subst e;obtain rfl:=jv f;refine⟨fun y hy=>?_,fun y hy=>?_⟩
      ·simp only[mC,hb,ajI]at hy;rcases hy with rfl|hy
       ·refine⟨.inl (by rw[hv]),fun N hN=>?_⟩;rw[hv];exact hN _ (by grind [Sp.rn])
       grind
      simp only[e8,d,hb,ajI]at hy;rcases hy with rfl|hy
      ·exact⟨_,hr,nN.refl _,fun N t c=>by simp only[Rt.toR,holed,List.map_cons,List.map_nil,ajQ]at c;subst c;trivial⟩
      grind
     grind
    |mp n ku vu=>
     have d:FSp.hd (.mp n ku vu) r x=a:=by grind [si]
     have hb:FSp.tl (.mp n ku vu) r x=b:=by grind [sk]
     simp only[Lg]at h1;split at h1
     ·rename_i w q l hr;obtain⟨o,j,rfl⟩:=zH h1;subst o;subst j;refine⟨fun y hy=>?_,fun y hy=>?_⟩
      ·grind [mC]
      simp only[e8,d,hb,ajI]at hy;rcases hy with rfl|hy
      ·exact⟨_,hr,nN.refl _,fun N t c=>by simp only[Rt.toR,holed,List.map_cons,List.map_nil,ajQ]at c;subst c;trivial⟩
      grind
     grind
    |it n ku vu=>
     have d:FSp.hd (.it n ku vu) r x=a:=by grind [si]
     have hb:FSp.tl (.it n ku vu) r x=b:=by grind [sk]
     simp only[Lg]at h1;split at h1
     ·rename_i w q cur l hr;obtain⟨o,j,rfl⟩:=zH h1;subst o;subst j;refine⟨fun y hy=>?_,fun y hy=>?_⟩
      ·grind [mC]
      simp only[e8,d,hb,ajI]at hy;rcases hy with rfl|hy
      ·exact⟨_,hr,⟨rfl,rfl,fun i t t' h1 h2=>by
        cases i with
        |zero=>
         have o:T.it (cur.map (rJ _ _)) (l.map (rJ _ _))=t:=Option.some.inj h1
         have j:T.it none (l.map (rJ _ _))=t':=Option.some.inj h2
         subst o j;exact .inr rfl
        |succ i=>grind [Rt.toR,holed]⟩,fun N t c=>by simp only[Rt.toR,holed,List.map_cons,List.map_nil,ajQ]at c;subst c;trivial⟩
      grind
     grind
    |gw n sh u=>
     have d:FSp.hd (.gw n sh u) r x=a:=by grind [si]
     have hb:FSp.tl (.gw n sh u) r x=b:=by grind [sk]
     simp only[Lg]at h1;split at h1
     ·rename_i g u' l hr;cases f:nI sh g with
      |false=>grind
      |true=>
      rw[f]at h1;obtain⟨e,rfl⟩:=jj h1;subst e;obtain rfl:=jv f;refine⟨fun y hy=>?_,fun y hy=>?_⟩
      ·grind [mC]
      simp only[e8,d,hb,ajI]at hy;rcases hy with rfl|hy
      ·exact⟨_,hr,nN.refl _,fun N t c=>by simp only[Rt.toR,holed,List.map_cons,List.map_nil,ajQ]at c;subst c;trivial⟩
      grind
     grind
    |mo n ku vu=>
     have d:FSp.hd (.mo n ku vu) r x=a:=by grind [si]
     have hb:FSp.tl (.mo n ku vu) r x=b:=by grind [sk]
     simp only[Lg]at h1;split at h1
     ·rename_i w q l hr;obtain⟨o,j,rfl⟩:=zH h1;subst o;cases j;refine⟨fun y hy=>?_,fun y hy=>?_⟩
      ·grind [mC]
      simp only[e8,d,hb,ajI]at hy;rcases hy with rfl|hy
      ·exact⟨_,hr,nN.refl _,fun N t c=>by simp only[Rt.toR,holed,List.map_cons,List.map_nil,ajQ]at c;subst c;trivial⟩
      grind
     grind
    |rt n sh u=>
     have d:FSp.hd (.rt n sh u) r x=a:=by grind [si]
     have hb:FSp.tl (.rt n sh u) r x=b:=by grind [sk]
     simp only[Lg]at h1;split at h1
     ·rename_i cells hr;split at h1
      ·rename_i ts z;obtain⟨k1,k2⟩:=YG z (nX h1);refine⟨fun y hy=>?_,fun y hy=>?_⟩
       ·grind [mC]
       simp only[e8,d,hb,ajI]at hy;rcases hy with rfl|hy
       ·exact⟨_,hr,⟨rfl,k1.1,k1.2⟩,fun N t c=>k2 N t c⟩
       grind
      grind
     grind
def jn1(σ:Sg)(s0:St)(J:FSp σ.sp->Prop)(s:St):Prop:=σ.fit s0 s=true/\∃x,unS s σ.sp=some x/\J x
theorem W2{s1:St}(o:Ext s0 s1)(h:jn1 σ s0 J s1)(l:R g s1.toS a w):∃v,J v/\R g (σ.st s0 v).toS a w:=by
   obtain⟨hf,v,hv,h⟩:=h;refine⟨v,h,?_⟩;obtain⟨H,γ,F,D⟩:=l;simp only[Sg.fit,ai9]at hf;obtain⟨⟨⟨f1,G⟩,f3⟩,A⟩:=hf;obtain⟨l1,l2⟩:=Xl (nx:=s0.nx) hv;have b:(σ.st s0 v).toS.m.map (·.1)=σ.rn:=by
    show(toM (pT s0.m σ.kr++e8 s0.nx σ.sp v)).map (·.1)=_
    simp only[toM,akA];show(pT s0.m σ.kr++e8 s0.nx σ.sp v).map (·.1)=_
    rw[List.map_append,Aj A,gO];rfl
   refine⟨H,γ,F,Vk D (by grind [Dx]) (fun x hx=>?_) (fun i=>?_)⟩
   ·rw[b];obtain⟨y,hy,rfl⟩:=ajX.1 (show x∈toM (pT s0.m σ.kr++e8 s0.nx σ.sp v)from hx);rcases ajO.1 hy with hy|hy
    ·obtain⟨hk,hl⟩:=q8 hy;obtain⟨j,v0,c,s,q,C,K⟩:=zQ A y.1 hk;have u:=o.m _ _ _ q C
     rw[hl]at u;have E:=Option.some.inj u
     have I:bJ s1.m y.1=some y.2.2:=by grind [oo]
     refine⟨y.2.2.toR,bi I,nN.refl _,fun t z=>?_⟩;have k:y.2.2=c:=by rw[E]
     rw[k]at z;have B:=yP c.cells c.hole
     obtain⟨i,hi,hit⟩:=List.getElem_of_mem z;have d:=B.len
     have n:i<c.cells.length:=by
      have:(c.toR.cells).length=c.cells.length:=d
      omega
     rcases B.nth i _ t (ajA n) (by rw[<- hit];exact ajA hi)with e|⟨_,_,_,_,_,e,_⟩
     ·grind [EK]
     rw[e];trivial
    obtain⟨r,k1,k2,k3⟩:=l2 y hy;exact⟨r.toR,bi k1,k2,k3 _⟩
   rw[b];have key:∀y∈(σ.st s0 v).t,(y.2.2.toV=(gtA s1.t y.1).toV\/y.2.2.toV=(gtA s1.t y.1).toV.map T.canon)/\Lq σ.rn (gtA s1.t y.1).toV:=by
    intro y hy;rcases ajO.1 hy with hy|hy
    ·obtain⟨hk,hl⟩:=q9 hy
     grind [I0,Ext.t,kl,afO]
    rcases ajO.1 hy with hy|hy
    ·obtain⟨p,hp,rfl⟩:=ajX.1 hy;obtain⟨s,q⟩:=IZ G p hp;dsimp only;rw[s];exact⟨.inl rfl,q⟩
    grind [Sg.rn]
   have hs1:aV s1.toS.t i=(gtA s1.t i).toV:=dy i s1.t
   have f:aV (σ.st s0 v).toS.t i=(gtA (σ.st s0 v).t i).toV:=dy i (σ.st s0 v).t
   rw[hs1,f];rcases PY (p:=fun i v=>(v.toV=(gtA s1.t i).toV\/v.toV=(gtA s1.t i).toV.map T.canon)/\Lq σ.rn (gtA s1.t i).toV) key i with e|e
   ·rw[e];exact .inl rfl
   grind
theorem adS{s:St}(d:Ext s0 s)(h:jn σ s0 J s)(e:R g s.toS a w):∃v,J v/\R g (σ.st s0 v).toS a w:=by
 unfold jn at h;dsimp only at h;have c:=nQ (g:=g) (a:=a) (w:=w) σ.sp e
 have b:=d.trans (gY σ.sp s)
 split at h
 ·rename_i hf;split at h
  ·rename_i v hv;exact W2 b ⟨hf,v,hv,h⟩ c
  grind
 grind
theorem Dt{k:Nat}{y:Nat×At}:∀{t:List (Nat×Nat×At)},cc t k=some y->(k,y)∈t
 |[],h=>by cases h
 |(i,j,v)::t,h=>by
  simp only[cc]at h;split at h
  ·grind [ajF]
  exact aj1 _ (Dt h)
theorem Dr{k:Nm}{y:Nat×Rt}:∀{t:List (Nm×Nat×Rt)},cV t k=some y->(k,y)∈t
 |[],h=>by cases h
 |(i,j,v)::t,h=>by
  simp only[cV]at h;split at h
  ·grind
  exact aj1 _ (Dr h)
theorem pU(nx:Nat):∀(sp:List Sp)(x:FSp sp),(∀y∈mC nx sp x,y.2.1=nx)/\∀y∈e8 nx sp x,y.2.1=nx
 |[],_=>⟨fun y h=>by simp[mC]at h,fun y h=>by simp[e8]at h⟩
 |.sl k u::r,x=>by
  obtain⟨h1,h2⟩:=pU nx r (FSp.tl (.sl k u) r x);refine⟨fun y h=>?_,fun y h=>h2 y h⟩
  grind [mC]
 |.ow k sh u::r,x=>by
  obtain⟨h1,h2⟩:=pU nx r (FSp.tl (.ow k sh u) r x)
  grind [mC,e8]
 |.rt n sh u::r,x=>by
  obtain⟨h1,h2⟩:=pU nx r (FSp.tl (.rt n sh u) r x);refine⟨fun y h=>h1 y h,fun y h=>?_⟩
  grind [e8]
 |.mp n ku vu::r,x=>by
  obtain⟨h1,h2⟩:=pU nx r (FSp.tl (.mp n ku vu) r x);refine⟨fun y h=>h1 y h,fun y h=>?_⟩
  grind [e8]
 |.mo n ku vu::r,x=>by
  obtain⟨h1,h2⟩:=pU nx r (FSp.tl (.mo n ku vu) r x);refine⟨fun y h=>h1 y h,fun y h=>?_⟩
  grind [e8]
 |.it n ku vu::r,x=>by
  obtain⟨h1,h2⟩:=pU nx r (FSp.tl (.it n ku vu) r x);refine⟨fun y h=>h1 y h,fun y h=>?_⟩
  grind [e8]
 |.gw n sh u::r,x=>by
  obtain⟨h1,h2⟩:=pU nx r (FSp.tl (.gw n sh u) r x);refine⟨fun y h=>h1 y h,fun y h=>?_⟩
  grind [e8]
theorem yB(σ:Sg)(s:St)(x:FSp σ.sp):Ext s (σ.st s x):=by
 obtain⟨l1,l2⟩:=pU s.nx σ.sp x;refine⟨aj2 _,fun k j v h hj=>?_,fun n j r h hj=>?_⟩
 ·have hm:=Dt h
  rcases ajO.1 hm with hm|hm
  ·exact(q9 hm).2
  grind
 have hm:=Dr h
 rcases ajO.1 hm with hm|hm
 ·exact(q8 hm).2
 grind
end
def gS(nt:Nat):Code->Bool
 |.region _ ops false=>abU nt ops.toList ops.toList
 |.region _ ops true=>lX nt ops&&Region.noSelect ops
 |.seq a b=>gS nt a&&gS nt b
 |.cond (.tmp t) a b=>Nat.blt t 100000&&(gS nt a&&gS nt b)
 |.block _ a=>gS nt a
 |.loop a=>gS nt a
 |_=>true
def LQ(pk:PKt)(K:Kt):Exit->S->Prop
 |.normal,s=>∃t:St,s=t.toS/\K.n t
 |.exit i,s=>∃t:St,s=t.toS/\K.x i t
 |.ret,s=>∃t:St,s=t.toS/\K.r t
 |.panic c,s=>∃v,∃t:St,c=chn v/\s=t.toS/\pk v t
 |_,_=>False
theorem ac9{pk:PKt}{K:Kt}:∀x s,PQ pk x s->LQ pk K x s:=by
 rintro x s ⟨v,t,rfl,rfl,h2⟩
 exact⟨v,t,rfl,rfl,h2⟩
theorem aa4{s:St}{a:FSp σ.sp->Prop}(hj:∀v,J v->a v)(h:jn σ s0 J s):jn σ s0 a s:=by
 grind [jn]
theorem Au{α:Type}{b b':(α->Prop)->α->Prop}(hb:∀R a:α->Prop,(∀v,R v->a v)->∀v,b R v->b' a v):∀n v,oW b n v->oW b' n v
 |0,_,h=>h.elim
 |n+1,v,h=>hb _ _ (Au hb n) v h
theorem yk{e:En}(o:e.ok):∀(c:Code)(an:An)(s:St)(K K':Kt),(∀s',Ext s s'->K.n s'->K'.n s')->(∀i s',Ext s s'->K.x i s'->K'.x i s')->(∀s',Ext s s'->K.r s'->K'.r s')->wpT e an c s K->wpT e an c s K':=by
 intro c;induction c with
 |skip=>grind [wpT,Ext.refl]
 |exit i=>grind [wpT,Ext.refl]
 |ret=>grind [wpT,Ext.refl]
 |region id ops k=>
  intro an s K K' hn hx hr h;cases k<;>grind [wpT,AJ,ki]
 |seq a b d f=>
  intro an s K K' hn hx hr h;cases an with
  |s p q=>
   simp only[wpT]at h⊢;exact d p s ⟨fun s'=>wpT e (q.pick s') b s' K,K.x,K.r⟩ ⟨fun s'=>wpT e (q.pick s') b s' K',K'.x,K'.r⟩ (fun s1 h1 hs1=>f (q.pick s1) s1 K K' (fun s2 h2=>hn s2 (h1.trans h2)) (fun i s2 h2=>hx i s2 (h1.trans h2)) (fun s2 h2=>hr s2 (h1.trans h2)) hs1) hx hr h
  |j σ p q=>
   simp only[wpT]at h⊢;intro J l;refine d p s ⟨jn σ s J,K.x,K.r⟩ ⟨jn σ s J,K'.x,K'.r⟩ (fun s1 _ h=>h) hx hr (h J (fun v hv=>l v ?_));exact f q _ K K' (fun s2 h2=>hn s2 ((yB σ s v).trans h2)) (fun i s2 h2=>hx i s2 ((yB σ s v).trans h2)) (fun s2 h2=>hr s2 ((yB σ s v).trans h2)) hv
  |_=>grind [wpT]
 |cond t a b d f=>
  intro an s K K' hn hx hr h;cases an with
  |c p q=>
   cases t<;>grind [wpT]
  |_=>grind [wpT]
 |block id a d=>
  intro an s K K' hn hx hr h;cases an<;>grind [wpT]
 |loop a d=>
  intro an s K K' hn hx hr h;cases an with
  |lp σ p=>
   simp only[wpT]at h⊢;have g:=gY σ.sp s
   generalize prep σ.sp s=s1 at h g;split at h
   ·split at h
    ·obtain⟨n,hl⟩:=h;refine⟨n,Au (fun R w u v hv=>?_) n _ hl⟩
     grind [Ext.trans,yB,aa4]
    omega
   omega
  |un n p=>
   simp only[wpT]at h⊢;have key:∀n(s1:St),Ext s s1->uy (fun R s'=>wpT e p a s' ⟨R,K.x,K.r⟩) n s1->uy (fun R s'=>wpT e p a s' ⟨R,K'.x,K'.r⟩) n s1:=by
    intro n;induction n with
    |zero=>intro s1 _ h;exact h.elim
    |succ n ih=>
     intro s1 m h
     grind [uy,Ext.trans]
   grind [Ext.refl]
  |_=>grind [wpT]
 |_=>grind [wpT]
theorem yr{P:Program}{g:G}{c:Code}{Q Q':Exit->S->Prop}{s:S}(h:AW P g c Q s)(hq:∀e s' a w,Q e s'->R g s' a w->∃b,Q' e b/\R g b a w):AW P g c Q' s:=fun a w d=>
 Code.wp_mono (fun e a' w'⟨s',h1,h2⟩=>hq e s' a' w' h1 h2) (h a w d)
theorem o7{e:En}(A:e.ok)(hm:e.P.follows .mixedOrders=true){g:G}:∀(c:Code)(an:An)(s:St)(K:Kt),gS g.nt c=true->wpT e an c s K->AW e.P g c (LQ e.pk K) s.toS:=by
 intro c;induction c with
 |skip=>intro an s K hc h;simp only[wpT]at h;exact Y3 ⟨s,rfl,h⟩
 |exit i=>intro an s K hc h;simp only[wpT]at h;exact Y2 ⟨s,rfl,h⟩
 |ret=>intro an s K hc h;simp only[wpT]at h;exact aeA ⟨s,rfl,h⟩
 |region id ops N=>
  intro an s K hc h;obtain⟨l⟩:=ops;cases N with
  |false=>
   simp only[wpT]at h;exact QG (th A ac9 hc h (fun t f=>⟨t,rfl,f⟩))
  |true=>
   simp only[wpT]at h;simp only[gS,ai9]at hc;exact Ur A ac9 hm hc.1 hc.2 (fun t f=>⟨t,rfl,f⟩) h
 |seq a b k o=>
  intro an s K hc h;simp only[gS,ai9]at hc;cases an with
  |s p q=>
   simp only[wpT]at h;refine Us (AW.mono (k p s _ hc.1 h) (fun e' s' h'=>?_));cases e' with
   |normal=>obtain⟨t,rfl,f⟩:=h';exact o (q.pick t) t K hc.2 f
   |exit i=>exact h'
   |ret=>exact h'
   |panic c=>exact h'
   |_=>exact h'
  |j σ p q=>
   simp only[wpT]at h;have h1:=h _ (fun v hv=>hv)
   have h2:=yk A a p s ⟨jn σ s (fun v=>wpT e q b (σ.st s v) K),K.x,K.r⟩ ⟨fun s'=>Ext s s'/\jn σ s (fun v=>wpT e q b (σ.st s v) K) s',K.x,K.r⟩ (fun s' m u=>⟨m,u⟩) (fun _ _ _ h=>h) (fun _ _ h=>h) h1
   refine Us (AW.mono (k p s _ hc.1 h2) (fun e' s' h'=>?_));cases e' with
   |normal=>
    obtain⟨t,rfl,m,f⟩:=h';intro a' w' J;obtain⟨v,hv,d⟩:=adS m f J;exact o q _ K hc.2 hv a' w' d
   |exit i=>exact h'
   |ret=>exact h'
   |panic c=>exact h'
   |_=>exact h'
  |_=>grind [wpT]
 |cond t a b k o=>
  intro an s K hc h;cases an with
  |c p q=>
   cases t with
   |tmp t=>
    simp only[gS,ai9]at hc;simp only[wpT]at h;split at h
    ·rename_i c H;refine Y1 (jB H) (fun hb=>?_) (fun hb=>?_) (ajG hc.1)
     all_goals grind
    grind
   |_=>grind [wpT]
  |_=>grind [wpT]
 |block id a k=>
  intro an s K hc h;cases an with
  |b p=>
   simp only[wpT]at h;refine Uq (AW.mono (k p s _ hc h) (fun e' s' h'=>?_));cases e' with
   |normal=>exact h'
   |exit i=>
    obtain⟨t,rfl,f⟩:=h';simp only[L7];dsimp only at f;cases hb:Nat.beq i id with
    |true=>
     rw[hb]at f;rw[if_pos (ajF hb)];exact⟨t,rfl,f⟩
    |false=>
     rw[hb]at f;rw[if_neg (fun e=>by grind [Nat.beq_refl])];exact⟨t,rfl,f⟩
   |ret=>exact h'
   |_=>exact h'
  |_=>grind [wpT]
 |loop a k=>
  intro an s K hc h;cases an with
  |lp σ p=>
   simp only[wpT]at h;have z:∀a' w',R g s.toS a' w'->R g (prep σ.sp s).toS a' w':=fun a' w' J=>nQ σ.sp J
   generalize prep σ.sp s=s1 at h z;split at h
   ·rename_i hf;split at h
    ·rename_i M B;obtain⟨n,hl⟩:=h;intro a0 w0 D;have hj:jn1 σ s1 (fun v=>v=M) s1:=⟨hf,M,B,rfl⟩
     obtain⟨v,rfl,F⟩:=W2 (Ext.refl s1) hj (z _ _ D);refine OM (fun n y=>∃v,oW (fun R v=>wpT e p a (σ.st s1 v) ⟨jn σ s1 R,K.x,K.r⟩) n v/\y=(σ.st s1 v).toS) n ⟨v,hl,rfl⟩ (fun n y C=>?_) a0 w0 F
     ·obtain⟨v,hv,rfl⟩:=C;cases n with
      |zero=>exact hv.elim
      |succ n=>
       have h2:=yk A a p (σ.st s1 v) ⟨jn σ s1 (oW (fun R v=>wpT e p a (σ.st s1 v) ⟨jn σ s1 R,K.x,K.r⟩) n),K.x,K.r⟩ ⟨fun s'=>Ext (σ.st s1 v) s'/\jn σ s1 (oW (fun R v=>wpT e p a (σ.st s1 v) ⟨jn σ s1 R,K.x,K.r⟩) n) s',K.x,K.r⟩ (fun s' m u=>⟨m,u⟩) (fun _ _ _ h=>h) (fun _ _ h=>h) hv
       refine yr (k p _ _ hc h2) (fun e' s' a' w' h' d=>?_);cases e' with
       |normal=>
        obtain⟨t,rfl,m,f⟩:=h';obtain⟨Q,E,L⟩:=adS ((yB σ s1 v).trans m) f d;exact⟨_,⟨n,Nat.lt_succ_self n,Q,E,rfl⟩,L⟩
       |exit i=>exact⟨s',h',d⟩
       |ret=>exact⟨s',h',d⟩
       |panic c=>exact⟨s',h',d⟩
       |_=>exact h'.elim
    grind
   grind
  |un n p=>
   simp only[wpT]at h;refine OM (fun n y=>∃t:St,y=t.toS/\uy (fun R s'=>wpT e p a s' ⟨R,K.x,K.r⟩) n t) n ⟨s,rfl,h⟩ (fun n y C=>?_);obtain⟨t,rfl,f⟩:=C;cases n with
   |zero=>exact f.elim
   |succ n=>
    refine yr (k p t ⟨uy (fun R s'=>wpT e p a s' ⟨R,K.x,K.r⟩) n,K.x,K.r⟩ hc f) (fun e' s' a' w' h' d=>?_);cases e' with
    |normal=>
     obtain⟨O,rfl,I⟩:=h';exact⟨_,⟨n,Nat.lt_succ_self n,O,rfl,I⟩,d⟩
    |exit i=>exact⟨s',h',d⟩
    |ret=>exact⟨s',h',d⟩
    |panic c=>exact⟨s',h',d⟩
    |_=>exact h'.elim
  |_=>grind [wpT]
 |_=>grind [wpT]
def jU:(us:List U)->Fl us->List AV
 |[],_=>[]
 |u::r,x=>(Bv u (Fl.hd u r x)).toV::jU r (Fl.tl u r x)
def vI:(us:List U)->Fl us->List AV1
 |[],_=>[]
 |u::r,x=>(Ce u (Fl.hd u r x)).toV::vI r (Fl.tl u r x)
theorem vg(u:U)(x:El u):Bv u x=.one (Ce u x):=by cases u<;>rfl
theorem sx{x:El u}(h:pz u v=some x):v.noRf=true/\v.toV.isFz=true:=by
 have cl:∀{ts:List Tt}{cs:List C},CL ts cs->ts.all Tt.noRf=true/\(ts.map Tt.toT).all T.isFz=true:=by
  intro ts;induction ts with
  |nil=>grind
  |cons t ts ih=>
   intro cs hc;cases cs with
   |nil=>exact hc.elim
   |cons c cs=>
    obtain⟨h1,h2⟩:=ih hc.2;rcases hc.1 with(rfl|⟨rfl,_⟩)|⟨rfl,_⟩
    ·exact⟨by simp only[ajJ,h1];rfl,by simp only[List.map_cons,ajJ,h2];rfl⟩
    ·exact⟨by simp only[ajJ,h1];rfl,by simp only[List.map_cons,ajJ,h2];rfl⟩
    exact⟨by simp only[ajJ,h1];rfl,by simp only[List.map_cons,ajJ,h2];rfl⟩
 unfold pz at h;split at h
 ·unfold Wm at h;split at h
  ·split at h
   ·obtain⟨h1,h2⟩:=cl (nX h);refine⟨?_,?_⟩
    ·rename_i t _ _;show t.noRf=true;grind
    rename_i t _ _;show t.toT.isFz=true;grind
   grind
  split at h
  ·cases h
  obtain⟨h1,h2⟩:=cl (nX h);exact⟨h1,h2⟩
 grind
theorem kL:∀{us:List U}{vs:List At}{x:Fl us},cC us vs=some x->vs.all At.noRf=true/\(vs.map At.toV).all AV.isFz=true/\(vs.map At.toV).map (AV.map T.canon)=jU us x
 |[],[],_,_=>⟨rfl,rfl,rfl⟩
 |u::r,v::vs,x,h=>by
  simp only[cC]at h;cases h1:pz u v with
  |none=>grind
  |some a=>
   cases h2:cC r vs with
   |none=>grind
   |some b=>
    rw[h1,h2]at h;simp only[ai8]at h;subst h;obtain⟨c,d,e⟩:=kL h2
    grind [sx,jU,uj,ve,zF]
 |[],_::_,_,h=>by simp[cC]at h
 |_::_,[],_,h=>by simp[cC]at h
section
variable {P:Program}
theorem uE{s:St}{ops:List Operand}(h:ops.all aF=true):ops.map (ev s.toS)=(ops.map (evA s)).map At.toV:=by
 grind [ajN,aj]
theorem dS{s:St}:∀{rs:List ResultVar}{k:List At->Prop},(∀vs,¬ k vs)->¬ dA P s rs k
 |[],k,hk,h=>hk _ h
 |r::rs,k,hk,h=>by
  have key:∀v,¬ dA P s rs (fun vs=>k (v::vs)):=fun v=>dS fun vs=>hk _
  simp only[dA]at h;unfold mh at h;cases r with
  |tmp t=>simp_all
  |cell a t=>
   dsimp only at h;split at h
   ·split at h
    ·split at h
     ·exact loadT_false key h
     omega
    omega
   omega
where
 loadT_false {m:List (Nm×Nat×Rt)} {t:TypeId} {x:At} {k:At->Prop} (hk:∀v,¬ k v) (h:kY P m t x k):False:=by
  unfold kY at h
  grind
theorem mi{s:St}(hop:∀p i,gtA s.t i=.one (.c (.pl p))->okP (toM s.m) p):∀{rs:List ResultVar}{us:List U}{K:Fl us->Prop}{k:List At->Prop},(∀vs,k vs->∃x,cC us vs=some x/\K x)->dA P s rs k ->
  fK P s.toS rs (fun xs=>∃x:Fl us,xs.map (·.map T.canon)=vI us x/\xs.all AV1.isFz=true/\K x)
 |[],us,K,k,hk,h=>by
  obtain⟨x,hx,e⟩:=hk _ h;cases us with
  |nil=>exact⟨x,rfl,rfl,e⟩
  |cons u us=>grind [cC]
 |r::rs,us,K,k,hk,h=>by
  simp only[dA]at h;simp only[fK];have step:∀{v:At},dA P s rs (fun vs=>k (v::vs))->(match v.toV with
    |.one x=>fK P s.toS rs fun xs=>∃y:Fl us,(x::xs).map (·.map T.canon)=vI us y/\(x::xs).all AV1.isFz=true/\K y
    |_=>False):=by
   intro v hv;cases us with
   |nil=>grind [dS,cC]
   |cons u us=>
    cases hc:pz u v with
    |none=>grind [dS,cC]
    |some a=>
     obtain⟨g,_⟩:=zF hc;obtain⟨_,o⟩:=sx hc;have ih:=mi hop (us:=us) (K:=fun y=>K (Fl.cons u us a y)) (fun vs f=>by
      grind [cC]) hv
     rw[vg]at g;cases v with
     |one x=>
      refine resGets_mono ?_ ih;rintro xs ⟨y,A,w,e⟩
      refine⟨_,?_,?_,e⟩
      ·grind [vI,uj,ve,At.toV,AV.map]
      simp only[ajJ,w,alJ];exact o
     |tup _=>grind [pz]
     |any=>grind [pz]
  cases r with
  |tmp t=>
   simp only[mh]at h;simp only[wz];rw[show aV s.toS.t t=(gtA s.t t).toV from dy t s.t]
   grind
  |cell a t=>
   simp only[mh]at h;simp only[wz];split at h
   ·rename_i p hp;split at h
    ·split at h
     ·have hl:=Ar (m:=s.m) (x:=gtA s.t a) (fun q hq=>hop q a hq) h
      rw[show aV s.toS.t a=(gtA s.t a).toV from dy a s.t];refine loadK_mono ?_ hl
      grind
     grind
    grind
   grind
where
 loadK_mono {m:Mm} {t:TypeId} {x:AV} {k k':AV->Prop} (hk:∀v,k v->k' v) (h:uu P m t x k):uu P m t x k':=by
  unfold uu at h⊢;refine⟨h.1,?_⟩
  replace h:=h.2
  split at h
  ·grind
  ·split at h
   ·rename_i d;rw[if_pos d];exact atK_mono (fun ts b z=>hk _ (b z)) h
   rename_i d;rw[if_neg d];refine atK_mono (fun ts b=>?_) h
   grind
  omega
 atK_mono {m:Mm} {p:Pl} {n:Nat} {k k':List T->Prop} (hk:∀v,k v->k' v) (h:atK m p n k):atK m p n k':=by
  unfold atK at h⊢;split at h
  ·omega
  split at h
  ·grind
  ·exact inK_mono hk h
  omega
 inK_mono {k k':List T->Prop} (hk:∀v,k v->k' v):∀{path:List Step}{sub:List Sh}{l:List (List D)}{n:Nat},inK sub l n path k->inK sub l n path k'
  |[],_,_,_,h=>h.elim
  |[st],sub,l,n,h=>by
   grind [inK]
  |st::j::r,sub,l,n,h=>by
   simp only[inK]at h⊢;split at h
   ·split at h
    ·exact inK_mono hk h
    omega
   omega
 resGets_mono {s:S}:∀{rs:List ResultVar}{k k':List AV1->Prop},(∀v,k v->k' v)->fK P s rs k->fK P s rs k'
  |[],k,k',hk,h=>hk _ h
  |r::rs,k,k',hk,h=>by
   simp only[fK]at h⊢;have st:∀v:AV,(match v with|.one x=>fK P s rs fun xs=>k (x::xs)|_=>False)->(match v with|.one x=>fK P s rs fun xs=>k' (x::xs)|_=>False):=by
    intro v hv;cases v with
    |one x=>exact resGets_mono (fun xs=>hk _) hv
    |_=>exact hv
   cases r with
   |tmp t=>exact st _ h
   |cell a t=>exact loadK_mono st h
theorem Qp{s:S}{rs:List ResultVar}{us:List U}{K:AV->Prop}{Q:Fl us->Prop}(d:ig s rs=s)(f:∀x,Q x->K (dh us x).toV)(h:fK P s rs (fun xs=>∃x:Fl us,xs.map (·.map T.canon)=vI us x/\xs.all AV1.isFz=true/\Q x)):wA P s rs K:=by
 unfold wA;rw[d];refine mi.resGets_mono ?_ h;rintro xs ⟨x,b,e,hq⟩
 have c:=f x hq
 have a:∀(us:List U)(x:Fl us),(dh.resL us x).map A1.toV=vI us x:=by
  intro us;induction us with
  |nil=>intro _;rfl
  |cons u r ih=>grind [dh.resL,vI]
 match xs,e,us,x,b,c with
 |[],_,[],x,_,c=>exact⟨rfl,c⟩
 |[y],e,[u],x,b,c=>
  simp only[List.map_cons,List.map_nil,vI,List.cons.injEq,and_true]at b;refine⟨by grind,?_⟩;rw[b];have:(dh [u] x).toV=.one (Ce u (Fl.hd u [] x)).toV:=by show(Bv u x).toV=_;rw[vg];rfl
  grind
 |y::g::ys,e,u::v::r,x,b,c=>
  refine⟨e,?_⟩;rw[b,<- a];exact c
 |[],_,_::_,_,b,_=>grind [vI]
 |[_],_,[],_,b,_=>grind [vI]
 |[_],_,_::_::_,_,b,_=>grind [vI]
 |_::_::_,_,[],_,b,_=>grind [vI]
 |_::_::_,_,[_],_,b,_=>grind [vI]
end
section
variable {P:Program}
theorem Xu{k:At->Prop}(h:kY P m t x k):∃v,k v:=by
 grind [dS.loadT_false]
theorem XO{t:Tt}(h:t.owned=false):∀sub l,t.toT≠.ow sub l:=by
 cases t with
 |ow _ _ _=>cases h
 |_=>intro _ _ h;cases h
theorem zW{s:St}{r:Rt}(hr:bJ s.m n=some r)(a:r.hole=none)(hc:r.cells.all (fun t=>!t.owned)=true):∀i,oe s.toS n i=s.toS
 |0=>rfl
 |i+1=>by
  simp only[oe];rw[zW hr a hc i];unfold I8;have e:aT s.toS.m ⟨n,i,[]⟩=(r.cells.map Tt.toT)[i]? := by
   unfold aT;rw[show af s.toS.m n=some r.toR from bi hr];show(holed (r.cells.map Tt.toT) r.hole)[i]? = _
   rw[a];rfl
  grind [XO]
theorem sE{s:St}:∀{rs:List ResultVar}{us:List U}{k:List At->Prop},(∀vs,k vs->∃x,cC us vs=some x)->dA P s rs k->ig s.toS rs=s.toS
 |[],_,_,_,_=>rfl
 |r::rs,us,k,hk,h=>by
  simp only[dA]at h;have step:∀{v:At},dA P s rs (fun vs=>k (v::vs))->v.noRf=true/\ig s.toS rs=s.toS:=by
   intro v hv;cases us with
   |nil=>grind [dS,cC]
   |cons u us=>
    cases hc:pz u v with
    |none=>grind [dS,cC]
    |some a=>
     exact⟨(sx hc).1,sE (us:=us) (fun vs b=>by
      grind [cC]) hv⟩
  simp only[ig];cases r with
  |tmp t=>
   simp only[mh]at h;obtain⟨h1,h2⟩:=step h;have e:pK s.toS (.tmp t)=s.toS:=by
    simp only[pK];rw[show aV s.toS.t t=(gtA s.t t).toV from dy t s.t];exact vT h1
   grind
  |cell a t=>
   simp only[mh]at h;split at h
   ·rename_i p hp;split at h
    ·rename_i r hr;split at h
     ·rename_i hb;simp only[ai9,Option.isNone_iff_eq_none]at hb;obtain⟨v,hv⟩:=Xu h;have e:pK s.toS (.cell a t)=s.toS:=by
       simp only[pK];rw[jB hp]
       grind [At.toV,A1.toV,Tt.toT,zW]
      rw[e];exact(step hv).2
     grind
    grind
   grind
variable {g:G} {a:Act} {w:World}
theorem yY{s:St}(h:R g s.toS a w)(n:Nm):∀i,R g (zV s n i).toS a w
 |0=>h
 |i+1=>Pz (yY h n i) _
theorem Q2{s:St}(h:R g s.toS a w)(r:ResultVar):R g (EE s r).toS a w:=by
 cases r with
 |tmp t=>exact Py h _
 |cell a' t=>
  grind [EE,yY]
theorem sq:∀(rs:List ResultVar){s:St},R g s.toS a w->R g (kR s rs).toS a w
 |[],_,h=>h
 |r::rs,_,h=>sq rs (Q2 h r)
theorem adW{s:St}(h:R g s.toS a w):∀p i,gtA s.t i=.one (.c (.pl p))->okP (toM s.m) p:=by
 intro p i e;obtain⟨H,γ,F,b⟩:=h;have:=b.t i
 rw[jB e]at this;obtain⟨_,h1,_⟩:=this;exact NO h1
theorem FK{rs:List ResultVar}{us:List U}{KK:Fl us->Prop}{K:AV->Prop}{t:St}(e:∀r,KK r->K (dh us r).toV)(h:oZ P rs us KK t)(d:R g t.toS a w):∃b,wA P b rs K/\R g b a w:=by
 unfold oZ at h;have c:=sq rs d
 refine⟨_,Qp (us:=us) (Q:=KK) (sE (us:=us) ?_ h) e (mi (adW c) ?_ h),c⟩
 all_goals grind
theorem pF:∀(i:Nat)(us:List U)(x:Fl us),(BJ i us x).map (fun y=>(y.1,y.2.2.toV))=cJ i (jU us x)
 |_,[],_=>rfl
 |i,u::r,x=>by simp only[BJ,List.map_cons,jU,cJ,pF (i+1) r]
theorem gJ:∀(us:List U)(x:Fl us),(jU us x).length=us.length
 |[],_=>rfl
 |u::r,x=>by simp only[jU,ajK,gJ r]
end
def Ob(s:S)(rs:List ResultVar)(K:List Sh->List (List D)->Prop):Prop:=
 match rs with
 |[.tmp t]=>match aV s.t t with
  |.one (.c (.rf ⟨n,0,[]⟩))=>match af s.m n with
   |some ⟨false,[.ow sub l]⟩=>K sub l
   |_=>False
  |_=>False
 |_=>False
def ahP(rs:List ResultVar)(K:List Sh->List (List D)->Prop):Exit->S->Prop
 |.normal,s=>Ob s rs K
 |.ret,s=>Ob s rs K
 |_,_=>False
def XL(a:List AV->List Sh->List (List D)->(List (List D)->Prop)->Prop):CK1:=fun s ops k=>
 match ops with
 |[]=>False
 |o::os=>
  let s1:=oT s (os.map (ev s))
  match ev s1 o with
  |.one (.c (.rf ⟨r,0,[]⟩))=>match af s1.m r with
   |some ⟨false,[.ow sub l]⟩=>(os.map (ev s1)).all AV.isFz=true /\
     a (os.map fun x=>(ev s1 x).map T.canon) sub l (fun l'=>k ⟨nj (bq r) s1.t,(r,⟨false,[.ow sub l']⟩)::aJ (bq r) (bP s1.m r)⟩ (.one (.c (.rf ⟨r,0,[]⟩))))
   |_=>False
  |_=>False
section
variable {P:Program}
theorem Y5{f:Nat}{fn:Func}{c:Code}(hf:P.funcs[f]? = some fn) (aw:(fn.name == "runtime.NumGoroutine")=false) (hb:fn.body=some c) (φ:List AV->List Sh->List (List D)->(List (List D)->Prop)->Prop)
  (ak:∀C sub l K,φ C sub l K->C.length+1<=fn.ntmps)
  (U:∀(g:G)C sub l K,g.nt=fn.ntmps->φ C sub l K->AW P g c (ahP fn.results.toList (fun d l'=>d=sub/\K l')) ⟨cJ 0 (.one (.c (.rf ⟨.out 0,0,[]⟩))::C),[(.out 0,⟨false,[.ow sub l]⟩)]⟩):Con P f (XL φ):=by
 refine⟨fun args w=>?_,?_⟩
 ·simp_all[callFunc]
 intro g s a w H γ F ops k hX aN X;cases ops with
 |nil=>exact X.elim
 |cons o os=>
 unfold XL at X;dsimp only at X;obtain⟨H1,F1,h1⟩:=tM (os.map (ev s)) s H F hX;generalize oT s (os.map (ev s))=s1 at X h1;have L:aF o=true/\os.all aF=true:=by grind
 split at X
 rotate_left
 ·grind
 rename_i r aq;split at X
 rotate_left
 ·grind
 rename_i sub l E;obtain⟨hfz,al⟩:=X;have N:=aH h1 L.1
 rw[aq]at N;obtain⟨_,aM,aI⟩:=N;have hR:=h1.mem.roots _ (ah E)
 have ab:=hR
 unfold bv at ab;rw[if_neg (by simp)]at ab;obtain⟨v0,t0,hγr,z,aD⟩:=ab;simp only[List.cons.injEq,and_true]at z;subst z;have aG:a.eval o=v0:=by
  grind [plV,aB]
 have ao:=ak _ _ _ _ al
 rw[ajH]at ao
 let B:Gam:=fun n=>if n=.out 0 then .gh v0 else γ n
 let mc:Mm:=[(.out 0,⟨false,[.ow sub l]⟩)]
 let g1:G:=⟨fn.ntmps,w,H1,F1 r,fun _=>none,none,[]⟩
 have am:B (.out 0)=.gh v0:=by rfl
 have aT:bv w H1 B mc (.out 0) ⟨false,[.ow sub l]⟩ (F1 r):=by
  unfold bv;rw[if_neg (by simp)];exact⟨v0,_,am,rfl,aD⟩
 have aA:∀c,F1 r c<=tot F1 s1.m c:=fun c=>bC (F:=F1) (ah E) c
 let Fc:Nm->Fp:=fun _=>F1 r
 have Y:∀c,tot Fc mc c=F1 r c:=fun c=>(alO (F1 r c))
 have ax:Mem w H1 B mc Fc:=by
  refine⟨h1.mem.agree,fun x hx=>?_,by simp[mc],fun c=>by rw[Y];exact akQ (aA c) (h1.mem.le1 c),fun c hc=>by rw[Y]at hc;exact h1.mem.lt c (by grind),fun c hc=>by rw[Y]at hc;exact h1.mem.nofz c (by grind)⟩
  grind
 refine calls_of_wp hf hb (Code.wp_mono (fun e a' w' hl=>?_) (U g1 _ _ _ _ rfl al _ w ⟨H1,B,Fc,?_⟩))
 ·obtain⟨s',hq,H',γ',F',hX'⟩:=hl;have fin:Ob s' fn.results.toList (fun d l'=>d=sub/\k ⟨nj (bq r) s1.t,(r,⟨false,[.ow sub l']⟩)::aJ (bq r) (bP s1.m r)⟩ (.one (.c (.rf ⟨r,0,[]⟩)))) ->
    a'.defers=[]/\∃v,(results fn a'.tmps).run P w'=.ok v w'/\∃rr W av ae Q aE,Ending.returned v=.returned rr/\k W av/\AR w' ae Q W.m av rr/\RX g W a w' ae Q aE:=by
   intro hq;unfold Ob at hq;split at hq
   rotate_left
   ·grind
   rename_i t aU;split at hq
   rotate_left
   ·grind
   rename_i n az;split at hq
   rotate_left
   ·grind
   rename_i d l' O;obtain⟨rfl,hk⟩:=hq;have aj:(results fn a'.tmps).run P w'=.ok (a'.tmps.getD t undef) w':=by
    simp_all[ll,Array.mapM_eq_mapM_toList,lk]
   have M:AR w' _ _ _ _ (a'.tmps.getD t undef):=hX'.t t
   rw[az]at M;obtain⟨_,_,aS⟩:=M;have Z:=hX'.mem.roots _ (ah O)
   unfold bv at Z;rw[if_neg (by simp)]at Z;obtain⟨v1,t1,aL,ad,an⟩:=Z;simp only[List.cons.injEq,and_true]at ad;subst ad;have aQ:a'.tmps.getD t undef=v1:=by
    grind [plV,aB]
   have p:=hX'.fr
   dsimp only[g1]at p;have hd:=tK h1 r
   have ai:(s1.drop r).m=aJ (bq r) (bP s1.m r):=rfl
   have u:=hd.mem
   rw[ai]at u;generalize hmd0:aJ (bq r) (bP s1.m r)=md at u hk;have A:∀c,tot F1 md c+F1 r c=tot F1 s1.m c:=fun c=>by
    grind [bh,mm]
   have J:∀c,tot F1 md c≠0->w'.heap[c]? = w.heap[c]? := fun c hc=>
    p.block c (h1.mem.lt c (by grind)) (by have:=A c;have:=h1.mem.le1 c;omega)
   have S:∀c,c<w.heap.size->F1 r c=0->H1 c=H' c:=by
    intro c hc h0
    funext o
    cases hh:H1 c o with
    |some y=>rw[p.hold c o y hh]
    |none=>
     cases aP:H' c o with
     |none=>rfl
     |some y=>
      rcases p.hnew c o (by grind) hh with h'|h'
      all_goals omega
   have aa:=fa (w':=w') u J
   have ar:Mem w' H' γ md F1:=by
    refine⟨hX'.mem.agree,fun x hx=>aZ aa p.hold rfl (fun c hc=>J c (by grind [bC])) (u.roots x hx),u.keys,u.le1,fun c hc=>by grind [Mem.lt],fun c hc o=>?_⟩;rw[<- S c (u.lt c hc) (by have:=A c;have:=h1.mem.le1 c;omega)];exact u.nofz c hc o
   have I:af md r=none:=by rw[<- hmd0];exact Jc h1.mem.keys
   have aC:bv w' H' (upd γ r (.gh v1)) ((r,⟨false,[.ow d l']⟩)::md) r ⟨false,[.ow d l']⟩ (F' n):=by
    unfold bv;rw[if_neg (by simp)];exact⟨v1,_,dT,rfl,an⟩
   have aO:∀c,F' n c<=tot F' s'.m c:=fun c=>bC (F:=F') (ah O) c
   have ap:∀c,F' n c≠0->F1 r c≠0\/w.heap.size<=c:=fun c hc=>p.tt c (by grind)
   have V:∀c,F' n c≠0->tot F1 md c=0:=fun c hc=>by
    rcases ap c hc with h'|h'
    ·have:=A c;have:=h1.mem.le1 c;omega
    grind [Mem.lt]
   obtain⟨hM,aK⟩:=xS ar (n:=r) (rc:=.gh v1) (r:=⟨false,[.ow d l']⟩) (f:=F' n) I aC (fun c=>by
     by_cases hc:F' n c=0
     ·grind [Mem.le1]
     have:=V c hc;have:=hX'.mem.le1 c;grind)
    (fun c hc=>⟨hX'.mem.lt c (by grind),hX'.mem.nofz c (by grind)⟩)
   have au:Fr w H1 (tot F1 s1.m) w' H' (tot (upd F1 r (F' n)) ((r,⟨false,[.ow d l']⟩)::md)):=by
    refine⟨p.size,p.os,p.tape,p.output,fun c hc h0=>p.block c hc (by grind),p.hold,fun c o h2 h3=>?_,fun c hc=>?_,p.nz⟩
    all_goals grind
   have ay:KeepsB (bq r) w γ s1.m w' (upd γ r (.gh v1)) ((r,⟨false,[.ow d l']⟩)::md):=by
    have aR:=mQ (w:=w') (γ:=γ) (rc:=.gh v1) (r:=⟨false,[.ow d l']⟩) I
    have ag:KeepsB (bq r) w γ s1.m w γ md:=by grind [ea]
    constructor
    ·intro q R hq;obtain⟨k1,k2⟩:=ag.pl q R hq;obtain⟨k3,k4⟩:=aa.pl q k1
     grind [Keeps.pl]
    intro q R hq;obtain⟨k1,k2⟩:=ag.rf q R hq;obtain⟨k3,k4⟩:=aa.rf q k1
    grind [Keeps.rf]
   refine⟨hX'.df.1,_,aj,_,_,_,H',upd γ r (.gh v1),_,rfl,hk,?_,hM,h1.fr.trans au,h1.nt,⟨h1.df.1,fun j b e=>?_,h1.df.2.2⟩,fun i=>?_⟩
   ·refine⟨fun _=>rfl,?_,?_⟩
    all_goals grind [gU,af,plV,dT]
   ·have:=h1.df.2.1 j b e
    grind [mK]
   rw[oq];exact tu ay p.hold (h1.t i)
  cases e with
  |normal=>exact fin hq
  |ret=>exact fin hq
  |_=>exact hq.elim
 refine⟨ax,⟨ajB _,rfl,rfl,rfl,fun _ _ _=>rfl,fun _ _ _ h=>h,fun b o h2 h3=>absurd h3 h2,fun c hc=>.inl (by grind),oF⟩,?_,⟨rfl,fun i b' e=>by grind,jb h1⟩,fun i=>?_⟩
 ·grind
 have hget:∀x,(o::os)[i]? = some x->(((o::os).map a.eval).toArray++Array.replicate (fn.ntmps - ((o::os).map a.eval).toArray.size) undef).getD i undef=a.eval x:=by
  intro x hx;rw[akK,akL (by grind)]
  grind
 cases i with
 |zero=>
  rw[G.tv_none rfl,hget o rfl,aG];simp only[cJ,aV,if_true];refine⟨fun _=>rfl,?_,?_⟩
  all_goals grind [gU,af,plV]
 |succ i=>
  have ac:aV (cJ 0 (.one (.c (.rf ⟨.out 0,0,[]⟩))::os.map fun x=>(ev s1 x).map T.canon)) (i+1)=((os.map fun x=>(ev s1 x).map T.canon)[i]?).getD .any:=by
   grind [gN]
  show AR w H1 B mc (aV (cJ 0 (.one (.c (.rf ⟨.out 0,0,[]⟩))::os.map fun x=>(ev s1 x).map T.canon)) (i+1)) _
  rw[ac,ajD];cases hi:os[i]? with
  |none=>simp only[Option.map_none,Option.getD_none];trivial
  |some x=>
   have hx:=aH h1 (ajM.1 L.2 x (akB hi))
   simp only[Option.map_some,akP];have hz:(ev s1 x).isFz=true:=by
    grind
   rw[G.tv_none rfl,hget x (by grind)];exact iC fe (wK (fun _ _ _ h=>h) hz hx)
end
section
variable {α β γ' δ:Type} {P:Program} {f:Nat} {fn:Func} {co:Code}
def fo0(c:Rw α)(n:Nat)(pre:List α->Prop)(f:List α->List α):List AV->List Sh->List (List D)->(List (List D)->Prop)->Prop
 |[],sub,l,K=>match db c l with
  |some s=>sub=List.replicate n .fr/\pre s/\K ((f s).map c.enc)
  |_=>False
 |_,_,_,_=>False
def fo1(c:Rw α)(n:Nat)(a:Cd β)(pre:List α->β->Prop)(f:List α->β->List α):List AV->List Sh->List (List D)->(List (List D)->Prop)->Prop
 |[.one x],sub,l,K=>match db c l,a.dec x with
  |some s,some x=>sub=List.replicate n .fr/\pre s x/\K ((f s x).map c.enc)
  |_,_=>False
 |_,_,_,_=>False
def fo2(c:Rw α)(n:Nat)(a:Cd β)(b:Cd δ)(pre:List α->β->δ->Prop)(f:List α->β->δ->List α):List AV->List Sh->List (List D)->(List (List D)->Prop)->Prop
 |[.one x,.one y],sub,l,K=>match db c l,a.dec x,b.dec y with
  |some s,some x,some y=>sub=List.replicate n .fr/\pre s x y/\K ((f s x y).map c.enc)
  |_,_,_=>False
 |_,_,_,_=>False
end
attribute [push_cast] XL fo0 fo1 fo2 Ob ahP
variable{an:An}{ps:List U}
section
variable {P:Program} {g:G} {a:Act} {w:World} {H:FH} {γ:Gam} {F:Nm->Fp}
theorem Ed{m:Mm}{t:T}{f:Fp}{v:Value}(h:TR w H γ m t f v):rG (m.map (·.1)) t:=by
 have key:∀{n:Nm}{r:Root},af m n=some r->n∈m.map (·.1):=fun h=>List.mem_map_of_mem (f:=(·.1)) (ah h)
 cases t with
 |pl p=>
  obtain⟨_,h1,_⟩:=h;unfold bU at h1;split at h1
  ·grind
  rename_i hr;exact key hr
 |rf p=>
  obtain⟨_,h1,_⟩:=h;unfold gU at h1;split at h1
  ·grind
  rename_i hr;exact key hr
 |_=>trivial
theorem OI{m:Mm}{x:AV1}(h:AR1 w H γ m x y):yn (m.map (·.1)) x:=by
 cases x with
 |c t=>exact Ed h
 |agg ts=>
  obtain⟨cs,_,_,h1⟩:=h;intro t a;obtain⟨i,hi,e⟩:=List.getElem_of_mem a;obtain⟨v,g',_,h2,_⟩:=Ee h1 (i:=i) (t:=t) (by grind);exact Ed h2
theorem ad9{m:Mm}{x:AV}(h:AR w H γ m x y):Lq (m.map (·.1)) x:=by
 cases x with
 |one x=>exact OI h
 |tup xs=>
  obtain⟨l,_,h1⟩:=h;have:∀(xs:List AV1)(ys:List Value),ARs w H γ m xs ys->∀x∈xs,yn (m.map (·.1)) x:=by
   intro xs;induction xs with
   |nil=>grind
   |cons x xs ih=>
    intro ys h z a;cases ys with
    |nil=>exact h.elim
    |cons y ys=>
     rcases ajI.1 a with rfl|a
     ·exact OI h.1
     exact ih ys h.2 z a
  exact this xs _ h1
 |any=>trivial
theorem Vr{m:Mm}{r:Root}{f:Fp}(h:bv w H γ m n r f):∀t∈r.cells,rG (m.map (·.1)) t:=by
 intro t a;unfold bv at h;split at h
 ·obtain⟨b,cs,ty,fz,g',_,_,_,_,h1,_⟩:=h;obtain⟨i,hi,e⟩:=List.getElem_of_mem a;obtain⟨v,c,_,h2,_⟩:=Ee h1 (i:=i) (t:=t) (by grind);exact Ed h2
 grind [Ed]
theorem CR{s:S}(b:RX g s a w H γ F)(n:Nm):RX g ⟨s.t,s.m.map fun x=>(x.1,if x.1=n then mA x.2 else x.2)⟩ a w H γ F:=by
 have hk:(s.m.map fun x=>(x.1,if x.1=n then mA x.2 else x.2)).map (·.1)=s.m.map (·.1):=by simp_all
 refine Vk b (by rw[hk];exact b.mem.keys) (fun x hx=>?_) (fun i=>.inr ⟨.inl rfl,by rw[hk];exact ad9 (b.t i)⟩);rw[hk];obtain⟨y,hy,rfl⟩:=ajX.1 hx;refine⟨y.2,sF b.mem.keys hy,?_,Vr (b.mem.roots y hy)⟩
 grind [nN.canon,nN.refl]
theorem sA{sh:List Sh}{cells:List Tt}{j:Nm}(h:gW sh cells=some ts):(cells.map Tt.toT).all (T.self j)=true/\∀r:Nm,(cells.map Tt.toT).map (T.ren r j)=cells.map Tt.toT:=by
 induction cells generalizing sh ts with
 |nil=>grind
 |cons c cells ih=>
  cases sh with
  |nil=>simp[gW]at h
  |cons s sh=>
   have key:∀{ts'},gW sh cells=some ts'->(T.self j c.toT=true/\∀r,T.ren r j c.toT=c.toT)->((c::cells).map Tt.toT).all (T.self j)=true/\∀r:Nm,((c::cells).map Tt.toT).map (T.ren r j)=(c::cells).map Tt.toT:=by
    grind
   cases s with
   |fr=>
    cases c with
    |d x=>
     simp only[gW]at h;split at h
     ·rename_i hr;exact key hr ⟨rfl,fun _=>rfl⟩
     grind
    |nil=>
     simp only[gW]at h;split at h
     ·rename_i hr;exact key hr ⟨rfl,fun _=>rfl⟩
     grind
    |_=>simp[gW]at h
   |ow sub=>
    cases c with
    |ow s' u l=>
     simp only[gW]at h;split at h
     ·rename_i hr;exact key hr ⟨rfl,fun _=>rfl⟩
     grind
    |_=>simp[gW]at h
theorem DL{a b:Nm}:∀{ts:List T}{sh:List Sh}{cs:List C},ts.map T.canon=(bg sh cs).map Tt.toT->ts.map (T.ren a b)=ts
 |[],_,_,_=>rfl
 |t::ts,sh,cs,h=>by
  cases sh with
  |nil=>simp[bg]at h
  |cons s r=>cases cs with
   |nil=>grind [bg]
   |cons c cs=>
    have hd:∃t0:Tt,(∀p,t0≠.pl p)/\bg (s::r) (c::cs)=t0::bg r cs:=by
     cases s with
     |fr=>exact⟨.d c,(fun _ h=>by cases h),(by rfl)⟩
     |ow sub=>cases c with
      |li u l=>exact⟨.ow sub u l,(fun _ h=>by cases h),rfl⟩
      |_=>exact⟨.d _,(fun _ h=>by cases h),rfl⟩
    obtain⟨t0,h0,h1⟩:=hd;rw[h1]at h;simp only[List.map_cons,List.cons.injEq]at h;rw[List.map_cons,DL h.2]
    congr 1
    cases t with
    |pl p=>
     have:=h.1
     cases t0<;>grind [T.canon,Tt.toT]
    |_=>rfl
theorem ab8:∀(us:List U)(x:Fl us),(dh us x).toV.isFz=true:=by
 have one:∀(u:U)(x:El u),(Ce u x).toV.isFz=true:=by
  intro u x;cases u with
  |st n=>simp only[Ce,A1.toV,AV1.isFz,akA,List.all_map];exact ajM.2 fun _ _=>rfl
  |_=>rfl
 have all:∀(us:List U)(x:Fl us),((dh.resL us x).map A1.toV).all AV1.isFz=true:=by
  intro us;induction us with
  |nil=>intro _;rfl
  |cons u r ih=>grind [dh.resL]
 intro us x
 match us,x with
 |[],_=>rfl
 |[u],x=>show(Bv u x).toV.isFz=true;rw[vg];exact one u x
 |u::v::r,x=>exact all (u::v::r) x
theorem Lz(s:St)(k:Nat)(sh:List Sh)(u:U):Ext s (wj s k sh u):=by
 grind [wj,Cm,Ext.refl]
theorem Vn{s:St}(h:R g s.toS a w)(k:Nat)(sh:List Sh)(u:U):R g (wj s k sh u).toS a w:=by
 grind [wj,PA]
theorem Uz{e:En}(he:e.ok)(hm:e.P.follows .mixedOrders=true){f:Nat}{fn:Func}(hf:e.P.funcs[f]? = some fn) (z:(fn.name == "runtime.NumGoroutine")=false) (hb:fn.body.isSome=true)    {pre:List (El u)->Fl ps->Prop} {Fn:List (El u)->Fl ps->List (El u)}
  (B:Nat.ble (ps.length+1) fn.ntmps=true) (hc:gS fn.ntmps (fn.body.getD .skip)=true) (N:∀x y,pre x y->∀KK:List (El u)->Prop,KK (Fn x y)->VK e fn an u ps x y KK):Cont e.P f (abW u ps pre Fn):=by
 have O:fn.body=some (fn.body.getD .skip):=by cases h:fn.body<;>grind
 let V:List AV->List Sh->List (List D)->(List (List D)->Prop)->Prop:=fun p sub l K=>∃(x:List (El u))(y:Fl ps),p=jU ps y/\sub=List.replicate (nc u) .fr/\l=x.map (ap u)/\pre x y/\K ((Fn x y).map (ap u))
 have o:Con e.P f (XL V):=by
  refine Y5 hf z O V (fun p sub l K⟨x,y,hx,_⟩=>by rw[hx,gJ];exact ajG B) (fun g p sub l K hg⟨x,y,hx,G,hl,hp,hk⟩=>?_);subst hx;subst G;subst hl;have h:=N x y hp (fun r=>r=Fn x y) rfl
  have h1:=o7 (e:=⟨e.P,e.E,e.cs,e.sh,fun _ _=>False⟩) he hm (g:=g) _ an _ _ (by grind) h
  have e0:(⟨1,(0,0,.one (.c (.rf ⟨.out 0,0,[]⟩)))::BJ 1 ps y,[(.out 0,0,⟨false,[.ow (List.replicate (nc u) .fr) u x],none⟩)]⟩:St).toS=⟨cJ 0 (.one (.c (.rf ⟨.out 0,0,[]⟩))::jU ps y),[(.out 0,⟨false,[.ow (List.replicate (nc u) .fr) (x.map (ap u))]⟩)]⟩:=by
   refine bE.S_ext ?_ rfl;simp only[List.map_cons,cJ,pF];rfl
  rw[e0]at h1;refine AW.mono h1 (fun ex s' h'=>?_);have fin:∀t:St,Qq fn.results.toList u (fun r=>r=Fn x y) t->Ob t.toS fn.results.toList (fun C l'=>C=List.replicate (nc u) .fr/\K l'):=by
   intro t j;unfold Qq at j;unfold Ob;split at j
   ·rename_i tt U;rw[U];dsimp only;split at j
    ·rename_i n S;rw[jB S];simp only[At.toV,A1.toV,Tt.toT];split at j
     ·rename_i sh u' l hr;rw[show af t.toS.m n=some (⟨false,[.ow sh u' l],none⟩:Rt).toR from bi hr];split at j
      ·rename_i l' hs d;obtain⟨M,rfl⟩:=jj d;subst M;refine⟨jv hs,?_⟩
       grind
      grind
     grind
    grind
   grind
  cases ex with
  |normal=>obtain⟨t,rfl,j⟩:=h';exact fin t j
  |ret=>obtain⟨t,rfl,j⟩:=h';exact fin t j
  |exit i=>exact h'.elim (fun t j=>j.2.elim)
  |panic c=>obtain⟨_,_,_,_,hf⟩:=h';grind
  |_=>exact h'.elim
 refine⟨o.run,fun pk s ops k k' hk b=>?_,fun g pk s a w H γ F1 ops k hX I b=>?_⟩
 ·unfold abW at b⊢;split at b
  ·dsimp only at b⊢;split at b
   ·split at b
    ·split at b
     ·refine⟨b.1,hk _ _ ?_ b.2⟩;exact((Lz _ _ _ _).trans (d9 _ _)).trans ⟨aj2 _,gH (ajB _),((mN _).trans (dM (ajB _))).trans (kf _ _ _ (ajB _))⟩
     omega
    omega
   omega
  omega
 unfold abW at b;split at b
 ·rename_i t os;have A:os.all aF=true:=by
   grind
  dsimp only at b;obtain⟨H0,Q,F0,h0⟩:=Vn (Vo hX) t (List.replicate (nc u) .fr) u;generalize wj s t (List.replicate (nc u) .fr) u=s0 at b h0;obtain⟨H1,W,h1⟩:=iE (os.map (evA s0)) s0 H0 F0 h0;generalize cN s0 (os.map (evA s0))=s1 at b h1;have L:=fT h1
  split at b
  ·rename_i r R;split at b
   ·rename_i sh u' l q;split at b
    ·rename_i l' x hs d hx;obtain⟨M,rfl⟩:=jj d;subst M;obtain⟨X,c2,c3⟩:=kL hx;refine Calls.mono (o.call g s1.toS a w H1 Q W (.tmp t::os) (fun s' av=>∃t' J,s'=t'.toS/\av=J.toV/\k t' J) h1 I ?_) ?_
     ·unfold XL;dsimp only;rw[uE A,og X];rw[show ev s1.toS (.tmp t)=(evA s1 (.tmp t)).toV from dy t s1.t,R];simp only[At.toV,A1.toV,Tt.toT];rw[show af s1.toS.m r=some (⟨false,[.ow sh u' l],none⟩:Rt).toR from bi q];dsimp only[Rt.toR,holed,List.map_cons,List.map_nil,Tt.toT];refine⟨by grind [uE],l,x,?_,jv hs,rfl,b.1,_,_,?_,?_,b.2⟩
      ·have e:(os.map fun x=>(ev s1.toS x).map T.canon)=(os.map (ev s1.toS)).map (AV.map T.canon):=by rw[akA];rfl
       grind [uE]
      ·refine(bE.S_ext (ni _ _ _) ?_).symm;simp only[List.map_cons]
       congr 1
       have:=eB (bq r) s1.nx (eM s1.m r)
       rw[mY _ _ L]at this;exact this
      rfl
     rintro e' w' ⟨Z,s',av,H',γ',F',q1,⟨t',J,rfl,rfl,q4⟩,q5,Y⟩
     exact .inl ⟨Z,t',J,H',γ',F',q1,q4,q5,Y⟩
    grind
   grind
  grind
 grind
end
theorem VH(i k:Nat):Nat.beq (i+100000) (k+100000)=Nat.beq i k:=by
 cases h:Nat.beq i k<;>grind [ajF,Nat.beq_refl]
theorem J0(k:Nat)(t:List (Nat×Nat×At)):cc (shT t) (k+100000)=cc t k:=by
 induction t<;>grind [shT,cc,VH]
theorem Ka{k:Nat}(hk:k < 100000)(t:List (Nat×Nat×At)):cc (shT t) k=none:=by
 induction t<;>grind [ajF,shT,cc]
theorem Kc(k:Nat)(t:List (Nat×Nat×At)):cc (qt t) k=cc t (k+100000):=by
 induction t with
 |nil=>rfl
 |cons x r ih=>
  obtain⟨i,j,v⟩:=x;simp only[qt,cc];cases hb:Nat.ble 100000 i with
  |true=>
   have hi:100000<=i:=ajG hb
   have e:Nat.beq (i - 100000) k=Nat.beq i (k+100000):=by
    have:=VH (i - 100000) k
    rw[Nat.sub_add_cancel hi]at this;exact this.symm
   dsimp only;rw[cc,e];cases Nat.beq i (k+100000)with
   |true=>rfl
   |false=>exact ih
  |false=>
   have hi:¬ 100000<=i:=fun h=>by rw[Nat.ble_eq_true_of_le h]at hb;cases hb
   have e:Nat.beq i (k+100000)=false:=by
    cases h:Nat.beq i (k+100000)with
    |false=>rfl
    |true=>have:=ajF h;omega
   rw[e];exact ih
variable{b:List (Nat×Nat×At)}
theorem wd{nx k:Nat}:∀{l:List At}{i:Nat},i+l.length<=k->cc (BE nx i l++b) k=cc b k
 |[],_,_=>rfl
 |v::r,i,h=>by
  have e:Nat.beq i k=false:=by
   grind [ajF]
  simp only[BE,ak2,cc,e];exact wd (by grind)
theorem xj{nx k:Nat}:∀{l:List At}{i:Nat}{v:At},i<=k->l[k-i]? = some v->cc (BE nx i l++b) k=some (nx,v)
 |[],_,_,_,h=>by simp at h
 |v::r,i,x,hi,h=>by
  simp only[BE,ak2,cc];rcases Nat.lt_or_eq_of_le hi with a|rfl
  ·have e:Nat.beq i k=false:=by
    grind [ajF]
   rw[e];refine xj kQ1 ?_
   grind
  grind [Nat.beq_refl]
abbrev inS(s:St)(vs:List At):St:=⟨s.nx+1,BE s.nx 0 vs++shT s.t,s.m⟩
variable{vs:List At}
theorem aeC{s:St}(hl:vs.length<=100000)(h:Ext (inS s vs) s'):Ext s ⟨s'.nx,qt s'.t,s'.m⟩:=by
 refine⟨akQ (aj2 _) h.nx,fun k j v hk hj=>?_,fun n j r hk hj=>h.m n j r hk (Nat.lt_succ_of_lt hj)⟩;rw[Kc]at hk;have:=h.t _ j v hk (Nat.lt_succ_of_lt hj)
 grind [wd,J0]
theorem uk{P:Program}{s:St}{res:List ResultVar}{k k':St->At->Prop}(hl:vs.length<=100000)(hk:∀s' v,Ext s s'->k s' v->k' s' v)(a:Ext (inS s vs) s')(h:kU P res k s'):kU P res k' s':=by
 grind [kU,aeC]
variable{nt:Nat}{w':World}
section
variable {g:G} {a:Act} {w:World} {H:FH} {γ:Gam} {F:Nm->Fp}
theorem Pv{s:St}(b:RX g s.toS a w H γ F){ys:List Value}(hl:ys.length=vs.length)(hv:∀(i:Nat) (v:At) (y:Value),vs[i]? = some v->ys[i]? = some y->AR w H γ s.toS.m v.toV y)(h:vs.length<=nt)(f:nt<=100000) :
  RX ⟨nt,g.w0,g.H0,g.own0,g.out,some (g.tv a),[]⟩ (inS s vs).toS ⟨ys.toArray++Array.replicate (nt-ys.toArray.size) undef,[]⟩ w H γ F:=by
 have d:(ys.toArray++Array.replicate (nt-ys.toArray.size) undef).size=nt:=by grind
 refine⟨b.mem,b.fr,d,⟨rfl,b.df.2⟩,fun i=>?_⟩;rw[show aV (inS s vs).toS.t i=(gtA (BE s.nx 0 vs++shT s.t) i).toV from dy i _,kl];rcases akM i vs.length with hi|hi
 ·rw[xj (aj0 i) (v:=vs[i]) (by grind)];have c:i<ys.length:=by omega
  rw[G.tv_lt (by grind)];have e:(ys.toArray++Array.replicate (nt-ys.toArray.size) undef).getD i undef=ys[i]:=by
   simp_all[akL]
  rw[e];exact hv i _ _ (ajA hi) (ajA c)
 rw[wd kQ1];rcases akM i 100000 with hb|hb
 ·rw[Ka hb];trivial
 obtain⟨j,rfl⟩:∃j,i=j+100000:=⟨i - 100000,by omega⟩
 rw[J0,<- kl];have e:G.tv ⟨nt,g.w0,g.H0,g.own0,g.out,some (g.tv a),[]⟩ ⟨ys.toArray++Array.replicate (nt-ys.toArray.size) undef,[]⟩ (j+100000)=g.tv a j:=by
  unfold G.tv;dsimp only;rw[if_neg (by grind [TB])]
  simp_all[TB]
 rw[e,<- dy];exact b.t j
theorem aeH{s:St}(d:RX g s.toS a w H γ F){ops:List Operand}(b:ops.all aF=true)(e:ops.length<=nt)(c:nt<=100000) :
  RX ⟨nt,g.w0,g.H0,g.own0,g.out,some (g.tv a),[]⟩ (inS s (ops.map (evA s))).toS ⟨(ops.map a.eval).toArray++Array.replicate (nt - (ops.map a.eval).toArray.size) undef,[]⟩ w H γ F:=by
 refine Pv d (by simp) (fun i v y hv hy=>?_) (by grind) c;rw[ajD]at hv hy;obtain⟨x,hx,rfl⟩:=ajL.1 hv;rw[hx]at hy;obtain rfl:=Option.some.inj hy;have hop:=ajM.1 b x (akB hx)
 have:=aH d hop
 grind [aj]
theorem tO{s0:S}(b:RX g s0 a w H γ F)(c:nt<=100000){a':Act}{H':FH}{γ':Gam}{F':Nm->Fp}(h:RX ⟨nt,g.w0,g.H0,g.own0,g.out,some (g.tv a),[]⟩ s'.toS a' w' H' γ' F') :
  RX g (⟨s'.nx,qt s'.t,s'.m⟩:St).toS a w' H' γ' F':=by
 refine⟨h.mem,h.fr,b.nt,⟨b.df.1,h.df.2⟩,fun i=>?_⟩;rw[show aV (⟨s'.nx,qt s'.t,s'.m⟩:St).toS.t i=(gtA (qt s'.t) i).toV from dy i _,kl,Kc,<- kl,<- dy];have:=h.t (i+100000)
 have e:G.tv ⟨nt,g.w0,g.H0,g.own0,g.out,some (g.tv a),[]⟩ a' (i+100000)=g.tv a i:=by
  have hs:a'.tmps.size=nt:=h.nt
  unfold G.tv;dsimp only;rw[if_neg (by grind [TB])]
  simp_all[TB]
 rw[e]at this;exact this
theorem Xt{P:Program}{v:A1}(h:Xs P m t x=some v):kY P m t x (fun w=>w=.one v):=by
 unfold Xs at h;grind [kY]
theorem FG{P:Program}{s:St}(h:RX g s.toS a w H γ F):∀{rs:List ResultVar}{xs:List A1},KL P s rs=some xs->∃ys,(rs.mapM (lk a.tmps)).run P w=.ok ys w/\ARs w H γ (toM s.m) (xs.map A1.toV) ys/\ys.length=rs.length/\xs.length=rs.length
 |[],xs,e=>by
  simp only[KL,ai8]at e;subst e;exact⟨[],rfl,trivial,rfl,rfl⟩
 |.tmp t::r,xs,e=>by
  simp only[KL]at e;split at e
  ·rename_i x j h1 h2 h3;simp only[ai8]at e;subst e;obtain⟨ys,k1,k2,k3,k4⟩:=FG (P:=P) h h2;have b:=h.t t
   rw[show aV s.toS.t t=(gtA s.t t).toV from dy t s.t,h1,G.tv_lo (show t<TB from ajG h3)]at b;have i:((r.mapM (lk a.tmps)).run P w)=.ok ys w:=k1
   refine⟨a.tmps.getD t undef::ys,?_,⟨b,k2⟩,by simp[k3],by simp[k4]⟩
   simp_all[lk]
  grind
 |.cell c t::r,xs,e=>by
  simp only[KL]at e;split at e
  ·rename_i x j h1 h2 h3;simp only[ai8]at e;subst e;obtain⟨ys,k1,k2,k3,k4⟩:=FG (P:=P) h h2;have b:=h.t c
   rw[show aV s.toS.t c=(gtA s.t c).toV from dy c s.t,G.tv_lo (show c<TB from ajG h3)]at b;have hl:kY P s.m t (gtA s.t c) (fun v=>v=.one x):=Xt h1
   obtain⟨z,d,B,_,f,l,n,rfl,rfl⟩:=Aq (P:=P) h.mem (Ar (fun q hq=>by
    rw[hq]at b;exact NO b.2.1) hl) b
   replace f:=f w (fun _ _=>rfl)
   have i:((r.mapM (lk a.tmps)).run P w)=.ok ys w:=k1
   have k:(lk a.tmps (.cell c t)).run P w=.ok z w:=by
    simp only[lk];simp only[Instr.loadAt]at f;generalize a.tmps.getD c undef=u at f;cases u with
    |pointer ad=>
     cases ad with
     |some ad=>grind [asAddr,Instr.sureAddr]
     |none=>simp[Instr.sureAddr]at f
    |_=>simp[Instr.sureAddr]at f
   refine⟨z::ys,?_,⟨l,k2⟩,by simp[k3],by simp[k4]⟩
   simp_all
  grind
theorem P3{P:Program}{fn:Func}{s:St}{k:St->At->Prop}(h:RX g s.toS a w H γ F)(hk:kU P fn.results.toList k s) :
  ∃y v,(results fn a.tmps).run P w=.ok y w/\AR w H γ (toM s.m) v.toV y/\k ⟨s.nx,qt s.t,s.m⟩ v:=by
 unfold kU at hk;split at hk
 ·rename_i xs hx;obtain⟨ys,k1,k2,k3,k4⟩:=FG (P:=P) h hx;have b:(results fn a.tmps).run P w=.ok (if h:ys.toArray.size=1 then ys.toArray[0]else .tuple ys.toArray) w:=by
   simp_all[ll,Array.mapM_eq_mapM_toList]
  refine⟨_,_,b,?_,hk⟩
  match xs,ys,k2 with
  |[],[],_=>exact⟨#[],by simp,trivial⟩
  |[x],[y],k2=>exact k2.1
  |e::f::xs,d::c::ys,k2=>exact⟨(d::c::ys).toArray,by simp,by omega⟩
 grind
end
theorem s6{P:Program}{f:Nat}{fn:Func}(hf:P.funcs[f]? = some fn) (a:(fn.name == "runtime.NumGoroutine")=false) (hb:fn.body.isSome=true):∀args w,(callFunc f args).run P w=.ok (.enter f args) w:=by
 intro args w;have h1:fn.name ≠ "runtime.NumGoroutine" := by grind
 obtain⟨c,h⟩:=Option.isSome_iff_exists.1 hb
 simp_all[callFunc]
theorem F9{e:En}(B:e.ok)(hm:e.P.follows .mixedOrders=true){f:Nat}{fn:Func}(hf:e.P.funcs[f]? = some fn) (l:(fn.name == "runtime.NumGoroutine")=false) (hb:fn.body.isSome=true) 
  (hc:gS fn.ntmps (fn.body.getD .skip)=true) (r:Nat.ble fn.ntmps 100000=true):Cont e.P f (MJ e fn an):=by
 have z:fn.body=some (fn.body.getD .skip):=by cases h:fn.body<;>grind
 have d:=ajG r
 refine⟨s6 hf l hb,fun pk s ops k k' hk b=>?_,fun g pk s a w H γ F ops k A o b=>?_⟩
 ·unfold MJ at b⊢;split at b
  ·rename_i j;have hl:(ops.map (evA s)).length<=100000:=by rw[ajH];exact akQ (ajG j) d
   exact yk (e:=⟨e.P,e.E,e.cs,e.sh,fun v s=>pk v ⟨s.nx,qt s.t,s.m⟩⟩) B _ an _ ⟨kU e.P fn.results.toList k,fun _ _=>False,kU e.P fn.results.toList k⟩ ⟨kU e.P fn.results.toList k',fun _ _=>False,kU e.P fn.results.toList k'⟩ (fun s' u h=>uk hl hk u h) (fun _ _ _ h=>h) (fun s' u h=>uk hl hk u h) b
  omega
 unfold MJ at b;split at b
 ·rename_i j;have p:=ajG j
  refine calls_of_wp hf z (Code.wp_mono (fun x a' w' hl=>?_) (o7 (e:=⟨e.P,e.E,e.cs,e.sh,fun v s=>pk v ⟨s.nx,qt s.t,s.m⟩⟩) B hm (g:=⟨fn.ntmps,g.w0,g.H0,g.own0,g.out,some (g.tv a),[]⟩) _ an _ _ hc b _ w ⟨H,γ,F,aeH A o p d⟩));obtain⟨s',hq,H',γ',F',hX'⟩:=hl;have fin:∀t:St,s'=t.toS->kU e.P fn.results.toList k t->a'.defers=[]/\∃v,(results fn a'.tmps).run e.P w'=.ok v w'/\mX g a pk k (.returned v) w':=by
   rintro t rfl n
   obtain⟨y,v,k1,k2,k3⟩:=P3 (P:=e.P) hX' n;exact⟨hX'.df.1,y,k1,.inl ⟨y,_,v,H',γ',F',rfl,k3,k2,tO A d hX'⟩⟩
  cases x with
  |normal=>obtain⟨t,q,n⟩:=hq;exact fin t q n
  |ret=>obtain⟨t,q,n⟩:=hq;exact fin t q n
  |exit i=>obtain⟨t,q,n⟩:=hq;grind
  |panic c=>
   obtain⟨v,t,rfl,rfl,hv⟩:=hq;exact⟨hX'.df.1,.inr ⟨v,_,rfl,hv,H',γ',F',tO A d hX'⟩⟩
  |_=>exact hq.elim
 grind
theorem Ux{e:En}(M:e.ok)(hm:e.P.follows .mixedOrders=true){f:Nat}{fn:Func}(hf:e.P.funcs[f]? = some fn) (K:(fn.name == "runtime.NumGoroutine")=false) (hb:fn.body.isSome=true) 
  (hc:gS fn.ntmps (fn.body.getD .skip)=true) (J:Nat.ble fn.ntmps 100000=true):ContC e.P (f+1000000) (aaW e fn an):=by
 have L:fn.body=some (fn.body.getD .skip):=by cases h:fn.body<;>grind
 have j:=ajG J
 refine⟨by omega,by grind [s6],fun pk s ops k k' hk d=>?_,fun g pk s a w H γ F t ops k ps r A n l d=>?_⟩
 ·unfold aaW at d⊢;split at d
  ·rename_i _ os;split at d
   ·rename_i c N;split at d
    ·rename_i p;have hl:(os.map (evA s)++c.caps.map Z4).length<=100000:=by rw[ajR,ajH,ajH];exact akQ (ajG p) j
     exact yk (e:=⟨e.P,e.E,e.cs,e.sh,fun v s=>pk v ⟨s.nx,qt s.t,s.m⟩⟩) M _ an _ ⟨kU e.P fn.results.toList k,fun _ _=>False,kU e.P fn.results.toList k⟩ ⟨kU e.P fn.results.toList k',fun _ _=>False,kU e.P fn.results.toList k'⟩ (fun s' D h=>uk hl hk D h) (fun _ _ _ h=>h) (fun s' D h=>uk hl hk D h) d
    omega
   omega
  omega
 rw[Nat.add_sub_cancel]at l⊢;unfold aaW at d;dsimp only at d;split at d
 ·rename_i c N;split at d
  ·rename_i p;have O:=ajG p
   have h3:=r.t t
   rw[G.tv_lo n,show aV s.toS.t t=(gtA s.t t).toV from dy t s.t,N,l]at h3;obtain⟨_,m,h3⟩:=h3;cases m with
   |zero=>exact h3.elim
   |succ m=>
   obtain⟨z,h4,h5,h6⟩:=h3;obtain rfl:ps=z.toArray:=by grind
   rw[ajH]at h5;have u:(ops.map a.eval++z).length=(ops.map (evA s)++c.caps.map Z4).length:=by simp[h5]
   have I:=Pv r (vs:=ops.map (evA s)++c.caps.map Z4) (ys:=ops.map a.eval++z) u (fun i v y hv hy=>by
    rcases akM i ops.length with hi|hi
    ·rw[List.getElem?_append_left (by grind),ajD]at hv hy;obtain⟨x,hx,rfl⟩:=ajL.1 hv;rw[hx]at hy;obtain rfl:=Option.some.inj hy;have hop:=ajM.1 A x (akB hx)
     have:=aH r hop
     grind [aj]
    rw[List.getElem?_append_right (by grind)]at hv hy;simp only[ajH]at hv hy;rw[ajD]at hv;obtain⟨x,hx,rfl⟩:=ajL.1 hv;obtain⟨b,o,k1,k2⟩:=h6 _ x.enc y (by grind) hy;refine⟨fun _=>rfl,b,o,m,by omega,?_⟩;have e:(flat (.st (Eu x).1) (Eu x).2).map C.toD=x.enc:=by rw[bR];exact Wn x
    rw[e];exact k2) (by grind) j
   have q:(ops.map a.eval).toArray++z.toArray=(ops.map a.eval++z).toArray:=by simp
   rw[q];refine calls_of_wp hf L (Code.wp_mono (fun x a' w' hl=>?_) (o7 (e:=⟨e.P,e.E,e.cs,e.sh,fun v s=>pk v ⟨s.nx,qt s.t,s.m⟩⟩) M hm (g:=⟨fn.ntmps,g.w0,g.H0,g.own0,g.out,some (g.tv a),[]⟩) _ an _ _ hc d _ w ⟨H,γ,F,I⟩));obtain⟨s',hq,H',γ',F',hX'⟩:=hl;have fin:∀t:St,s'=t.toS->kU e.P fn.results.toList k t->a'.defers=[]/\∃v,(results fn a'.tmps).run e.P w'=.ok v w'/\mX g a pk k (.returned v) w':=by
    rintro t rfl n
    obtain⟨y,v,k1,k2,k3⟩:=P3 (P:=e.P) hX' n;exact⟨hX'.df.1,y,k1,.inl ⟨y,_,v,H',γ',F',rfl,k3,k2,tO r j hX'⟩⟩
   cases x with
   |normal=>obtain⟨t,B,n⟩:=hq;exact fin t B n
   |ret=>obtain⟨t,B,n⟩:=hq;exact fin t B n
   |exit i=>obtain⟨t,B,n⟩:=hq;grind
   |panic c=>
    obtain⟨v,t,rfl,rfl,hv⟩:=hq;exact⟨hX'.df.1,.inr ⟨v,_,rfl,hv,H',γ',F',tO r j hX'⟩⟩
   |_=>exact hq.elim
  grind
 grind
theorem UA{P:Program}{f t:Nat}{C D:CKt}(h1:Cont P f C)(h2:Cont P f D):Cont P f (acD t C D):=by
 refine⟨h1.run,fun pk s ops k k' hk hc=>?_,fun g pk s a w H γ F ops k c b hc=>?_⟩
 ·unfold acD at hc⊢;split at hc
  ·split at hc
   ·exact h1.ext pk s _ k k' hk hc
   exact h2.ext pk s _ k k' hk hc
  exact h2.ext pk s _ k k' hk hc
 unfold acD at hc
 grind [Cont.call,Cont.call]
section
variable {g:G} {s1:S} {a:Act} {w:World} {H1:FH} {γ:Gam} {F1:Nm->Fp}
theorem Zc(h1:RX g s1 a w H1 γ F1){w':World}{e:FH}{tt:Fp}(c:Fr w H1 (fun _=>0) w' e tt)(l:∀b o y,e b o=some y->RdV w' b o y):RX g s1 a w' e γ F1:=by
 have hold:∀b,b<w.heap.size->w'.heap[b]? = w.heap[b]? := fun b hb=>c.block b hb rfl
 have hnew:∀b,b<w.heap.size->H1 b=e b:=by
  intro b hb
  funext o
  cases hc:H1 b o with
  |some y=>rw[c.hold b o y hc]
  |none=>
   cases n:e b o with
   |none=>rfl
   |some y=>
    rcases c.hnew b o (by grind) hc with h'|h'
    all_goals omega
 have d:∀b,tot F1 s1.m b≠0->w'.heap[b]? = w.heap[b]? := fun b hb=>hold b (h1.mem.lt b hb)
 have j:=fa (w':=w') h1.mem d
 have f:Mem w' e γ s1.m F1:=by
  refine⟨l,fun x hx=>aZ j c.hold rfl (fun b hb=>d b (by grind [bC])) (h1.mem.roots x hx),h1.mem.keys,h1.mem.le1,fun b hb=>by have:=h1.mem.lt b hb;grind,fun b hb o=>?_⟩;rw[<- hnew b (h1.mem.lt b hb)];exact h1.mem.nofz b hb o
 have k:Fr w H1 (tot F1 s1.m) w' e (tot F1 s1.m):=
  ⟨c.size,c.os,c.tape,c.output,fun b hb _=>hold b hb,c.hold,fun b o h2 h3=>by
   grind,fun b hb=>.inl hb,c.nz⟩
 exact jS h1 f k (fun i=>dp j c.hold (h1.t i)) (fun _=>rfl)
theorem GY(c:∀b o y,H1 b o=some y->RdV w b o y)(a:Globs H1){args:List Value}{x:Fl ps}(hl:args.length=ps.length)(d:∀(i:Nat) v,(jU ps x)[i]? = some v->∃y,args[i]? = some y/\AR w H1 γ [] v y)(f:ps.length<=nt) :
  RX ⟨nt,w,H1,fun _=>0,fun _=>none,none,[]⟩ (EB ps x).toS ⟨args.toArray++Array.replicate (nt-args.toArray.size) undef,[]⟩ w H1 γ F1:=by
 rw[show(EB ps x).toS=⟨cJ 0 (jU ps x),[]⟩from bE.S_ext (pF 0 ps x) rfl];refine⟨⟨c,fun x hx=>(by cases hx),by simp,fun b=>aj0 _,fun b hb=>absurd rfl hb,fun b hb=>absurd rfl hb⟩,⟨ajB _,rfl,rfl,rfl,fun _ _ _=>rfl,fun _ _ _ h=>h,fun b o h2 h3=>absurd h3 h2,fun b hb=>absurd rfl hb,oF⟩,by simp;omega,⟨rfl,fun j b e=>by simp at e,a⟩,fun i=>?_⟩;show AR w H1 γ [] (aV (cJ 0 (jU ps x)) i) (Array.getD _ i undef)
 rw[gN];simp only[aj0,if_true,Nat.sub_zero];cases hi:(jU ps x)[i]? with
 |none=>trivial
 |some v=>
  obtain⟨y,h1,h2⟩:=d i v hi;have e:(args.toArray++Array.replicate (nt-args.toArray.size) undef).getD i undef=y:=by
   rw[akK,akL (by simpa using bT h1)];simp[h1]
  rw[e];exact h2
end
def Mo{α β γ:Type}(a:α->(β->Prop)->γ->Prop):Prop:=∀x K K' P,(∀y,K y->K' y)->a x K P->a x K' P
theorem D5{P:Program}{f:Nat}{rs:List U}{q:Fl ps->(Fl rs->Prop)->(Value->Prop)->Prop}(mo:Mo q)(j:∀args w,(callFunc f args).run P w=.ok (.enter f args) w)
  (c:∀(x:Fl ps)K t(args:List Value)(w:World)(H:FH)(γ:Gam),q x K t->args.length=ps.length->(∀(i:Nat)v,(jU ps x)[i]? = some v->∃y,args[i]? = some y/\AR w H γ [] v y)->Globs H->(∀b o y,H b o=some y->RdV w b o y) ->
   Calls P f args.toArray w (fun e w'=>∃d tt,Fr w H (fun _=>0) w' d tt/\(∀b o y,d b o=some y->RdV w' b o y)/\((∃r y,e=.returned r/\K y/\AR w' d γ [] (dh rs y).toV r)\/∃v,e=.panicked (chn v)/\t v))):Cont P f (phT ps rs q):=by
 refine⟨j,fun pk s ops k k' hk hc=>?_,fun g pk s a w H γ F1 ops k B l hc=>?_⟩
 ·unfold phT at hc⊢;dsimp only at hc⊢;split at hc
  ·exact mo _ _ _ _ (fun y hy=>hk _ _ (d9 _ _) hy) hc
  exact hc.elim
 unfold phT at hc;dsimp only at hc;obtain⟨H1,z,h1⟩:=iE (ops.map (evA s)) s H F1 B;generalize cN s (ops.map (evA s))=s1 at hc h1;split at hc
 ·rename_i x hx;obtain⟨C,D,u⟩:=kL hx;have hl:ops.length=ps.length:=by
   have:=congrArg List.length u
   grind [gJ]
  refine(c x _ _ (ops.map a.eval) w H1 γ hc (by simpa using hl) (fun i v hi=>?_) (jb h1) h1.mem.agree).mono ?_
  ·rw[<- u,ajD,ajD,ajD]at hi;cases m:ops[i]? with
   |none=>simp[m]at hi
   |some y=>
    have hop:=ajM.1 l y (akB m)
    have hy:=aH h1 hop
    rw[aj hop]at hy;have A:(evA s1 y).toV.isFz=true:=by grind
    rw[m]at hi;obtain rfl:=Option.some.inj hi;exact⟨a.eval y,by simp[m],iC fe (wK (fun _ _ _ h=>h) A hy)⟩
  rintro e w' ⟨d,tt,n,p,h⟩
  have hb:=Zc h1 n p
  rcases h with⟨r,y,rfl,hk,har⟩|⟨v,rfl,hk⟩
  ·exact .inl ⟨r,s1,_,d,γ,z,rfl,hk,wK (fun _ _ _ h=>h) (ab8 _ _) har,hb⟩
  exact .inr ⟨v,s1,rfl,hk,d,γ,z,hb⟩
 exact hc.elim
theorem yx{P:Program}{f:Nat}{rs:List U}{d b:Fl ps->(Fl rs->Prop)->(Value->Prop)->Prop}(mo:Mo b)(hi:∀x K e,b x K e->d x K e)(h:Cont P f (phT ps rs d)):Cont P f (phT ps rs b):=by
 have key:∀pk s ops k,phT ps rs b pk s ops k->phT ps rs d pk s ops k:=by
  intro pk s ops k hc;unfold phT at hc⊢;dsimp only at hc⊢;split at hc
  ·exact hi _ _ _ hc
  exact hc
 refine⟨h.run,fun pk s ops k k' hk hc=>?_,fun g pk s a w H γ F1 ops k i c hc=>h.call g pk s a w H γ F1 ops k i c (key _ _ _ _ hc)⟩;unfold phT at hc⊢;dsimp only at hc⊢;split at hc
 ·exact mo _ _ _ _ (fun y hy=>hk _ _ (d9 _ _) hy) hc
 exact hc.elim
theorem Qs{g:G}{P:Program}{fn:Func}{rs:List U}{K:Fl rs->Prop}{t:St}{a':Act}(i:oZ P fn.results.toList rs K t)(p:R g t.toS a' w')(h0:g.ex=none) :
  ∃v c tt y,(results fn a'.tmps).run P w'=.ok v w'/\Fr g.w0 g.H0 g.own0 w' c tt/\(∀b o y,c b o=some y->RdV w' b o y)/\K y/\(∀γ,AR w' c γ [] (dh rs y).toV v)/\a'.defers=g.dfs:=by
 obtain⟨s2,f,c,q,A,d⟩:=FK (K:=fun r=>∃y,r=(dh rs y).toV/\K y) (fun r hr=>⟨r,rfl,hr⟩) i p;obtain⟨y,v,x,l,z,s,e,k,n,j,m,u⟩:=FF d h0 f;refine⟨y,l,_,j,s,e.fr,e.mem.agree,u,fun γ=>?_,e.df.1⟩;rw[<- m];exact iC fe (wK (fun _ _ _ h=>h) n k)
theorem yv{e:En}(M:e.ok)(hm:e.P.follows .mixedOrders=true){f:Nat}{fn:Func}(hf:e.P.funcs[f]? = some fn) (g:(fn.name == "runtime.NumGoroutine")=false) (hb:fn.body.isSome=true)  {rs:List U} {q:Fl ps->(Fl rs->Prop)->(Value->Prop)->Prop} (mo:Mo q)
  (n:Nat.ble ps.length fn.ntmps=true) (hc:gS fn.ntmps (fn.body.getD .skip)=true) (p:∀x K l,q x K l->∃K' d,(∀y,K' y->K y)/\(∀v,d v->l v)/\zk e fn an ps rs x K' d):Cont e.P f (phT ps rs q):=by
 have A:fn.body=some (fn.body.getD .skip):=by cases h:fn.body<;>grind
 refine D5 mo (s6 hf g hb) fun x K l args w H γ hp hl G N B=>?_
 have hX0:=GY (F1:=fun _ _=>0) B N hl G (nt:=fn.ntmps) (ajG n)
 obtain⟨K',d,J,z,h⟩:=p x K l hp;refine calls_of_wp hf A (Code.wp_mono (fun ex a' w' hl=>?_) (o7 (e:=⟨e.P,e.E,e.cs,e.sh,fun v _=>d v⟩) M hm _ an _ _ hc h _ w ⟨H,γ,_,hX0⟩));obtain⟨s',hq,C⟩:=hl;have fin:∀t:St,s'=t.toS->oZ e.P fn.results.toList rs K' t->a'.defers=[]/\∃v,(results fn a'.tmps).run e.P w'=.ok v w'/\∃m tt,Fr w H (fun _=>0) w' m tt/\(∀b o y,m b o=some y->RdV w' b o y)/\((∃r y,Ending.returned v=.returned r/\K y/\AR w' m γ [] (dh rs y).toV r)\/∃u,Ending.returned v=.panicked (chn u)/\l u):=by
  rintro t rfl j
  obtain⟨v,m,tt,y,k,Q,D,I,O,L⟩:=Qs j C rfl;exact⟨L,v,k,m,tt,Q,D,.inl ⟨v,y,rfl,J y I,O γ⟩⟩
 cases ex with
 |normal=>obtain⟨t,k,j⟩:=hq;exact fin t k j
 |ret=>obtain⟨t,k,j⟩:=hq;exact fin t k j
 |exit i=>obtain⟨t,k,j⟩:=hq;exact j.elim
 |panic c=>
  obtain⟨v,t,rfl,rfl,hv⟩:=hq;obtain⟨H',γ',F',hX'⟩:=C;exact⟨hX'.df.1,H',_,hX'.fr,hX'.mem.agree,.inr ⟨v,rfl,z v hv⟩⟩
 |_=>exact hq.elim
theorem yw{e:En}(i:e.ok)(hm:e.P.follows .mixedOrders=true){f:Nat}{fn:Func}(hf:e.P.funcs[f]? = some fn) (a:(fn.name == "runtime.NumGoroutine")=false) (hb:fn.body.isSome=true)  {rs:List U} {g:Fl ps->(Fl rs->Prop)->(Value->Prop)->Prop} (mo:Mo g)
  (b:Nat.ble ps.length fn.ntmps=true) (hc:gS fn.ntmps (fn.body.getD .skip)=true) (d:∀x KK c,g x KK c->zk e fn an ps rs x KK c):Cont e.P f (phT ps rs g):=
 yv i hm hf a hb mo b hc fun x K c h=>⟨K,c,fun _ h=>h,fun _ h=>h,d x K c h⟩
theorem ON{P:Program}{f:Nat}{rs:List U}{F:Fl ps->Fl rs}(h:Cont P f (lg ps rs (fun _=>True) F)):Cont P f (sW ps rs F):=yx (fun _ _ _ _ h h'=>h _ h') (fun _ _ _ h=>⟨trivial,h⟩) h
end Go.Am
end

section
namespace Go.Am
open Go Go.RowKit Go.Proofs
variable{H:FH}{f:Nat}{l:a8}{ps rs:List U}{γ:Gam}{pre:Fl ps->Prop}
section
variable {P:Program}
theorem U5{w w':World}{a:FH}(hb:Below w.heap.size w w')(e:∀b o y,H b o=some y->a b o=some y)(hn:∀b o,a b o≠none->H b o=none->w.heap.size<=b)(d:∀b o x l c,a b o=some (.c (.slice x l c))->H b o=none->Thawed w' b):Fr w H (fun _=>0) w' a (fun _=>0):=
 ⟨hb.size,hb.os,hb.tape,hb.output,fun b h _=>hb.block b h,e,fun b o h2 h3=>.inr (hn b o h2 h3),fun b hb=>absurd rfl hb,fun b h0=>h0.of_block (hb.block b h0.lt),d⟩
theorem wL{post:Fl ps->Fl rs->Prop}(g:∀args w,(callFunc f args).run P w=.ok (.enter f args) w)
  (a:∀(x:Fl ps)(args:List Value)(w:World)(H:FH)(γ:Gam),pre x->args.length=(jU ps x).length->(∀(i:Nat)v,(jU ps x)[i]? = some v->∃y,args[i]? = some y/\AR w H γ [] v y)->Globs H ->
   (∀b o y,H b o=some y->RdV w b o y) ->
   Calls P f args.toArray w (fun e w'=>∃r d y,e=.returned r/\post x y/\Below w.heap.size w w'/\(∀b o y,H b o=some y->d b o=some y)/\(∀b o,d b o≠none->H b o=none->w.heap.size<=b)/\(∀b o x l c,d b o=some (.c (.slice x l c))->H b o=none->Thawed w' b) /\
    (∀b o y,d b o=some y->RdV w' b o y)/\AR w' d γ [] (dh rs y).toV r)):Cont P f (phT ps rs fun x K _=>pre x/\∀y,post x y->K y):=
 D5 (fun _ _ _ _ h h'=>⟨h'.1,fun y hy=>h y (h'.2 y hy)⟩) g fun x K p args w H γ hp hl k m j=>(a x args w H γ hp.1 (hl.trans (gJ ps x).symm) k m j).mono fun e w'⟨r,d,y,h1,hy,h2,h3,h4,n,h5,h6⟩=>⟨d,_,U5 h2 h3 h4 n,h5,.inl ⟨r,y,h1,hp.2 y hy,h6⟩⟩
theorem kz{F:Fl ps->Fl rs}(g:∀args w,(callFunc f args).run P w=.ok (.enter f args) w)
  (a:∀(x:Fl ps)(args:List Value)(w:World)(H:FH)(γ:Gam),pre x->args.length=(jU ps x).length->(∀(i:Nat)v,(jU ps x)[i]? = some v->∃y,args[i]? = some y/\AR w H γ [] v y)->Globs H ->
   (∀b o y,H b o=some y->RdV w b o y) ->
   Calls P f args.toArray w (fun e w'=>∃r d,e=.returned r/\Below w.heap.size w w'/\(∀b o y,H b o=some y->d b o=some y)/\(∀b o,d b o≠none->H b o=none->w.heap.size<=b)/\(∀b o x l c,d b o=some (.c (.slice x l c))->H b o=none->Thawed w' b) /\
    (∀b o y,d b o=some y->RdV w' b o y)/\AR w' d γ [] (dh rs (F x)).toV r)):Cont P f (lg ps rs pre F):=
 yx (fun _ _ _ _ h h'=>⟨h'.1,h _ h'.2⟩) (fun x K n h=>⟨h.1,fun y e=>e ▸ h.2⟩) (wL (post:=fun x y=>y=F x) g fun x args w H γ hp hl k m j=>(a x args w H γ hp hl k m j).mono fun e w'⟨r,d,h1,h⟩=>⟨r,d,_,h1,rfl,h⟩)
theorem mj{fn:Func}(hf:P.funcs[f]? = some fn) (a:(fn.name == "runtime.NumGoroutine")=false) (hb:fn.body.isSome=true) (args:Array Value) (w:World):(callFunc f args).run P w=.ok (.enter f args) w:=by
 have h1:fn.name ≠ "runtime.NumGoroutine" := by grind
 cases hc:fn.body with
 |none=>grind
 |some c=>simp_all[callFunc]
theorem lH{w:World}{y:Value}(h:AR w H γ [] (.one (.c (.d (.str l)))) y):y=.string ⟨l.toArray⟩/\l.length<=BIG:=by
 obtain⟨_,m,h⟩:=h;cases m<;>exact h
theorem Un{w:World}{m:Mm}(h:l.length<=BIG):AR w H γ m (.one (.c (.d (.str l)))) (.string ⟨l.toArray⟩):=⟨fun _=>rfl,0,rfl,h⟩
theorem qJ(l:a8):(⟨l.toArray⟩:ByteArray).data.toList=l:=by simp
theorem tZ(l:a8):(⟨l.toArray⟩:ByteArray).size=l.length:=by rfl
theorem PE{args:List Value}{x y:AV}{w:World}(hl:args.length=2)(a:∀(i:Nat) v,[x,y][i]? = some v->∃y,args[i]? = some y/\AR w H γ [] v y):∃u v,args=[u,v]/\AR w H γ [] x u/\AR w H γ [] y v:=by
 match args,hl with
 |[u,v],_=>
  obtain⟨u',h1,h2⟩:=a 0 x rfl;obtain⟨b,h3,h4⟩:=a 1 y rfl
  grind
theorem Ii(B:Nat)(w:World)(n:Nat):Below B w (w.drewN n):=⟨rfl,rfl,rfl,ajB _,fun _ _=>rfl⟩
theorem Di{w:World}(c:Globs H)(a:∀b o y,H b o=some y->RdV w b o y){k:Nat}(hk:abK=some k):∃n,w.cell? ⟨k,0,none⟩=some (.int .i64 n):=by
 obtain⟨n,m,h⟩:=c.2 k hk;obtain⟨y,h1,h2⟩:=h 0 (by simp);have h2:FD H m (.int .i64 n) y:=h2
 have:y=.int .i64 n:=by cases m<;>exact h2.1
 subst this;exact⟨n,a k 0 _ h1⟩
end
end Go.Am
end
