/-
  Part 15: AmIt · AmE3i · AmE5 · AmE6 · AmE7 · AmE8 · AmE9 · AmE10 · AmE11 · AmOwnCon · AmE12 · AmE14 · AmLib.
-/
import Derived.Test.YtgpedlcblhiklaaGreatDoorVo14
import Derived.Maps.RangeRun
set_option linter.unusedSimpArgs false
set_option linter.unusedVariables false
set_option linter.unusedSectionVars false
set_option linter.unnecessarySimpa false
section
namespace Go.Am
open MapKept
open Go.ChangeMaps (setBlock)
theorem Pv{H:FH}:∀{l:List (D×D)}{es:List MapEntry},ItL H l es->l.length=es.length
 |[],[],_=>rfl
 |_::_,_::_,h=>by simp[Pv h.2]
 |[],_::_,h=>h.elim
 |_::_,[],h=>h.elim
theorem Pu{H:FH}:∀{l:List (D×D)}{es:List MapEntry},ItL H l es->∀{i:Nat}{e:MapEntry},es[i]? = some e->∃x,l[i]? = some x/\x.1.isKey=true/\FDx H x.1 e.key/\FDx H x.2 e.val
 |x::l,e0::es,h,i,e,he=>by
  cases i with
  |zero=>
   obtain rfl:e0=e:=by grind
   exact⟨x,rfl,h.1⟩
  |succ i=>exact Pu h.2 (by grind)
 |[],[],_,i,e,he=>by grind
 |[],_::_,h,_,_,_=>h.elim
 |_::_,[],h,_,_,_=>h.elim
theorem C0{H:FH}:∀{l:List (D×D)}{es:List MapEntry},ItL H l es->∀i,ItL H (l.eraseIdx i) (es.eraseIdx i)
 |[],[],_,i=>by grind
 |x::l,e::es,h,i=>by
  cases i with
  |zero=>exact h.2
  |succ i=>exact⟨h.1,C0 h.2 i⟩
 |[],_::_,h,_=>h.elim
 |_::_,[],h,_=>h.elim
theorem zR:∀{L:List MapEntry}{i:Nat}{e:MapEntry},(L.map (·.born)).Nodup->L[i]? = some e->L.filter (fun x=>!(x.born==e.born))=L.eraseIdx i
 |[],i,e,_,h=>by rfl
 |x::L,i,e,hn,h=>by
  simp only[aiZ,aj3]at hn;cases i with
  |zero=>
   grind [List.filter_eq_self]
  |succ i=>
   have h:L[i]? = some e:=by grind
   have b:x.born≠e.born:=fun a=>hn.1 (a ▸ alI (akI h))
   simp only[List.filter_cons,List.eraseIdx_cons_succ];rw[if_pos (by grind),zR hn.2 h]
theorem Vj{H:FH}{m:Nat}:∀{l:List (D×D)}{es:List MapEntry},es.length=l.length->(∀(i:Nat)(x:D×D)(y:MapEntry),l[i]? = some x->es[i]? = some y->FD H m x.1 y.key/\FD H m x.2 y.val)->(∀e∈l,e.1.isKey=true)->ItL H l es
 |[],[],_,_,_=>trivial
 |x::l,e::es,hl,h,hk=>by
  have h0:=h 0 x e rfl rfl
  exact⟨⟨hk x (by simp),⟨m,h0.1⟩,m,h0.2⟩,Vj (by grind) (fun i a b c hb=>h (i+1) a b (by grind) (by grind)) (fun a c=>hk a (by simp[c]))⟩
 |[],_::_,h,_,_=>by simp at h
 |_::_,[],h,_,_=>by simp at h
variable{cur:Option (D×D)}{n:Nm}{rest:List (D×D)}
section
variable {P:Program} {g:G} {s:S} {a:Act} {w:World} {H:FH} {γ:Gam} {F:Nm->Fp}
theorem Vu(h:RX g s a w H γ F){z:Option (List (D×D))}{v:Value}(hv:FDx H (.mp z) v)(hk:∀e∈z.getD [],e.1.isKey=true)(hno:n.isOut=false)(hn:af s.m n=none){t kt et:TypeId}(i:P.underlying t=some (.map kt et)) :
  ∃w' γ' F',(Instr.range t v).run P w=.ok (.pointer (some ⟨w.heap.size,0,none⟩)) w'/\RX g ⟨s.t,(n,⟨false,[.it none (z.getD [])]⟩)::s.m⟩ a w' H γ' F'/\γ' n=.gh (.pointer (some ⟨w.heap.size,0,none⟩)):=by
 have d:∀o:Obj,(∃q a c,o=.mapIter q a #[] c/\ItR H none (z.getD []) q a #[] c)->∃γ' F',RX g ⟨s.t,(n,⟨false,[.it none (z.getD [])]⟩)::s.m⟩ a (w.alloc o) H γ' F'/\γ' n=.gh (.pointer (some ⟨w.heap.size,0,none⟩)):=by
  rintro o ⟨q,a',c,rfl,hi⟩
  have hold:∀k,k<w.heap.size->(w.alloc (.mapIter q a' #[] c)).heap[k]? = w.heap[k]? := fun k hk=>cU hk
  have h1:=o7 h (w':=w.alloc (.mapIter q a' #[] c)) (by simp) rfl rfl rfl (fun b hb=>.inl (hold b hb))
  have hz:tot F s.m w.heap.size=0:=by
   rcases ajZ (tot F s.m w.heap.size)with h'|h'
   ·exact h'
   ·have:=h.mem.lt w.heap.size kQ1;omega
  refine dQ h1 hno hn (v:=.pointer (some ⟨w.heap.size,0,none⟩)) (t:=.it none (z.getD [])) (f:=fun b=>if b=w.heap.size then 1 else 0) ⟨w.heap.size,q,a',#[],c,rfl,bC,hi,fun _=>rfl⟩ (fun b=>?_) (fun b hb=>?_) (fun b hb=>?_)
  ·by_cases e:b=w.heap.size
   ·grind
   ·rw[if_neg e];have:=h.mem.le1 b;omega
  ·have e:b=w.heap.size:=by
    grind
   subst e;refine⟨by simp,fun o=>?_⟩;cases hc:H w.heap.size o with
   |none=>rfl
   |some y=>have:=(h.mem.agree _ _ _ hc).lt;omega
  ·right
   have e:b=w.heap.size:=by
    grind
   have:=h.fr.size
   omega
 cases z with
 |none=>
  have hv:v=.map none:=by obtain⟨m,hv⟩:=hv;cases m<;>exact hv
  subst hv;obtain⟨γ',F',h1,h2⟩:=d (.mapIter none 0 #[] 0) ⟨_,_,_,rfl,rfl,rfl⟩;exact⟨_,γ',F',by simp_all[Instr.range,run_underlying],h1,h2⟩
 |some l=>
  obtain⟨m,hv⟩:=hv;cases m with
  |zero=>exact hv.elim
  |succ m=>
   obtain⟨b,es,ck,rfl,k2,k3,k4⟩:=hv;obtain⟨k5,k6⟩:=h.mem.agree b 0 _ k2;obtain⟨γ',F',h1,h2⟩:=d (.mapIter (some b) ck #[] ck) ⟨_,_,_,rfl,es,ck,k2,rfl,rfl,by rw[List.filter_eq_self.2 (fun e _=>by simp)];exact Vj k3 k4 hk,trivial⟩;exact⟨_,γ',F',by simp_all[Instr.range,run_underlying,getObj,Sem.run],h1,h2⟩
theorem adU(h:Mem w H γ s.m F)(hr:af s.m n=some ⟨false,[.it cur rest]⟩) :
  ∃r q x y c,γ n=.gh (.pointer (some ⟨r,0,none⟩))/\w.heap[r]? = some (.mapIter q x y c)/\ItR H cur rest q x y c/\∀k,F n k=if k=r then 1 else 0:=by
 have a:=h.roots _ (ak hr)
 unfold bZ at a;dsimp only at a;rw[if_neg (by simp)]at a;obtain⟨v,t,h1,h2,h3⟩:=a;obtain rfl:t=.it cur rest:=by grind
 obtain⟨r,q,x,y,c,rfl,k2,k3,k4⟩:=h3
 grind
theorem Q6(h:RX g s a w H γ F)(hr:af s.m n=some ⟨false,[.it cur rest]⟩)(ty:TypeId) :
  ∃v,γ n=.gh v/\((rest=[]/\(Instr.next v false ty).run P w=.ok (.tuple #[.bool false]) w) \/
   ∃i x ky vl w' F',i<rest.length/\rest[i]? = some x/\(Instr.next v false ty).run P w=.ok (.tuple #[.bool true,ky,vl]) w'/\FDx H x.1 ky/\FDx H x.2 vl /\
    RX g ⟨s.t,cM s.m n ⟨false,[.it (some x) (rest.eraseIdx i)]⟩⟩ a w' H γ F'):=by
 obtain⟨r,q,x,y,c,h1,h2,h3,h4⟩:=adU h.mem hr;refine⟨_,h1,?_⟩;cases q with
 |none=>
  obtain⟨rfl,rfl⟩:=h3;exact .inl ⟨rfl,by simp[Instr.next,getObj,Sem.run_bind,Sem.run,h2,Result.andThen]⟩
 |some b=>
  obtain⟨es,ck,k1,k2,k3,k4,k5⟩:=h3;obtain⟨k6,k7⟩:=h.mem.agree b 0 _ k1;have C:=(stamped_iff es ck).1 k7
  have M:(leftOf es y).toList=es.toList.filter fun e=>!y.contains e.born:=by simp[leftOf]
  rcases run_next_at (P:=P) w ty r b x c y es ck h2 k6 (fun e he=>by grind) kQ1 with⟨h5,h6⟩|⟨e,he,w1,hw1,h6⟩
  ·grind [Pv]
  ·refine .inr ?_;rw[M]at he;obtain⟨i,hi⟩:=List.getElem?_of_mem he;obtain⟨z,G,J,z3,z4⟩:=Pu k4 hi;have D:i<rest.length:=(akE.1 G).1
   have B:w1.heap=w.heap/\w1.os=w.os/\w1.tape=w.tape/\w1.output=w.output:=by rcases hw1 with rfl|rfl<;>exact⟨rfl,rfl,rfl,rfl⟩
   obtain⟨K,I,L,O⟩:=B;have j:=heap_set (o':=.mapIter (some b) x (y.push e.born) ck) h2
   have u:tot F s.m r≠0:=by have:=bX (F:=F) (ak hr) r;grind
   have N:b≠r:=fun e=>by grind
   have A:((es.toList.filter fun e=>!y.contains e.born).map (·.born)).Nodup:=(C.2.1.sublist ((List.filter_sublist (p:=fun e:MapEntry=>!y.contains e.born) (l:=es.toList)).map _))
   have k:e∈es.toList:=(List.mem_filter.1 he).1
   have E:es.toList.filter (fun x=>!(y.push e.born).contains x.born)=(es.toList.filter fun e=>!y.contains e.born).eraseIdx i:=by
    rw[<- zR A hi,List.filter_filter]
    grind
   refine⟨i,z,e.key,e.val,setBlock w1 r (.mapIter (some b) x (y.push e.born) ck),upd F n (F n),D,G,h6,z3,z4,?_⟩;have d:(setBlock w1 r (.mapIter (some b) x (y.push e.born) ck)).heap=w.heap.setIfInBounds r (.mapIter (some b) x (y.push e.born) ck):=by show w1.heap.setIfInBounds _ _=_;rw[K]
   refine Vt h rfl rfl hr h1 (f':=F n) ⟨r,some b,x,y.push e.born,ck,rfl,by grind,⟨es,ck,k1,k2,rfl,by grind [C0],y,e,rfl,k,J,z3,z4⟩,h4⟩ (fun c=>by have:=h.mem.le1 c;omega) (fun c hc=>?_) (by grind) I L O (fun c hc=>?_) (fun _ _ _ h=>h) (fun b' o Q hy=>(h.mem.agree b' o Q hy).frame ?_) (fun b o h1 h2=>absurd h2 h1) ⟨fun b' h'=>h'.of_block ?_,fun c o x y z h1 h2=>by grind⟩
   ·have:tot F s.m c≠0:=by grind
    exact⟨h.mem.lt c this,h.mem.nofz c this,h.fr.tt c this⟩
   ·grind
   ·rw[d];exact j.2 b' fun e=>by subst e;rw[h.mem.nofz _ u o]at hy;cases hy
   ·rw[d];refine j.2 b' fun e=>?_
    subst e;obtain⟨cs,ty,e⟩:=h'
    grind
theorem L6(h:RX g s a w H γ F){x:D×D}(hr:af s.m n=some ⟨false,[.it (some x) rest]⟩) :
  ∃v ky vl,γ n=.gh v/\(Instr.entry v).run P w=.ok (.tuple #[ky,vl]) w/\x.1.isKey=true/\FDx H x.1 ky/\FDx H x.2 vl:=by
 obtain⟨r,q,a',y,c,h1,h2,h3,h4⟩:=adU h.mem hr;cases q with
 |none=>obtain⟨h3,_⟩:=h3;cases h3
 |some b=>
  obtain⟨es,ck,k1,k2,k3,k4,i,e,rfl,k5,k8,j,f⟩:=h3;obtain⟨k6,k7⟩:=h.mem.agree b 0 _ k1;have d:=(stamped_iff es ck).1 k7
  subst k3;exact⟨_,e.key,e.val,h1,run_entry_at w r b a' i es c e h2 k6 k5 d.2.1,k8,j,f⟩
theorem UF{m:Mm}{v:Value}(hn:af m n=some ⟨false,[.it cur rest]⟩)(a:γ n=.gh v):AR w H γ m (.one (.c (.rf ⟨n,0,[]⟩))) v:=by
 refine⟨fun _=>rfl,?_,?_⟩
 ·rw[cm];exact⟨_,hn,trivial⟩
 ·unfold plV;dsimp only;rw[a];rfl
end
end Go.Am
end

section
namespace Go.Am
variable{caps:List Operand}{d:Tmp}{et kt t tt:TypeId}{ku vu:U}{n:Nm}{row:List C}{x:At}{y:Value}
section
variable {P:Program} {g:G} {a:Act} {w:World} {H:FH} {γ:Gam} {F:Nm->Fp} {s:St} {k k':St->Prop}
theorem Oh{x:Operand}(hk:∀s',Ext s s'->k s'->k' s')(h:wI P s t x d k):wI P s t x d k':=by
 unfold wI at h⊢;dsimp only at h⊢
 (repeat' split at h)<;>first|exact h.elim|exact hk _ ((((iM _ _).trans (bY _ _)).trans (dk _ _ _)).trans (aC _ _ _)) h
theorem TJ{d:Option Tmp}(hk:∀s',Ext s s'->k s'->k' s')(h:DG s x d k):DG s x d k':=by
 unfold DG at h⊢;split at h
 ·exact⟨fun e=>hk _ (aC _ _ _) (h.1 e),fun i hi=>hk _ ((tG _ _ _).trans (aC _ _ _)) (h.2 i hi)⟩
 omega
theorem MN{d:Option Tmp}(hk:∀s',Ext s s'->k s'->k' s')(h:qE s x d k):qE s x d k':=by
 grind [qE,aC]
theorem Kw(hk:∀s',Ext s s'->k s'->k' s')(h:qR s x d k):qR s x d k':=by
 unfold qR at h⊢
 grind [aC]
theorem Rj:∀{t:Tt},t.hit (bU n)=false->t.frB n row=t:=by
 intro t h;cases t with
 |pl p=>
  have h:decide (p.root=n)=false:=h
  grind [Tt.frB,Tt.kill,bU]
 |rf p=>
  have h:decide (p.root=n)=false:=h
  grind [Tt.frB,Tt.kill,bU]
 |_=>rfl
theorem QX(s:St)(n:Nm):Ext s (Jo s n):=by
 unfold Jo;split
 ·split
  ·exact⟨ajV _,tE (·.hit (bU n)) (·.map (Tt.frB n _)) (fun _ h=>vr Rj h) (ai0 _),(oY n).trans (eY (ai0 _))⟩
  ·exact Ext.refl s
 ·exact Ext.refl s
theorem qj:∀(vs:List At)(s:St),Ext s (rN s vs)
 |[],s=>Ext.refl s
 |v::vs,s0=>by
  unfold rN;split
  ·grind
  ·rename_i h;cases h;exact(QX _ _).trans (qj _ _)
  ·rename_i h;cases h;exact qj _ _
theorem Cg{f:Nat}{d:Option Tmp}(hk:∀s',Ext s s'->k s'->k' s')(h:kc s f caps d k):kc s f caps d k':=by
 unfold kc at h⊢;dsimp only at h⊢;split at h
 ·exact hk _ ((qj _ _).trans (aC _ _ _)) h
 omega
theorem aaG(h1:leaf ku=true)(h2:leaf vu=true)(z:Option (List (El ku×El vu))):(C.mp ku vu z).toD=.mp (z.map fun l=>l.map (rH ku vu)):=by
 show D.mp _=D.mp _
 congr 1
 cases z with
 |none=>rfl
 |some l=>
  show some _=some _
  congr 1
  refine ajG fun x _=>?_
  show((ap ku x.1).headD .any,(ap vu x.2).headD .any)=_
  rw[pw h1,pw h2];rfl
theorem T2{x:Operand}(hX:RX g s.toS a w H γ F)(hd:okD g.nt (some d)=true)(hx:aH x=true)(h:wI P s t x d k) :
  ∃t' y w' H' γ' F',(Instr.range t (a.eval x)).run P w=.ok y w'/\k t'/\RX g t'.toS (a.put (some d) y) w' H' γ' F':=by
 unfold wI at h;dsimp only at h;obtain⟨H1,F1,h1⟩:=gS hX (evA s x);generalize gZ s (evA s x)=s1 at h h1;split at h
 ·rename_i kt et i;split at h
  ·rename_i ku vu z hv;split at h
   ·rename_i hc;simp only[aiW]at hc;obtain⟨_,td,_,p,f,_⟩:=aY i (by simp);obtain rfl:=rV f;have h2:=cW h1 (.gh d)
    rw[<- bE (gR h1)]at h2;have h3:=aL h2 hx
    rw[ah hx,hv]at h3;have h4:FDx H1 (.mp (z.map fun l=>l.map (rH ku vu))) (a.eval x):=by rw[<- aaG (AS hc.1) hc.2];exact h3.2
    have hn:=cC h1 (.gh d)
    rw[<- bE (gR h1)]at hn;obtain⟨w',γ',F',o,b,q⟩:=Vu (P:=P) h2 h4 (fun e he=>by
     cases z with
     |none=>cases he
     |some l=>
      obtain⟨y,_,rfl⟩:=ajK.1 (show e∈l.map (rH ku vu)from he);exact nU (gr hc.1 y.1)) (n:=.gh d) rfl hn p
    refine⟨_,_,w',H1,γ',F',o,h,?_⟩;have j:(z.map fun l=>l.map (rH ku vu)).getD []=(z.getD []).map (rH ku vu):=by cases z<;>rfl
    rw[j]at b;have e:((s1.fresh (.gh d)).root (.gh d) ⟨false,[.it ku vu none (z.getD [])],none⟩).toS=⟨(s1.fresh (.gh d)).toS.t,(.gh d,⟨false,[.it none ((z.getD []).map (rH ku vu))]⟩)::(s1.fresh (.gh d)).toS.m⟩:=rfl
    rw[<- e]at b;refine br (aJ _ (some d) (.one (.c (.rf ⟨.gh d,0,[]⟩)))) (b.put hd ?_);exact UF (cur:=none) (rest:=(z.getD []).map (rH ku vu)) (by grind [af]) q
   grind
  grind
 grind
theorem Qg{cur:Option (El ku×El vu)}{rest:List (El ku×El vu)}(h:aa5 s.m x=some (n,⟨ku,vu,cur,rest⟩)) :
  x=.one (.c (.rf ⟨n,0,[]⟩))/\af s.toS.m n=some ⟨false,[.it (cur.map (rH ku vu)) (rest.map (rH ku vu))]⟩:=by
 unfold aa5 at h;split at h
 ·split at h
  ·rename_i hr;cases h;exact⟨rfl,bz hr⟩
  grind
 grind
theorem adV{v:Value}{m:Mm}(a:γ n=.gh v)(h:AR w H γ m (.one (.c (.rf ⟨n,0,[]⟩))) y):y=v:=by
 obtain⟨_,_,hv⟩:=h;unfold plV at hv;dsimp only at hv;rw[a]at hv;exact(Option.some.inj hv).symm
theorem XT{d:Option Tmp}(hX:RX g s.toS a w H γ F)(hd:okD g.nt d=true)(hy:AR w H γ s.toS.m x.toV y)(ty:TypeId)(h:DG s x d k) :
  ∃t' z w' F',(Instr.next y false ty).run P w=.ok z w'/\k t'/\RX g t'.toS (a.put d z) w' H γ F':=by
 unfold DG at h;split at h
 ·rename_i n ku vu cur rest hi;obtain⟨rfl,hr⟩:=Qg hi;obtain⟨v,l,b⟩:=Q6 (P:=P) hX hr ty;obtain rfl:=adV l hy;rcases b with⟨h1,h2⟩|⟨i,e,ky,vl,w',F',h1,h2,h3,h4,h5,h6⟩
  ·refine⟨_,_,w,F,h2,h.1 (List.map_eq_nil_iff.1 h1),br (aJ _ _ _) (hX.put hd ?_)⟩;exact⟨_,rfl,⟨fun _=>rfl,0,rfl⟩,trivial⟩
  ·have c:i<rest.length:=by grind
   refine⟨_,_,w',F',h3,h.2 i c,?_⟩;have f:e=rH ku vu (rest.getD i (dflt ku,dflt vu)):=by
    grind
   have j:(⟨s.nx+1,s.t,eI s.m n s.nx ⟨false,[.it ku vu (some (rest.getD i (dflt ku,dflt vu))) (rest.eraseIdx i)],none⟩⟩:St).toS=⟨s.toS.t,cM s.toS.m n ⟨false,[.it (some e) ((rest.map (rH ku vu)).eraseIdx i)]⟩⟩:=by
    rw[f,<- Go.ChangeMaps.map_eraseIdx];show(⟨_,toM (eI s.m n s.nx _)⟩:S)=_
    rw[fE];rfl
   rw[<- j]at h6;refine br (aJ _ _ _) (h6.put hd ?_);rw[f]at h4 h5;exact⟨_,rfl,⟨fun _=>rfl,0,rfl⟩,⟨fun _=>rfl,h4⟩,⟨fun _=>rfl,h5⟩,trivial⟩
 grind
theorem SE{d:Option Tmp}(hX:RX g s.toS a w H γ F)(hd:okD g.nt d=true)(hy:AR w H γ s.toS.m x.toV y)(h:qE s x d k) :
  ∃t' z,(Instr.entry y).run P w=.ok z w/\k t'/\RX g t'.toS (a.put d z) w H γ F:=by
 unfold qE at h;split at h
 ·rename_i n ku vu e rest hi;obtain⟨rfl,hr⟩:=Qg hi;obtain⟨v,ky,vl,b,h1,_,h2,h3⟩:=L6 (P:=P) hX hr;obtain rfl:=adV b hy;exact⟨_,_,h1,h,br (aJ _ _ _) (hX.put hd ⟨_,rfl,⟨fun _=>rfl,h2⟩,⟨fun _=>rfl,h3⟩,trivial⟩)⟩
 grind
theorem Bo{b:Nat}{es:Array MapEntry}{ck:Nat}(a:P.underlying t=some (.map kt et))(hb:w.heap[b]? = some (.map es ck)) :
  (Builtin.len_ #[t] tt #[.map (some b)]).run P w=.ok (.int .i64 (es.size:Int)) w:=by
 simp_all[Builtin.len_,run_underlying,getObj,Sem.run,goInt]
theorem Lc(a:P.underlying t=some (.map kt et)) :
  (Builtin.len_ #[t] tt #[.map none]).run P w=.ok (.int .i64 0) w:=by
 simp_all[Builtin.len_,run_underlying,goInt]
theorem Px{w:World}{H:FH}:∀{l:List (D×Sh×D)}{es:List MapEntry}{f:Fp},MpO w H l es f->l.length=es.length
 |[],[],_,_=>rfl
 |_::_,_::_,_,h=>by obtain⟨_,f1,a,k,_,_,h⟩:=h;simp[Px h]
 |[],_::_,_,h=>h.elim
 |_::_,[],_,h=>h.elim
theorem NN(hX:RX g s.toS a w H γ F)(hd:okD g.nt (some d)=true)(hy:AR w H γ s.toS.m x.toV y)(q:(ty P t).k=.mp kt et)(h:qR s x d k) :
  ∃t' z,(Builtin.len_ #[t] tt #[y]).run P w=.ok z w/\k t'/\RX g t'.toS (a.put (some d) z) w H γ F:=by
 obtain⟨_,td,_,i,o,_⟩:=aY q (by simp);obtain rfl:=rV o;have big:∀n:Nat,n<=4611686018427387904->(Lit.int .i64 (n:Int)).wf=true:=fun n h=>BK (by grind [BIG])
 unfold qR at h;split at h
 ·rename_i ku vu z;have c:FDx H (.mp (z.map fun l=>l.map fun x=>((ap ku x.1).headD .any,(ap vu x.2).headD .any))) y:=hy.2
  cases z with
  |none=>
   have j:y=.map none:=by obtain⟨m,c⟩:=c;cases m<;>exact c
   subst j;exact⟨_,_,Lc i,h.2,br (aJ _ _ _) (hX.put hd ⟨fun _=>rfl,0,rfl,big 0 kQ1⟩)⟩
  |some l=>
   obtain⟨m,c⟩:=c;cases m with
   |zero=>exact c.elim
   |succ m=>
    obtain⟨b,es,ck,rfl,k2,k3,k4⟩:=c;obtain⟨k5,k6⟩:=hX.mem.agree b 0 _ k2;have e:es.size=l.length:=by grind
    exact⟨_,_,Bo i k5,h.2,br (aJ _ _ _) (hX.put hd ⟨fun _=>rfl,0,by grind,big _ h.1⟩)⟩
 ·rename_i p;split at h
  ·rename_i ku vu l r;obtain⟨n,rfl,hr⟩:=qN r;obtain⟨b,es,ck,f,rfl,_,c2,c3,c4,_⟩:=s8 hX hr hy;have e:es.size=l.length:=by have:=Px c4;grind
   exact⟨_,_,Bo i c2,h.2,br (aJ _ _ _) (hX.put hd ⟨fun _=>rfl,0,by rw[e],big _ h.1⟩)⟩
  grind
 grind
theorem YQ:∀{cells:List Tt}{row:List C},tdC cells=some row->(cells.map Tt.toT).all T.isD=true/\(cells.map Tt.toT).map T.toD=row.map C.toD
 |[],row,h=>by cases h;grind
 |t::ts,row,h=>by
  cases t with
  |d c=>
   have h':∃r,tdC ts=some r/\row=c::r:=by
    cases c with
    |any=>cases h
    |_=>obtain⟨r,h1,h2⟩:=ajF.1 h;grind
   obtain⟨r,h1,rfl⟩:=h';obtain⟨k1,k2⟩:=YQ h1;exact⟨by simp only[aiZ,ajE,k1];rfl,by simp only[aiZ,k2];rfl⟩
  |_=>simp[tdC]at h
theorem Mg(n:Nm)(row:List C)(t:Tt):(t.frB n row).toT=t.toT.frB n (row.map C.toD):=by
 cases t with
 |pl p=>
  obtain⟨r,o,path⟩:=p;cases path with
  |nil=>
   show(if r=n then Tt.el row o else Tt.pl ⟨r,o,[]⟩).toT=if r=n then T.el (row.map C.toD) o else T.pl ⟨r,o,[]⟩
   by_cases e:r=n
   ·rw[if_pos e,if_pos e];rfl
   ·rw[if_neg e,if_neg e];rfl
  |cons st u=>exact eh (bU n) (.pl ⟨r,o,st::u⟩)
 |rf p=>exact eh (bU n) (.rf p)
 |_=>rfl
theorem Rb(h:RX g s.toS a w H γ F)(n:Nm):∃H',RX g (Jo s n).toS a w H' γ F:=by
 unfold Jo;split
 ·rename_i cells hr;split
  ·rename_i row b;obtain⟨h1,h2⟩:=YQ b;obtain⟨H',h'⟩:=Zl h n;refine⟨H',?_⟩;have c:af s.toS.m n=some ⟨true,cells.map Tt.toT⟩:=bz hr
   have e:s.toS.frzB n=(⟨s.nx+1,s.t.map fun x=>(x.1,stp (x.2.2.hit (bU n)) s.nx x.2.1,x.2.2.map (Tt.frB n row)),cT (bU n) s.nx (gi s.m n)⟩:St).toS:=by
    unfold S.frzB;rw[c];dsimp only;rw[if_pos h1,h2];refine b9.S_ext ?_ ?_
    ·simp only[St.toS,sQ,aj9]
     grind [ajG,r7,Mg]
    ·have h3:=fB (bU n) s.nx (gi s.m n)
     rw[pu n s.m (gR h)]at h3;exact h3.symm
   grind
  grind
 grind
theorem qq:∀(vs:List At)(s:St)(H:FH),RX g s.toS a w H γ F->∃H',RX g (rN s vs).toS a w H' γ F
 |[],s,H,h=>⟨H,h⟩
 |v::vs,s0,H,h=>by
  unfold rN;split
  ·grind
  ·rename_i e;cases e;obtain⟨H1,h1⟩:=Rb h _;exact qq _ _ H1 h1
  ·rename_i e;cases e;exact qq _ _ H h
theorem zL{c:Lt.Cap}:∀{l:List U},IZ row l=some c->row=flat (afG c).1 (afG c).2/\c.enc=row.map C.toD
 |[],h=>by cases h
 |n::r,h=>by
  unfold IZ at h;split at h
  ·rename_i x hx;split at h
   ·rename_i a hc;cases h;obtain⟨h1,h2⟩:=aaB hc;have h3:=wW hx
    refine⟨by grind,?_⟩;rw[h2,h3,cz]
   ·exact zL h
  ·exact zL h
theorem C9(hX:RX g s.toS a w H γ F):∀{ops:List Operand}{cs:List Lt.Cap},ops.all aH=true->ET s ops=some cs->cs.length=ops.length/\∃m,∀(i:Nat)(row:List D)(y:Value),(cs.map Lt.Cap.enc)[i]? = some row->(ops.map a.eval)[i]? = some y ->
   ∃b o,y=.pointer (some ⟨b,o,none⟩)/\(row.length=1->o=0)/\∀j,j<row.length->∃z:Value,H b (o+j)=some z/\FD H m (row.getD j default) z
 |[],cs,_,h=>by cases h;simp_all
 |x::ops,cs,ho,h=>by
  simp only[ajE,aiW]at ho;unfold ET at h;split at h
  ·rename_i row hv;split at h
   ·rename_i c q hb1 hc k;cases h;have hb1:row.length≠1:=fun e=>by rw[e]at hb1;cases hb1
    obtain⟨h1,l,h2⟩:=C9 hX ho.2 k;have h3:=aL hX ho.1
    rw[ah ho.1,hv]at h3;obtain⟨_,b,o,n,h4,h5⟩:=h3;obtain⟨_,h6⟩:=zL hc;refine⟨by simp[h1],l+n,fun i f y hi hy=>?_⟩;have mono:=fun{m:Nat}(p:m<=l+n){d:D}{v:Value}(h:FD H m d v)=>fG (fun _ _ _ h=>h) m (l+n) d v p h
    cases i with
    |zero=>
     have hi:c.enc=f:=by grind
     have hy:a.eval x=y:=by grind
     subst hi hy;rw[h6];refine⟨b,o,h4,fun e=>absurd (by rwa [ai2]at e) hb1,fun j hj=>?_⟩;obtain⟨z,hz,hf⟩:=h5 j hj
     grind
    |succ i=>
     grind
   grind
  grind
theorem Fx{f:Nat}{d:Option Tmp}(hX:RX g s.toS a w H γ F)(hd:okD g.nt d=true)(hc:caps.all aH=true)(h:kc s f caps d k) :
  ∃t' H',k t'/\RX g t'.toS (a.put d (.func (.func f) #[] (caps.map a.eval).toArray)) w H' γ F:=by
 unfold kc at h;dsimp only at h;obtain⟨H1,h1⟩:=qq (caps.map (evA s)) s H hX;generalize rN s (caps.map (evA s))=s1 at h h1;split at h
 ·rename_i cs b;obtain⟨k1,m,k2⟩:=C9 h1 hc b;refine⟨_,H1,h,br (aJ _ _ _) (h1.put hd ⟨fun _=>rfl,m+1,caps.map a.eval,rfl,?_,k2⟩)⟩;simp[k1]
 grind
end
abbrev chn(v:Value):List PanicEntry:=[{ v,recovered:=false }]
def pj(g:G)(a:Act)(pk:PKt)(k:St->At->Prop)(e:Ending)(w':World):Prop:=
 (∃r s' av H' γ' F',e=.returned r/\k s' av/\AR w' H' γ' (toM s'.m) av.toV r/\RX g s'.toS a w' H' γ' F') \/
 ∃v s',e=.panicked (chn v)/\pk v s'/\R g s'.toS a w'
structure Cont (P:Program) (f:Nat) (C:CKt):Prop where
 run:∀args w,(callFunc f args).run P w=.ok (.enter f args) w
 ext:∀(pk:PKt)(s:St)(ops:List Operand)(k k':St->At->Prop),(∀s' v,Ext s s'->k s' v->k' s' v)->C pk s ops k->C pk s ops k'
 call:∀(g:G)(pk:PKt)(s:St)(a:Act)(w:World)(H:FH)(γ:Gam)(F:Nm->Fp)(ops:List Operand)(k:St->At->Prop),RX g s.toS a w H γ F->ops.all aH=true->C pk s ops k ->
  Calls P f (ops.map a.eval).toArray w (pj g a pk k)
structure ContC (P:Program) (key:Nat) (C:CKt):Prop where
 big:1000000<=key
 run:∀args w,(callFunc (key - 1000000) args).run P w=.ok (.enter (key - 1000000) args) w
 ext:∀(pk:PKt)(s:St)(ops:List Operand)(k k':St->At->Prop),(∀s' v,Ext s s'->k s' v->k' s' v)->C pk s ops k->C pk s ops k'
 call:∀(g:G)(pk:PKt)(s:St)(a:Act)(w:World)(H:FH)(γ:Gam)(F:Nm->Fp)(t:Tmp)(ops:List Operand)(k:St->At->Prop)(ps:Array Value),RX g s.toS a w H γ F->ops.all aH=true->t<TB->a.tmps.getD t undef=.func (.func (key - 1000000)) #[] ps->C pk s (.tmp t::ops) k ->
  Calls P (key - 1000000) ((ops.map a.eval).toArray++ps) w (pj g a pk k)
def En.ok(e:En):Prop:=∀x∈e.cs,(Nat.blt x.1 1000000=true->Cont e.P x.1 x.2)/\(1000000<=x.1->ContC e.P x.1 x.2)
theorem En.ok_get'{e:En}(h:e.ok){f:Nat}{C:CKt}(hg:e.cs.get f=some C):(Nat.blt f 1000000=true->Cont e.P f C)/\(1000000<=f->ContC e.P f C):=by
 have:∀cs:CTt,(∀x∈cs,(Nat.blt x.1 1000000=true->Cont e.P x.1 x.2)/\(1000000<=x.1->ContC e.P x.1 x.2))->cs.get f=some C->(Nat.blt f 1000000=true->Cont e.P f C)/\(1000000<=f->ContC e.P f C):=by
  intro cs;induction cs with
  |nil=>intro _ h;cases h
  |cons x cs ih=>
   obtain⟨f',C'⟩:=x;intro h hg2;simp only[CTt.get]at hg2;split at hg2
   all_goals simp_all
 exact this e.cs h hg
theorem En.ok_get{e:En}(h:e.ok){f:Nat}{C:CKt}(hg:e.cs.get f=some C)(hf:Nat.blt f 1000000=true):Cont e.P f C:=(En.ok_get' h hg).1 hf
variable{v:At}
theorem Sx{key:Nat}(h:I2 v=some key):1000000<=key:=by
 unfold I2 at h
 grind
variable{K':C->Prop}{i:Nat}{m:List (Nm×Nat×Rt)}{o:Oper}{op:BinOp}
section
variable {k k':At->Prop}
theorem N4{c y:At}(hk:∀v,k v->k' v)(h:DO c x y k):DO c x y k':=by
 unfold DO at h⊢
 grind
theorem TL{κ:IntKind}{a b:Int}{K:C->Prop}(hk:∀v,K v->K' v)(h:XV op κ a b K):XV op κ a b K':=by
 unfold XV at h⊢;cases op<;>first|exact hk _ h|grind
theorem Rv{x y:C}{K:C->Prop}(hk:∀v,K v->K' v)(h:IE op x y K):IE op x y K':=by
 unfold IE at h⊢;split at h
 ·split at h<;>first|exact h.elim|exact hk _ h|grind
 grind [TL]
theorem Ry{P:Program}{y:At}(hk:∀v,k v->k' v)(h:Rx P op t x y k):Rx P op t x y k':=by
 unfold Rx at h⊢
 (repeat' split at h)<;>first|exact h.elim|exact hk _ h|exact⟨h.1,hk _ h.2⟩|grind [Rv]|(simp_all;done)
theorem YW{op:UnOp}(hk:∀v,k v->k' v)(h:unT op x k):unT op x k':=by
 unfold unT at h⊢
 grind
theorem BS(hk:∀v,k v->k' v)(h:mD x i k):mD x i k':=by
 unfold mD at h⊢
 grind
theorem Ls{i:At}(hk:∀v,k v->k' v)(h:wU x i k):wU x i k':=by
 unfold wU at h⊢
 grind
theorem jr{y:Option At}{d:Nat}{k1 k2:Nat->Prop}(hk:∀n,k1 n->k2 n)(hb:io y d k1):io y d k2:=by
 unfold io at hb⊢
 grind
theorem Lo{P:Program}{lo hi:Option At}(hk:∀v,k v->k' v)(h:wP P t x lo hi k):wP P t x lo hi k':=by
 unfold wP at h⊢;split at h
 ·split at h
  ·exact jr (fun a c=>jr (fun b hb=>⟨hb.1,hk _ hb.2⟩) c) h
  omega
 ·split at h
  ·skip
   split at h
   ·exact jr (fun a c=>jr (fun b hb=>⟨hb.1,hk _ hb.2⟩) c) h
   omega
  omega
 all_goals grind (splits:=20) [jr]
theorem yd{P:Program}(hk:∀v,k v->k' v)(h:iU P m t x i k):iU P m t x i k':=by
 unfold iU at h⊢;split at h
 ·skip
  split at h
  all_goals grind
 omega
theorem oN{P:Program}{i:At}(hk:∀v,k v->k' v)(h:gP P m t x i k):gP P m t x i k':=by
 unfold gP at h⊢;split at h
 ·split at h
  ·skip
   split at h
   all_goals grind
  all_goals grind
 omega
theorem NI{P:Program}(hk:∀v,k v->k' v)(h:mQ P m t x k):mQ P m t x k':=by
 unfold mQ at h⊢;split at h
 ·skip
  split at h
  all_goals grind
 omega
theorem Jc{P:Program}(hk:∀v,k v->k' v)(h:vX P t x i k):vX P t x i k':=by
 unfold vX at h⊢;split at h
 all_goals grind
theorem AN(hk:∀v,k v->k' v)(h:ke x k):ke x k':=by
 unfold ke at h⊢
 grind
theorem II{P:Program}{ps:List (Nat×At)}(hk:∀v,k v->k' v)(h:vN P t ps k):vN P t ps k':=by
 grind [vN]
theorem MK{P:Program}{b a:TypeId}(hk:∀v,k v->k' v)(h:Dc P b a x k):Dc P b a x k':=by
 unfold Dc at h⊢;split at h
 all_goals grind
theorem FV{e:En}{s:St}(hk:∀v,k v->k' v)(h:qT e o s k):qT e o s k':=by
 unfold qT at h⊢;cases ho:o.op with
 |move x=>grind
 |assign x=>grind
 |pick c x y=>grind [N4]
 |binOp op t x y z=>grind [Ry]
 |unOp op t x=>grind [YW]
 |load t x=>grind [NI]
 |field t x i=>grind [Jc]
 |fieldAddr t x i=>grind [yd]
 |indexAddr t x i=>grind [oN]
 |index t x i=>
  grind [Ls]
 |extract x i=>grind [BS]
 |convert d b x=>grind [MK]
 |slice t x lo hi a=>
  rw[ho]at h;cases a<;>grind [Lo]
 |nilCheck x=>grind [AN]
 |build t ps=>grind [II]
 |call c=>
  grind [Dw]
 |_=>grind
end
variable{E:Ut}{s':St}{sub:List Sh}{ts:List Tt}{u:U}
section
variable {k k':St->Prop} {s:St}
theorem Mj{P:Program}(hk:∀s',Ext s s'->k s'->k' s')(h:vG P s t d k):vG P s t d k':=by
 unfold vG at h⊢;split at h
 ·skip
  split at h
  ·exact hk _ (((bY _ _).trans (dk _ _ _)).trans (aC _ _ _)) h
  omega
 omega
theorem VV{x:Operand}(hk:∀s',Ext s s'->k s'->k' s')(h:RD s x d k):RD s x d k':=by
 unfold RD at h⊢;split at h
 ·skip
  split at h
  ·exact hk _ (((bY _ _).trans (dk _ _ _)).trans (aC _ _ _)) h
  omega
 omega
theorem yb{P:Program}{n:Nat}{ps:Array (Nat×Operand)}(hk:∀s',Ext s s'->k s'->k' s')(h:gW P E s t n ps d k):gW P E s t n ps d k':=by
 unfold gW at h⊢;split at h
 ·skip
  split at h
  ·skip
   split at h
   ·skip
    dsimp only at h⊢;split at h
    ·skip
     split at h
     ·skip
      exact hk _ ((((fo _ _).trans (bY _ _)).trans (dk _ _ _)).trans (aC _ _ _)) h
     omega
    omega
   omega
  omega
 omega
theorem Bb{p:Pl}{t:Tt}(hk:∀s',Ext s s'->k s'->k' s')(h:KW s p t k):KW s p t k':=by
 unfold KW at h⊢;split at h
 ·omega
 ·skip
  split at h
  ·skip
   split at h
   ·exact hk _ ⟨ajV _,fun _ _ _ h _=>h,dz _ _ (ai0 _) _⟩ h
   omega
  ·skip
   split at h
   ·exact qZ (hk _ ⟨ajV _,fun _ _ _ h _=>h,dz _ _ (ai0 _) _⟩) h
   omega
  ·skip
   split at h
   ·skip
    split at h
    ·exact qZ (xw (hk _ ⟨ajV _,fun _ _ _ h _=>h,dz _ _ (ai0 _) _⟩)) h
    omega
   omega
  omega
theorem lM:∀{ts:List Tt}{s:St}{p:Pl},(∀s',Ext s s'->k s'->k' s')->jY s p ts k->jY s p ts k'
 |[],s,p,hk,h=>hk _ (Ext.refl s) h
 |t::ts,s,p,hk,h=>by
  cases t with
  |rf q=>
   simp only[jY]at h⊢;split at h
   ·skip
    split at h
    ·skip
     exact Bb (fun s' he e=>lM (fun b a=>hk b (((tF _ _).trans he).trans a)) e) h
    omega
   omega
  |any=>exact h.elim
  |d c=>cases c with
   |any=>exact h.elim
   |_=>exact Bb (fun s' he e=>lM (fun b a=>hk b (he.trans a)) e) h
  |_=>exact Bb (fun s' he e=>lM (fun b a=>hk b (he.trans a)) e) h
theorem KV{p:Pl}(hk:∀s',Ext s s'->k s'->k' s')(h:rb s p ts k):rb s p ts k':=by
 unfold rb at h⊢;split at h
 ·omega
 ·skip
  split at h
  ·skip
   split at h
   ·exact qZ (hk _ ⟨ajV _,fun _ _ _ h _=>h,dz _ _ (ai0 _) _⟩) h
   omega
  omega
theorem OC{P:Program}(hk:∀s',Ext s s'->k s'->k' s')(h:wR P s t x v k):wR P s t x v k':=by
 unfold wR at h⊢
 grind (splits:=20) [KV,lM]
theorem iQ{l:List (El u)}(h:pe s u v=some (s',sub,l)):Ext s s':=by
 unfold pe at h;split at h
 ·grind [Ext.refl]
 ·split at h
  ·split at h
   ·rename_i a;simp only[aiX,Prod.mk.injEq]at h;obtain⟨rfl,_⟩:=h;unfold YP at a;split at a
    ·grind
    ·split at a
     ·simp only[aiX]at a;rw[<- a];exact⟨ajV _,iL (ai0 _),(dz _ _ (ai0 _) s.m).trans (eY (ai0 _))⟩
     ·simp only[aiX]at a;rw[<- a];exact⟨ajV _,iL (ai0 _),(dz _ _ (ai0 _) s.m).trans (eY (ai0 _))⟩
     grind
   grind
  grind
 grind
theorem Iz{P:Program}{u:TypeId}{x y:Operand}(hk:∀s',Ext s s'->k s'->k' s')(h:qw P E s t u x y d k):qw P E s t u x y d k':=by
 unfold qw at h⊢;dsimp only at h⊢;split at h
 ·skip
  split at h
  ·skip
   split at h
   ·skip
    split at h
    ·rename_i h3 h4;split at h
     ·skip
      exact⟨h.1,hk _ (((((iM _ _).trans (iQ h4)).trans (bY _ _)).trans (dk _ _ _)).trans (aC _ _ _)) h.2⟩
     omega
    omega
   omega
  omega
 omega
theorem vL{P:Program}{n:Nat}{ps:Array (Nat×Operand)}(hk:∀s',Ext s s'->k s'->k' s')(h:fJ P E sub s t n ps d k):fJ P E sub s t n ps d k':=by
 unfold fJ at h⊢;split at h
 ·skip
  split at h
  ·skip
   split at h
   ·skip
    dsimp only at h⊢;split at h
    ·skip
     split at h
     ·skip
      exact hk _ ((((fo _ _).trans (bY _ _)).trans (dk _ _ _)).trans (aC _ _ _)) h
     omega
    omega
   omega
  omega
 omega
theorem vM{P:Program}{n:Nat}{ps:Array (Nat×Operand)}(hk:∀s',Ext s s'->k s'->k' s')(h:fK P E sub s t n ps d k):fK P E sub s t n ps d k':=by
 unfold fK at h⊢
 (repeat' split at h)<;>first|exact h.elim|skip
 exact hk _ ((((iQ (by assumption)).trans (bY _ _)).trans (dk _ _ _)).trans (aC _ _ _)) h
theorem EK{P:Program}{u:TypeId}{x y:Operand}(hk:∀s',Ext s s'->k s'->k' s')(h:mq P E s t u x y d k):mq P E s t u x y d k':=by
 unfold mq at h⊢;split at h
 ·skip
  split at h
  ·skip
   split at h
   ·skip
    split at h
    ·rename_i h3;split at h
     ·rename_i h4;split at h
      ·skip
       exact⟨h.1,hk _ (((((iQ h3).trans (iQ h4)).trans (bY _ _)).trans (dk _ _ _)).trans (aC _ _ _)) h.2⟩
      omega
     omega
    omega
   omega
  omega
 omega
theorem ki(a:Nat):∀(sh:List Sh)(j:Nat)(s:St),Ext s (AM a sh j s)
 |[],_,s=>Ext.refl s
 |.fr::r,j,s=>ki a r (j+1) s
 |.ow _::r,j,s=>by
  simp only[AM];split
  ·split
   ·split
    ·split
     ·rename_i h _;split
      ·exact((((iQ (by assumption)).trans (bY _ _)).trans (dk _ _ _)).trans (aC _ _ _)).trans (ki a r (j+1) _)
      ·exact(((iQ (by assumption)).trans (bY _ _)).trans (dk _ _ _)).trans (ki a r (j+1) _)
     ·exact ki a r (j+1) s
    ·exact ki a r (j+1) s
   ·exact ki a r (j+1) s
  ·exact Ext.refl s
theorem UU(sh:List (TypeId×List Sh))(s:St)(t:TypeId)(v:Operand):Ext s (NR sh s t v):=by
 unfold NR
 grind [ki,Ext.refl]
theorem F9{e:En}{x hi:Operand}(hk:∀s',Ext s s'->k s'->k' s')(h:m0 e s t x hi d k):m0 e s t x hi d k':=by
 unfold m0 at h⊢;split at h
 ·split at h
  ·split at h
   ·split at h
    ·rename_i hb;exact⟨h.1,hk _ ((((iQ hb).trans (bY _ _)).trans (dk _ _ _)).trans (aC _ _ _)) h.2⟩
    omega
   omega
  omega
 omega
theorem Ui{e:En}(hk:∀s',Ext s s'->k s'->k' s')(h:Lp e o s k):Lp e o s k':=by
 unfold Lp at h⊢;split at h
 ·exact F9 hk h
 ·exact Kv hk h
 ·grind [Kw]
 ·dsimp only at h⊢;split at h
  ·split at h
   ·exact oN (fun v hv=>hk _ ((qj _ _).trans (aC _ _ _)) hv) h
   omega
  omega
 omega
theorem Eh:∀{row:List C}{l:List (List UInt8)},By row=some l->row=l.map C.s
 |[],_,h=>by cases h;rfl
 |c::r,l,h=>by
  cases c with
  |s x=>
   simp only[By]at h;split at h
   ·rename_i l' hr;cases h;rw[Eh hr];rfl
   grind
  |_=>simp[By]at h
theorem af1{e:En}(he:e.ok)(hk:∀s',Ext s s'->k s'->k' s')(h:lT e o s k):lT e o s k':=by
 unfold lT at h⊢;cases ho:o.op with
 |store t x v=>rw[ho]at h;exact OC (fun s' he a=>hk _ ((((UU _ _ _ _).trans (QY _ _ _)).trans he).trans (aC _ _ _)) a) h
 |alloc t=>
  grind [Mj]
 |box t x=>
  grind [VV]
 |buildSlice t n ps=>
  rw[ho]at h;cases hd:o.dst with
  |none=>grind
  |some d=>
   rw[hd]at h;dsimp only at h⊢;split at h
   all_goals grind [yb,vM,vL]
 |call c=>
  rw[ho]at h;dsimp only at h⊢;split at h
  ·grind (splits:=20) [Iz,EK]
  ·exact Ku (fun s' f a=>hk _ (f.trans (aC _ _ _)) a) h
  ·skip
   split at h
   ·rename_i C g hf;exact(En.ok_get he g hf).ext _ _ _ _ _ (fun s' v f a=>hk _ (f.trans (aC _ _ _)) a) h
   omega
  ·skip
   split at h
   ·skip
    split at h
    ·rename_i C g hf;exact(En.ok_get he g hf).ext _ _ _ _ _ (fun s' v f a=>hk _ (f.trans (aC _ _ _)) a) h
    omega
   ·split at h
    ·split at h
     ·rename_i j _ C g;exact((En.ok_get' he g).2 (Sx j)).ext _ _ _ _ _ (fun s' v f a=>hk _ (f.trans (aC _ _ _)) a) h
     omega
    omega
   omega
  omega
 |makeMap t r=>
  rw[ho]at h
  grind [Fy]
 |lookup t x i ok=>
  grind [FA,Fz,aC]
 |mapUpdate t m i v=>
  rw[ho]at h;dsimp only at h⊢;split at h
  ·exact Kx (fun s' f a=>hk _ (f.trans (aC _ _ _)) a) h
  ·exact Ky (fun s' f a=>hk _ (((iM _ _).trans f).trans (aC _ _ _)) a) h
 |makeSlice t n c=>
  grind [AH]
 |makeFunc fn first caps=>
  grind [Cg]
 |range t x=>
  grind [Oh]
 |next x b=>
  rw[ho]at h;cases b<;>grind [TJ]
 |entry x=>grind [MN]
 |_=>grind
theorem KI{e:En}(he:e.ok)(hk:∀s',Ext s s'->k s'->k' s')(h:FP e o s k):FP e o s k':=by
 unfold FP at h⊢;split at h
 ·rename_i hq;exact FV (fun v hv=>hk _ ((GH _ _).trans (aC _ _ _)) hv) h
 grind [af1]
theorem abT{e:En}(he:e.ok)(hk:∀s',Ext s s'->k s'->k' s')(h:opT e o s k):opT e o s k':=by
 grind [opT,Ui,KI]
end
variable{K:S->Prop}{all:List Oper}
section
variable {P:Program} {g:G} {Q:Exit->S->Prop} {s:St}
def AOt(P:Program)(g:G)(o:Oper)(k:St->Prop)(Q:Exit->S->Prop)(s:St):Prop:=
 ∀a w,R g s.toS a w->o.wp P a w (fun a' w'=>∃s':St,k s'/\R g s'.toS a' w') (lift g Q)
def PQ(pk:PKt):Exit->S->Prop:=fun x s=>∃v,∃t:St,x=.panic (chn v)/\s=t.toS/\pk v t
section
variable {g:G} {a:Act} {w:World} {H:FH}
theorem jH{s:St}(h:gtA s.t i=v):bd s.toS.t i=v.toV:=by rw[<- h];exact dC i s.t
theorem VJ{γ:Gam}{F:Nm->Fp}{s:St}(hX:RX g s.toS a w H γ F){c j:Nat}{t:Tt}(d:gtA s.t c=.one (.agg ts))(hj:ts[j]? = some t) :
  ∃vs v,g.tv a c=.agg vs/\vs.toList[j]? = some v/\TR w H γ s.toS.m t.toT (fun _=>0) v:=by
 have h:=hX.t c
 rw[jH d]at h;obtain⟨vs,h1,_,h3⟩:=h;obtain⟨_,v,g',_,h4,h5,h6⟩:=r9 h3 (k:=j) (x:=t.toT) (by grind);refine⟨vs,v,h1,h4,?_⟩;have:g'=fun _=>0:=funext fun b=>by grind
 grind
theorem kn(e:Nat):∀(sh:List Sh)(j:Nat)(s:St)(γ:Gam)(F:Nm->Fp),RX g s.toS a w H γ F->∃γ' F',RX g (AM e sh j s).toS a w H γ' F'
 |[],_,s,γ,F,hX=>⟨γ,F,hX⟩
 |.fr::r,j,s,γ,F,hX=>kn e r (j+1) s γ F hX
 |.ow _::r,j,s,γ,F,hX=>by
  simp only[AM];split
  ·rename_i ts I;split
   ·rename_i q hj;split
    ·rename_i u K _ _ _;split
     ·rename_i s1 sub l hb;obtain⟨vs,v,A,D,B⟩:=VJ hX I hj;have hy:AR w H γ s.toS.m (.one (.c (.rf q))) v:=B
      obtain⟨b1,b2,_⟩:=mu (size:=nc u) rfl (gR hX) (fun M x=>by
       cases x;exact pQ B.2.1) hb
      obtain⟨E,f,F1,k1,k2,k3,k4,k5⟩:=mw hX hy b1;have z:=cW k2 (.gh (700000+j))
      have p:∀b,tot F1 (s1.toS.fresh (.gh (700000+j))).m b<=tot F1 s1.toS.m b:=by
       intro b;unfold S.fresh;split
       ·omega
       ·show tot F1 (aP _ _) b<=_
        rw[bu];exact gC
      obtain⟨γ',F',d,y⟩:=dQ z (n:=.gh (700000+j)) rfl (cC k2 (.gh (700000+j))) (v:=v) (t:=.ow sub (l.map (ap u))) (f:=f) ⟨E,k1⟩
       (fun b=>by have h1:=p b;have h2:=k4 b;have h3:=hX.mem.le1 b;omega) (fun b hb=>⟨(k5 b hb).1,(k5 b hb).2.1⟩) (fun b hb=>(k5 b hb).2.2)
      have C:((s1.fresh (.gh (700000+j))).root (.gh (700000+j)) ⟨false,[.ow sub u l],none⟩).toS=⟨(s1.toS.fresh (.gh (700000+j))).t,(.gh (700000+j),⟨false,[.ow sub (l.map (ap u))]⟩)::(s1.toS.fresh (.gh (700000+j))).m⟩:=by
       rw[<- bE b2];rfl
      rw[<- C]at d;generalize hs2:(s1.fresh (.gh (700000+j))).root (.gh (700000+j)) ⟨false,[.ow sub u l],none⟩=s2 at d C;split
      ·rename_i k o;refine kn e r (j+1) _ γ' F' ⟨d.mem,d.fr,d.nt,d.df,fun i=>?_⟩;show AR w H γ' s2.toS.m (bd ((e,At.toV (.one (.agg (k.set j (.rf ⟨.gh (700000+j),0,[]⟩)))))::s2.toS.t) i) _
       simp only[bd];split
       ·rename_i hi;subst hi;have h:=d.t e
        rw[jH o,A]at h;obtain⟨cs,h1,h2,h3⟩:=h;obtain rfl:=Value.agg.inj h1;rw[A];refine⟨vs,rfl,by grind,?_⟩;by_cases J:j<k.length
        ·obtain⟨_,_,_,L,fr,_,_,_,a4,_,G,_⟩:=cV _ _ _ _ j h3 (by grind);have hr:TR w H γ' s2.toS.m (.rf ⟨.gh (700000+j),0,[]⟩) (fun _=>0) v:=(ij (H:=H) (w:=w) (sub:=sub) (l:=l.map (ap u)) (by grind [af]) y:AR w H γ' s2.toS.m (.one (.c (.rf ⟨.gh (700000+j),0,[]⟩))) v)
         have:=G (fun _=>TR w H γ' s2.toS.m) (.rf ⟨.gh (700000+j),0,[]⟩) v (fun _=>0) (fun _ _ _ _ _ h=>h) hr
         rw[p8 D]at this;unfold Ts;rw[ai2]at this⊢;rw[akT,ajP];exact oX (fun b=>by grind) this
        grind
       ·exact d.t i
      ·exact kn e r (j+1) _ γ' F' d
     ·exact kn e r (j+1) s γ F hX
    ·exact kn e r (j+1) s γ F hX
   ·exact kn e r (j+1) s γ F hX
  grind
theorem VA(sh:List (TypeId×List Sh)){s:St}{γ:Gam}{F:Nm->Fp}(t:TypeId)(v:Operand)(hX:RX g s.toS a w H γ F):∃γ' F',RX g (NR sh s t v).toS a w H γ' F':=by
 unfold NR;split
 ·exact kn _ _ _ _ _ _ hX
 grind
end
theorem aaP{w:World}{H:FH}{γ:Gam}{m:Mm}(h:AR w H γ m v.toV y){f:Nat}(hf:afO v=some f):y=.func (.func f) #[] #[]:=by
 unfold afO at hf;split at hf
 ·rename_i f' x z;split at hf
  ·rename_i hx0 a;simp only[aiX]at hf;subst hf;obtain⟨_,m,h3⟩:=h;have b:y=.func (.func f') x z:=by cases m<;>exact h3.1
   grind
  grind
 ·rename_i c;split at hf
  ·rename_i hc;simp only[aiX]at hf;subst hf;obtain⟨_,m,h3⟩:=h;cases m with
   |zero=>exact h3.elim
   |succ m=>
    obtain⟨ps,h4,h5,_⟩:=h3
    grind
  grind
 grind
theorem WC{w:World}{H:FH}{γ:Gam}{m:Mm}(h:AR w H γ m v.toV y){key:Nat}(hf:I2 v=some key):∃f ps,key=f+1000000/\y=.func (.func f) #[] ps:=by
 unfold I2 at hf;split at hf
 ·rename_i c;simp only[aiX]at hf;subst hf;obtain⟨_,m,h3⟩:=h;cases m with
  |zero=>exact h3.elim
  |succ m=>
   obtain⟨ps,h4,_⟩:=h3
   grind
 grind
theorem X2{e:En}{c:Call}(ho:o.op=.call c)(hd:o.dst=some d)(h:agA e o=true):∃t kt et,c.callee=.builtin .len/\c.argTypes.toList=[t]/\(ty e.P t).k=.mp kt et:=by
 grind [agA]
theorem aeA{e:En}(he:e.ok)(M:∀x s,PQ e.pk x s->Q x s){k:St->Prop}(hc:opC g.nt o=true)(hq:isQ o=false)(h:lT e o s k):AOt e.P g o k Q s:=by
 intro a w Y;obtain⟨H,γ,F,hX⟩:=Y;have hn:=gR hX
 have T:∀{s1:St},(∃H' F',RX g s1.toS a w H' γ F')->opK e.P [] o s1.toS (upS k)->o.wp e.P a w (fun a' w'=>∃s':St,k s'/\R g s'.toS a' w') (lift g Q):=by
  intro s1 ⟨H',F',B⟩ hop;exact cy (fun a' w'⟨s',⟨t,e,hk⟩,N⟩=>⟨t,hk,C3 e N⟩) (fun _ _ _ h=>h) (LP (Q:=Q) CT.ok0 hc hop a w ⟨H',γ,F',B⟩)
 have j:=hc
 unfold opC at j;rw[aiW]at j;obtain⟨hd,j⟩:=j;unfold lT at h;cases ho:o.op with
 |store t x v=>
  rw[ho]at h j;simp only[aiW]at j;obtain⟨X,F0,h0⟩:=VA e.sh t v hX;obtain⟨H1,F1,h1⟩:=Re h0 (evA (NR e.sh s t v) x) (evA (NR e.sh s t v) v);refine cy (fun a' w'⟨s',⟨t,e,hk⟩,N⟩=>⟨t,hk,C3 e N⟩) (fun _ _ _ h=>h) (LP (Q:=Q) CT.ok0 hc (?_:opK e.P [] o _ (upS k)) a w ⟨H1,X,F1,h1⟩);unfold opK;rw[ho];dsimp only;rw[ah j.1,ah j.2];exact Un (fun t' hk=>⟨_,aJ t' o.dst .any,hk⟩) (gR h1) h
 |alloc t=>
  grind [opK,Ro]
 |box t x=>
  grind [opK,ZI]
 |buildSlice t n ps=>
  rw[ho]at h j;cases A:o.dst with
  |none=>grind
  |some d=>
   rw[A]at h hd;have B:=km (ps.toList.map fun x=>evA s x.2) s H F hX
   dsimp only at h;split at h
   ·grind [opK,zA,gR]
   ·split at h
    ·obtain⟨t',y,w',γ',F',J,hk,I⟩:=ya hX hd j h;unfold Oper.wp;have:(execOp a.eval o).run e.P w=.ok (.value y) w':=by simp_all[execOp]
     rw[this];exact⟨t',hk,_,γ',F',by rw[A];exact I⟩
    obtain⟨H1,F1,h1⟩:=B;obtain⟨s',y,w',H',γ',F',J,⟨t',et,hk⟩,I⟩:=xY (P:=e.P) h1 hd j (xZ j (gR h1) h);unfold Oper.wp;have:(execOp a.eval o).run e.P w=.ok (.value y) w':=by simp_all[execOp]
    rw[this];exact⟨t',hk,H',γ',F',br et (by grind)⟩
 |call c=>
  rw[ho]at h j;obtain⟨K,args,p⟩:=c;obtain⟨args⟩:=args;obtain⟨p⟩:=p;dsimp only at h j;cases K with
  |builtin b=>
   cases b with
   |append=>
    match args,p,h with
    |[x,y],[t,u],h=>
     have h1:aH x=true/\aH y=true:=by grind
     cases A:o.dst with
     |none=>grind
     |some d=>
      rw[A]at h hd;dsimp only at h;split at h
      rotate_left
      ·obtain⟨s',y',w',H',γ',F',J,⟨t',et,hk⟩,I⟩:=Ix (P:=e.P) (tt:=o.type) hX hd h1.1 h1.2 (Iy h1.1 h1.2 hn (fun q hq=>by
         have h3:=aL hX h1.2
         rw[ah h1.2,hq]at h3;obtain⟨_,h4,_⟩:=h3;exact pQ h4) (fun size s1 sub l q aa hb hq=>by
         have hy:=aL hX h1.2
         rw[ah h1.2]at hy;obtain⟨_,_,F1,_,B,_⟩:=mw hX hy hb;have h3:=aL B h1.1
         rw[ah h1.1,hq]at h3;obtain⟨_,h4,_⟩:=h3;exact pQ h4) h)
       unfold Oper.wp;have:(execOp a.eval o).run e.P w=.ok (.value y') w':=by
        simp_all[execOp,resolve,invoke,builtin]
       rw[this];exact⟨t',hk,H',γ',F',br et (by grind)⟩
      have B:=gS hX (evA s y)
      refine T B ?_;unfold opK;rw[ho,A];obtain⟨H1,F1,h2⟩:=B;exact Mn h1.1 h1.2 (gR h2) (fun q hq=>by
       have h3:=aL h2 h1.1
       rw[ah h1.1,hq]at h3;obtain⟨_,h4,_⟩:=h3;exact pQ h4) h
   |delete=>
    match args,p,h with
    |[x,i],t::ts,h=>
     have h1:aH x=true/\aH i=true:=by grind
     have h2:=aL hX h1.1
     have h3:=aL hX h1.2
     rw[ah h1.1]at h2;rw[ah h1.2]at h3;obtain⟨t',w',F',J,D,I⟩:=NK (tt:=o.type) hX h2 h3 h;unfold Oper.wp;have:(execOp a.eval o).run e.P w=.ok (.value (.tuple #[])) w':=by
      simp only[execOp,ho,resolve,invoke,builtin,Sem.run_bind,Sem.run_pure,Result.andThen_ok,List.map_toArray,aiZ,aj4];rw[J];rfl
     rw[this];exact⟨_,D,H,γ,F',br (aJ t' o.dst (.tup [])) (I.put hd ⟨#[],rfl,trivial⟩)⟩
   |_=>grind
  |value v=>
   cases v with
   |func f=>
    dsimp only at h;split at h
    ·rename_i C U hf;have O:=En.ok_get he U hf
     have hr:(execOp a.eval o).run e.P w=.ok (.enter f (args.map a.eval).toArray) w:=by
      grind [execOp,resolve,Act.eval,Deferred.ofValue,invoke,Cont.run]
     unfold Oper.wp;rw[hr];refine Calls.mono (O.call g e.pk s a w H γ F args _ hX j h) (fun e' w' hp=>?_);rcases hp with⟨r,s',av,H',γ',F',k1,k2,k3,k4⟩|⟨v,s',k1,k2,k4⟩
     ·subst k1;exact⟨_,k2,H',γ',F',br (aJ s' o.dst av) (k4.put hd k3)⟩
     ·subst k1;exact⟨_,M _ _ ⟨v,s',rfl,rfl,k2⟩,k4⟩
    grind
   |tmp t=>
    dsimp only at h;have L:Nat.blt t 100000=true->AR w H γ s.toS.m (gtA s.t t).toV (a.tmps.getD t undef):=fun S=>by
     have h3:=hX.t t
     rw[G.tv_lo (show t<TB from ajA S),show bd s.toS.t t=(gtA s.t t).toV from dC t s.t]at h3;exact h3
    split at h
    ·rename_i f S hf;split at h
     ·rename_i C U V;have O:=En.ok_get he U V
      have hv:a.eval (.tmp t)=.func (.func f) #[] #[]:=aaP (L S) hf
      have hr:(execOp a.eval o).run e.P w=.ok (.enter f (args.map a.eval).toArray) w:=by
       grind [execOp,resolve,Deferred.ofValue,invoke,Cont.run]
      unfold Oper.wp;rw[hr];refine Calls.mono (O.call g e.pk s a w H γ F args _ hX j h) (fun e' w' hp=>?_);rcases hp with⟨r,s',av,H',γ',F',k1,k2,k3,k4⟩|⟨v,s',k1,k2,k4⟩
      ·subst k1;exact⟨_,k2,H',γ',F',br (aJ s' o.dst av) (k4.put hd k3)⟩
      ·subst k1;exact⟨_,M _ _ ⟨v,s',rfl,rfl,k2⟩,k4⟩
     grind
    ·rename_i S hf;split at h
     ·rename_i key W;split at h
      ·rename_i C U;obtain⟨f,ps,rfl,hv⟩:=WC (L S) W;have ab:a.eval (.tmp t)=.func (.func f) #[] ps:=hv
       have O:=(En.ok_get' he U).2 kQ1
       ·have hr:(execOp a.eval o).run e.P w=.ok (.enter f ((args.map a.eval).toArray++ps)) w:=by
         have h5:=O.run
         grind [execOp,resolve,Deferred.ofValue,invoke]
        unfold Oper.wp;rw[hr];have h6:=O.call g e.pk s a w H γ F t args _ ps hX j (ajA S) (by grind) h
        rw[Nat.add_sub_cancel]at h6;refine Calls.mono h6 (fun e' w' hp=>?_);rcases hp with⟨r,s',av,H',γ',F',k1,k2,k3,k4⟩|⟨v,s',k1,k2,k4⟩
        ·subst k1;exact⟨_,k2,H',γ',F',br (aJ s' o.dst av) (k4.put hd k3)⟩
        ·subst k1;exact⟨_,M _ _ ⟨v,s',rfl,rfl,k2⟩,k4⟩
      grind
     grind
    grind
   |_=>grind
  |invoke r n=>grind
 |makeMap t r=>
  rw[ho]at h j;have key:∀d,o.dst=some d->jy e.P e.E (iB e.sh (4000000+t)).isSome s t d k->(∀v,r.map a.eval=some v->∃κ n,v=.int κ n)->o.wp e.P a w (fun a' w'=>∃s':St,k s'/\R g s'.toS a' w') (lift g Q):=by
   intro d A h hr;rw[A]at hd;obtain⟨t',y,w',γ',F',J,D,I⟩:=Ks hX hd h hr;unfold Oper.wp;have:(execOp a.eval o).run e.P w=.ok (.value y) w':=by simp_all[execOp]
   rw[this];exact⟨t',D,H,γ',F',by grind⟩
  dsimp only at h;split at h
  ·grind
  ·rename_i d x A;split at h
   ·rename_i κ n hx;refine key d A h (fun v hv=>?_);have h3:=aL hX (show aH x=true from j)
    rw[ah j,hx]at h3;exact⟨κ,n,by rw[<- Option.some.inj hv];exact(nl h3).1⟩
   grind
  grind
 |lookup t x i ok=>
  rw[ho]at h j;have h1:aH x=true/\aH i=true:=by grind
  have h2:=aL hX h1.1
  have h3:=aL hX h1.2
  rw[ah h1.1]at h2;rw[ah h1.2]at h3;dsimp only at h;split at h
  ·rename_i d _ A;rw[A]at hd;obtain⟨t',y,γ',F',J,D,I⟩:=Kz hX hd h1.1 h1.2 h;unfold Oper.wp;have:(execOp a.eval o).run e.P w=.ok (.value y) w:=by simp_all[execOp]
   rw[this];exact⟨_,D,H,γ',F',by grind⟩
  ·obtain⟨z,v,J,D,I⟩:=NM hX h2 h3 h;unfold Oper.wp;have:(execOp a.eval o).run e.P w=.ok (.value z) w:=by simp_all[execOp]
   rw[this];exact⟨_,I,H,γ,F,br (aJ s o.dst v) (hX.put hd D)⟩
 |mapUpdate t m i v=>
  rw[ho]at h j;have h1:(aH m=true/\aH i=true)/\aH v=true:=by grind
  dsimp only at h;split at h
  ·have h2:=aL hX h1.1.1
   have h3:=aL hX h1.1.2
   have h4:=aL hX h1.2
   rw[ah h1.1.1]at h2;rw[ah h1.1.2]at h3;rw[ah h1.2]at h4;obtain⟨t',w',F',J,D,I⟩:=NO hX h2 h3 h4 h;unfold Oper.wp;have:(execOp a.eval o).run e.P w=.ok .skip w':=by simp_all[execOp]
   rw[this];exact⟨_,D,H,γ,F',br (aJ t' o.dst .any) (I.put hd trivial)⟩
  obtain⟨H1,F1,B⟩:=gS hX (evA s v);generalize gZ s (evA s v)=s1 at h B;have h2:=aL B h1.1.1
  have h3:=aL B h1.1.2
  have h4:=aL B h1.2
  rw[ah h1.1.1]at h2;rw[ah h1.1.2]at h3;rw[ah h1.2]at h4;obtain⟨t',w',F',J,D,I⟩:=NP B h2 h3 h4 h;unfold Oper.wp;have:(execOp a.eval o).run e.P w=.ok .skip w':=by simp_all[execOp]
  rw[this];exact⟨_,D,H1,γ,F',br (aJ t' o.dst .any) (I.put hd trivial)⟩
 |makeSlice t n c=>
  rw[ho]at h j;have h1:aH n=true/\aH c=true:=by grind
  cases A:o.dst with
  |none=>grind
  |some d=>
   rw[A]at h hd;obtain⟨t',y,w',γ',F',J,D,I⟩:=Ch hX hd h1.1 h;unfold Oper.wp;have:(execOp a.eval o).run e.P w=.ok (.value y) w':=by simp_all[execOp]
   rw[this];exact⟨t',D,H,γ',F',by grind⟩
 |makeFunc fn first caps=>
  rw[ho]at h j;dsimp only at h;split at h
  ·rename_i f Z;obtain⟨t',H',J,D⟩:=Fx hX hd j h;unfold Oper.wp;have hf0:first=#[]:=by grind
   have:(execOp a.eval o).run e.P w=.ok (.value (.func (.func f) #[] (caps.toList.map a.eval).toArray)) w:=by
    simp only[execOp,ho,hf0,Instr.makeFunc,Sem.run_bind,Sem.run_pure,Result.andThen_ok,Array.map_empty];simp[<- Array.toList_map]
   rw[this];exact⟨t',J,H',γ,F,D⟩
  grind
 |range t x=>
  rw[ho]at h j;cases A:o.dst with
  |none=>grind
  |some d=>
   rw[A]at h hd;obtain⟨t',y,w',H',γ',F',J,D,I⟩:=T2 hX hd j h;unfold Oper.wp;have:(execOp a.eval o).run e.P w=.ok (.value y) w':=by simp_all[execOp]
   rw[this];exact⟨t',D,H',γ',F',by grind⟩
 |next x b=>
  rw[ho]at h j;cases b with
  |true=>grind
  |false=>
   have h1:=aL hX (show aH x=true from j)
   rw[ah j]at h1;obtain⟨t',z,w',F',J,D,I⟩:=XT hX hd h1 o.type h;unfold Oper.wp;have:(execOp a.eval o).run e.P w=.ok (.value z) w':=by simp only[execOp,ho];rw[Sem.run_bind,J];rfl
   rw[this];exact⟨t',D,H,γ,F',I⟩
 |entry x=>
  rw[ho]at h j;have h1:=aL hX (show aH x=true from j)
  rw[ah j]at h1;obtain⟨t',z,J,D,I⟩:=SE hX hd h1 h;unfold Oper.wp;have:(execOp a.eval o).run e.P w=.ok (.value z) w:=by simp only[execOp,ho];rw[Sem.run_bind,J];rfl
  rw[this];exact⟨t',D,H,γ,F,I⟩
 |_=>grind
theorem Gy{e:En}(he:e.ok)(j:∀x s,PQ e.pk x s->Q x s){k:St->Prop}(hc:opC g.nt o=true)(h:FP e o s k):AOt e.P g o k Q s:=by
 unfold FP at h;split at h
 ·rename_i hq;intro a w ⟨H,γ,F,hX⟩;obtain⟨H1,F1,b⟩:=zm hX o;obtain⟨z,d,B,_,f,c,i⟩:=Bf b hc (Yn b hc h);obtain⟨l,rfl,hk⟩:=i;unfold Oper.wp;rw[f w (fun _ _=>rfl)];exact⟨_,hk,H1,γ,F1,br (aJ _ _ _) (b.put (fT hc) c)⟩
 grind [aeA]
theorem Y8{e:En}(he:e.ok)(J:∀x s,PQ e.pk x s->Q x s){k:St->Prop}(hc:opC g.nt o=true)(h:opT e o s k):AOt e.P g o k Q s:=by
 unfold opT at h;split at h
 ·rename_i u;intro a w ⟨H,γ,F,hX⟩;unfold Lp at h;have b:=hc
  unfold opC at b;rw[aiW]at b;obtain⟨hd,b⟩:=b;split at h
  ·rename_i t x hi d ho f;rw[ho]at b;rw[f]at hd;simp only[aiW,Option.all_none,Option.all_some,and_true]at b;obtain⟨t',y,γ',F',E,j,C⟩:=K9 hX hd b.1 b.2 h;unfold Oper.wp;have:(execOp a.eval o).run e.P w=.ok (.value y) w:=by simp_all[execOp]
   rw[this];exact⟨t',j,H,γ',F',by grind⟩
  ·rename_i x d ho f;rw[ho]at b;rw[f]at hd;obtain⟨t',H',F',j,C⟩:=NL hX hd b h;unfold Oper.wp;have:(execOp a.eval o).run e.P w=.ok (.value (a.eval x)) w:=by simp_all[execOp]
   rw[this];exact⟨t',j,H',γ,F',by grind⟩
  ·rename_i c d ho f;rw[ho]at b;rw[f]at hd;split at h
   ·rename_i x hx;obtain⟨t,kt,et,K,I,G⟩:=X2 ho f u;have A:aH x=true:=by
     grind
    have h1:=aL hX A
    rw[ah A]at h1;obtain⟨t',z,E,j,C⟩:=NN (tt:=o.type) hX hd h1 G h;unfold Oper.wp;have:(execOp a.eval o).run e.P w=.ok (.value z) w:=by
     obtain⟨D,⟨args⟩,⟨p⟩⟩:=c
     simp_all[builtin,execOp,resolve,invoke]
    rw[this];exact⟨t',j,H,γ,F,by grind⟩
   grind
  ·rename_i t x i d ho f;rw[ho]at b;simp only[aiW]at b;obtain⟨H1,n⟩:=qq [evA s x] s H hX;dsimp only at h;generalize rN s [evA s x]=s1 at h n;split at h
   ·rename_i row r;split at h
    ·rename_i l hl;have E:=Eh hl
     have hk:=rQ (m:=s1.m) (P:=e.P) (t:=t) (x:=.one (.c (.ga .s l 0))) (i:=evA s1 i) (fun q hq=>by grind) h
     have j:(At.one (.c (.ga .s l 0))).toV=ev s1.toS x:=by
      rw[ah b.1,r,E];show AV.one (.c (.el _ 0))=AV.one (.c (.el _ 0))
      rw[aj9];rfl
     rw[j,<- ah b.2]at hk;have hq:qK e.P o s1.toS (up fun v=>k (s1.put (some d) v)):=by unfold qK;rw[ho];exact hk
     obtain⟨z,O,B,_,C,L,N,rfl,M⟩:=Bf n hc hq;unfold Oper.wp;rw[C w (fun _ _=>rfl)];exact⟨_,M,H1,γ,F,by rw[f];exact br (aJ _ _ _) (n.put (by grind) L)⟩
    grind
   grind
  grind
 grind [Gy]
theorem UB{s s':S}(e:SEq s s')(h:AO P g o K Q s'):AO P g o K Q s:=fun a w b=>h a w (C3 e b)
theorem LN{ops rest:List Oper}{s s':S}(e:SEq s s')(h:AL P g ops rest Q s'):AL P g ops rest Q s:=fun a w b=>h a w (C3 e b)
theorem OP(h:AOt P g o (fun t=>K t.toS) Q s):AO P g o K Q s.toS:=fun a w c=>
 cy (fun a' w'⟨s',hk,b⟩=>⟨s'.toS,hk,b⟩) (fun _ _ _ h=>h) (h a w c)
theorem uQ(s:St)(d:Nat)(b:Bool):SEq (s.toS.put (some d) (.one (.c (.d (.bool b))))) (s.put (some d) (sct (.bo b))).toS:=aJ s (some d) (sct (.bo b))
theorem Ba(s:St)(d:Nat)(b:Bool)(o:Option Tmp):SEq ((s.toS.put (some d) (.one (.c (.d (.bool b))))).put o (.tup [])) ((s.put (some d) (sct (.bo b))).put o (.tup [])).toS:=by
 have h1:=uQ s d b
 have h2:=aJ (s.put (some d) (sct (.bo b))) o (.tup [])
 refine⟨fun i=>?_,?_⟩
 ·rw[<- h2.1 i];cases o with
  |none=>exact h1.1 i
  |some o=>show bd (tb _ o _) i=bd (tb _ o _) i;rw[iW,iW,h1.1 i];rfl
 ·rw[<- h2.2];cases o<;>exact h1.2
theorem nk{e:En}(he:e.ok)(f:∀x s,PQ e.pk x s->Q x s){k:St->Prop}:∀{rest:List Oper}{s:St},abU g.nt all rest=true->oo e all rest s k->(∀t:St,k t->Q .normal t.toS)->AL e.P g all rest Q s.toS
 |[],s,_,h,n=>UA (n s h)
 |o::r,s,hc,h,n=>by
  simp only[abU,aiW]at hc;obtain⟨⟨l,b⟩,i⟩:=hc;simp only[oo]at h;have run:∀{s:St},opT e o s (fun s'=>oo e all r s' k)->AO e.P g o (AL e.P g all r Q) Q s.toS:=fun{s}h=>
   OP (fun a w y=>cy (fun a' w'⟨s',hk,v⟩=>⟨s',nk he f i hk n,v⟩) (fun _ _ _ h=>h) (Y8 he f l h a w y))
  cases u:o.guard with
  |none=>
   grind [OO]
  |some q=>
   obtain⟨j,want⟩:=q;rw[u]at h b;dsimp only at h b;cases hj:(all[j]?).bind (·.dst)with
   |none=>grind
   |some d=>
    rw[hj]at h b;dsimp only at h b;split at h
    ·rename_i c m;have p:bd s.toS.t d=.one (.c (.d (.bool c))):=jH m
     cases want with
     |true=>
      dsimp only at h;refine Gx u hj p b (fT l) (fun hc=>?_) (fun hc=>?_)
      ·grind [UB,uQ]
      ·subst hc;rw[if_neg (by simp)]at h;exact LN (Ba s d _ _) (nk he f i h n)
     |false=>
      dsimp only at h;refine Gx u hj p b (fT l) (fun hc=>?_) (fun hc=>?_)
      ·grind [UB,uQ]
      ·subst hc;rw[if_pos (by rfl)]at h;exact LN (Ba s d _ _) (nk he f i h n)
    ·rename_i m;exact LO u hj (jH m) (fT l) (LN (aJ s o.dst (.tup [])) (nk he f i h n))
    grind
theorem AX{e:En}(he:e.ok){k k':St->Prop}:∀{rest:List Oper}{s:St},(∀s',Ext s s'->k s'->k' s')->oo e all rest s k->oo e all rest s k'
 |[],s,hk,h=>hk s (Ext.refl s) h
 |o::r,s,hk,h=>by
  have run:∀{s1:St},Ext s s1->opT e o s1 (fun s'=>oo e all r s' k)->opT e o s1 (fun s'=>oo e all r s' k'):=fun{s1}h1 h=>
   abT he (fun s' h2 b=>AX he (fun a h3=>hk a ((h1.trans h2).trans h3)) b) h
  have rest:∀{s1:St},Ext s s1->oo e all r s1 k->oo e all r s1 k':=fun{s1}h1 h=>AX he (fun a h3=>hk a (h1.trans h3)) h
  simp only[oo]at h⊢;split at h
  ·grind [Ext.refl]
  ·rename_i j want g;split at h
   ·rename_i d hj;split at h
    ·rename_i c f;cases want<;>cases c<;>simp only[ai8,if_true,if_false]at h⊢
     ·grind [aC]
     ·exact rest ((aC _ _ _).trans (aC _ _ _)) h
     ·exact rest ((aC _ _ _).trans (aC _ _ _)) h
     grind [aC]
    all_goals grind [aC]
   omega
end
variable{fuel:Nat}{listed:Array Bool}{no:St->Prop}{ops:Array Oper}
section
variable {e:En} {g:G} {k:St->Prop} {Q:Exit->S->Prop}
theorem S0(h:Xk x=true):JG x.toV=true:=by
 unfold Xk at h;split at h
 ·rfl
 ·rfl
 grind
theorem MS{s:St}(hc:opC g.nt o=true)(h:nM s o=true):gN s.toS o:=by
 grind [nM,gN,opC,ah,S0]
theorem adS{ops:List Oper}{s:St}{f:St->Prop}(h:gT ops o s f no):gK ops o s.toS (upS f) (upS no):=by
 unfold gT at h;unfold gK;cases b:o.guard with
 |none=>rw[b]at h;exact⟨s,⟨fun _=>rfl,rfl⟩,h⟩
 |some q=>
  obtain⟨j,want⟩:=q;rw[b]at h;dsimp only at h⊢;cases hj:(ops[j]?).bind (·.dst)with
  |none=>grind
  |some d=>
   rw[hj]at h;dsimp only at h⊢;split at h
   ·rename_i c a;rw[jH a]
    grind [At.toV,A1.toV,Tt.toT,C.toD,gsel,uQ,Ba]
   ·rename_i a;rw[jH a];exact⟨_,aJ s o.dst (.tup []),h⟩
   grind
theorem W4{ops:List Oper}{s:St}{f f' a:St->Prop}(hf:∀s',Ext s s'->f s'->f' s')(hn:∀s',Ext s s'->no s'->a s')(h:gT ops o s f no):gT ops o s f' a:=by
 unfold gT at h⊢;cases b:o.guard with
 |none=>grind [Ext.refl]
 |some q=>
  obtain⟨j,want⟩:=q;rw[b]at h;dsimp only at h⊢;cases hj:(ops[j]?).bind (·.dst)with
  |none=>grind
  |some d=>
   rw[hj]at h;dsimp only at h⊢;split at h
   ·rename_i c _;cases want<;>cases c<;>simp only[ai8,if_true,if_false]at h⊢
    ·grind [aC]
    ·exact hn _ ((aC _ _ _).trans (aC _ _ _)) h
    ·exact hn _ ((aC _ _ _).trans (aC _ _ _)) h
    grind [aC]
   all_goals grind [aC]
theorem Gw{A:List Nat}{fz:Bool}(E:lC g.nt ops=true)(hs:Region.noSelect ops=true)(hi:ops[i]? = some o)
  (q:BB ops listed i A fz=true) {s:St} {D:St->Prop} (r:∀s:St,D s->AD e.P g ops Q K fuel (listed.setIfInBounds i true) s.toS)
  (h:gT ops.toList o s (fun s=>(fz=true->nM s o=true)/\qT e o s fun v=>D (s.put o.dst v)) D):AD e.P g ops Q K (fuel+1) listed s.toS:=by
 intro a w H γ F Pr hX l;simp only[BB,aiW]at q;obtain⟨⟨⟨⟨t,G⟩,t3⟩,t4⟩,t5⟩:=q;obtain⟨p,c2⟩:=jx E hi;have c:=Region.ready_mem_of_contains G
 have n:behind .any ops i (fun j=>A.contains j) listed:=by
  intro j hj f;have:=ajB.1 t4 j (by grind)
  rw[fY.2 f]at this;cases ho:ops[j]?<;>grind [fY]
 have k:∀j,(listed.setIfInBounds i true).getD j true=false->listed.getD j true=false:=fun j h=>(iV h).1
 rcases uo hX (adS h) (fT p) c2 with⟨hw,s0,⟨s',e0,hf,hq⟩,hX0⟩|⟨hw,s0,⟨s',e0,hno⟩,hX0⟩
 ·have hX':=br e0 hX0
  obtain⟨z,d,B,e0,x,u,J,C,hk⟩:=Bf hX' p (Yn hX' p hq);subst C;refine j0 (tT g Q) (A:=fun j=>A.contains j) (B:=B) (v:=z) hi (Region.noSelect_spec hs) fuel listed Pr (fun j b=>Pr j b\/(A.contains j=false/\B b)) a w (fun j b h=>.inl h) (fun j b h1 h2=>.inr ⟨h1,h2⟩)
   (Region.free_spec hi t) n c (.inl ⟨hw,fun w2 hs2=>x w2 hs2⟩) (r _ hk (a.put o.dst z) w H γ F _ (br (aJ _ _ _) (hX'.put (fT p) u)) ?_)
  intro j I hj f;obtain⟨m,y⟩:=iV f;rcases l j I hj m with hp|hp
  all_goals grind [MS,fY]
 ·have hX':=br e0 hX0
  refine j0 (tT g Q) (A:=fun _=>false) (B:=fun _=>False) (v:=undef) hi (Region.noSelect_spec hs) fuel listed Pr Pr a w (fun j b h=>h) (fun j b _ h2=>h2.elim)
   (Region.free_spec hi t) (fun j h=>by cases h) c (.inr ⟨hw,rfl⟩) (r _ hno (a.put o.dst undef) w H γ F _ hX' (l.mono k (fun _ _ _ h=>h)))
theorem Uz(he:e.ok)(E:∀x s,PQ e.pk x s->Q x s)(S:lC g.nt ops=true)(L:listed.getD i true=false)(hi:ops[i]? = some o){s:St}
  {D:St->Prop} (I:∀s:St,D s->AD e.P g ops Q K fuel (listed.setIfInBounds i true) s.toS) (h:gT ops.toList o s (fun s=>FP e.cl o s D) D) {a:Act} {w:World} {H:FH} {γ:Gam} {F:Nm->Fp} {Pr:Nat->Bs} (hX:RX g s.toS a w H γ F) (k:Q4 ops listed H Pr) :
  lOp e.P ops (Zx g Q) Pr i (fun a' w'=>∃r:Nat->Bs,(∀j b,Pr j b->r j b)/\tj e.P .any ops (Zx g Q) (fun a w=>∃s',K s'/\R g s' a w) fuel (listed.setIfInBounds i true) r a' w') a w:=by
 have f:∀j,(listed.setIfInBounds i true).getD j true=false->listed.getD j true=false:=fun j h=>(iV h).1
 unfold lOp;rw[hi];obtain⟨q,c2⟩:=jx S hi;dsimp only;rcases uo hX (adS h) (fT q) c2 with⟨hw,s0,⟨s',e0,hop⟩,hX0⟩|⟨hw,s0,⟨s',e0,hno⟩,hX0⟩
 ·have hX':=br e0 hX0
  rw[if_pos hw];by_cases hq:isQ o=true
  ·unfold FP at hop;rw[hq]at hop;dsimp only at hop;obtain⟨H1,F1,n,u⟩:=Io hX' (fun g' H F hx=>zm hx o);obtain⟨z,d,B,_,O,N,T⟩:=Bf n q (Yn n q hop);obtain⟨U,rfl,hk⟩:=T;unfold Oper.wp;rw[O w (fun _ _=>rfl)];exact⟨fun _ _=>rfl,Pr,fun _ _ h=>h,I _ hk (a.put o.dst z) w H1 γ F1 Pr (br (aJ _ _ _) (n.put (fT q) N)) (k.mono f u)⟩
  ·have hp:∀b,Pr i b->∃x y,H b x=some y:=by
    rcases k i o hi L with h|h
    all_goals grind
   let g':G:=⟨g.nt,w,H,tot F s'.toS.m,g.out,g.ex,g.dfs⟩
   have A:RX g' s'.toS a w H γ F:=⟨hX'.mem,Fr.refl' rfl rfl rfl rfl (fun _ h=>h),hX'.nt,⟨hX'.df.1,hX'.df.2.1,kl hX'⟩,hX'.t⟩
   refine cy ?_ (fun x a' w' h=>?_) (Gy (g:=g') (e:=e.cl) (Q:=PQ e.cl.pk) he (fun _ _ h=>h) q hop a w ⟨H,γ,F,A⟩)
   ·intro a' w' ⟨s2,hs2,C,l,M,c⟩;have p:=c.fr
    refine⟨fun b hb=>?_,Pr,fun _ _ h=>h,?_⟩
    ·obtain⟨x,y,J⟩:=hp b hb;have hc:=hX'.mem.agree b x y J
     refine p.block b ?_ ?_
     ·exact hc.lt
     ·show tot F s'.toS.m b=0
      rcases ajZ (tot F s'.toS.m b)with h|h
      ·exact h
      ·have:=hX'.mem.nofz b kQ1 x
       grind
    ·exact I _ hs2 a' w' C l M Pr ⟨c.mem,hX'.fr.trans p,c.nt,⟨c.df.1,c.df.2.1,hX'.df.2.2⟩,c.t⟩ (k.mono f p.hold)
   ·obtain⟨s2,⟨v,t,rfl,rfl,hv⟩,C,l,M,c⟩:=h;exact⟨t.clr.toS,rfl,E _ _ ⟨v,t.clr,rfl,rfl,hv⟩,C,l,M,Vw ⟨c.mem,hX'.fr.trans c.fr,c.nt,⟨c.df.1,c.df.2.1,hX'.df.2.2⟩,c.t⟩ rfl rfl⟩
 ·have hX':=br e0 hX0
  rw[if_neg (by grind)];exact⟨Pr,fun _ _ h=>h,I _ hno (a.put o.dst undef) w H γ F Pr hX' (k.mono f (fun _ _ _ h=>h))⟩
theorem kK{s:St}{A:List Nat}{fz:Bool}:∀{a:List Nat},A2 ops listed s a=some (i,A,fz) ->
  ∃o,ops[i]? = some o/\BB ops listed i A fz=true/\(fz=true->nM s o=true)/\isQ o=true
 |[],h=>by cases h
 |j::r,h=>by
  simp only[A2]at h;split at h
  ·exact kK h
  ·rename_i o ho;split at h
   ·exact kK h
   ·rename_i hq;split at h
    ·rename_i hf;split at h
     ·grind
     ·exact kK h
    ·split at h
     ·grind
     ·exact kK h
theorem Iv{f:Nat->Prop}:∀{l:List Nat},VK f l->∀i∈l,f i
 |[i],h,j,hj=>by simp only[ajD]at hj;subst hj;exact h
 |i::i'::r,h,j,hj=>by
  simp only[ai7]at hj;rcases hj with rfl|hj
  ·exact h.1
  ·exact Iv h.2 j (by grind)
theorem TU{s:St}{x:Operand}(h:o.op=.load t x):KR s o=s:=by grind [KR]
theorem tu(he:e.ok)(c:∀x s,PQ e.pk x s->Q x s)(f:lC g.nt ops=true)(hs:Region.noSelect ops=true)(p:∀t:St,k t->K t.toS) :
  ∀(fuel:Nat)(listed:Array Bool)(s:St),jP e ops fuel listed s k->AD e.P g ops Q K fuel listed s.toS
 |0,listed,s,h=>by
  grind [jP,Uy]
 |fuel+1,listed,s,h=>by
  simp only[jP]at h;split at h
  ·grind [Uy]
  ·rename_i y v hr;split at h
   ·rename_i i A fz hp;obtain⟨o,hi,r,hf,hq⟩:=kK hp;rw[hi]at h;dsimp only at h;obtain⟨z,c2⟩:=jx f hi;split at h
    ·rename_i u;intro a w H γ F Pr hX d;obtain⟨H1,F1,l,n⟩:=Io hX (fun g' H F hx=>zm hx o);refine Gw (D:=fun s'=>jP e ops fuel (listed.setIfInBounds i true) s' k) f hs hi r (fun s' b=>tu he c f hs p fuel _ _ b) ?_ a w H1 γ F1 Pr l (d.mono (fun _ h=>h) n)
     grind [gT,TU,nM]
    ·rename_i q u;refine Gw (D:=fun s'=>jP e ops fuel (listed.setIfInBounds i true) s' k) f hs hi r (fun s' b=>tu he c f hs p fuel _ _ b) ?_
     grind
   ·intro a w H γ F Pr hX d;refine⟨fun h0=>absurd (hr ▸ h0) (by simp),fun i hi=>?_⟩;have m:listed.getD i true=false:=(mem_ready.1 hi).1
    have j:=Iv h i (hr ▸ hi)
    cases ho:ops[i]? with
    |none=>grind
    |some o=>
     rw[ho]at j;exact Uz he c f m ho (fun s b=>tu he c f hs p fuel _ s b) j hX d
theorem UK{id:Nat}{l:List Oper}(he:e.ok)(c:∀x s,PQ e.pk x s->Q x s)(i:e.P.follows .mixedOrders=true)(m:lC g.nt l.toArray=true)(hs:Region.noSelect l.toArray=true){s:St}
  (f:∀t:St,k t->Q .normal t.toS) (h:jP e l.toArray l.toArray.size (Array.replicate l.toArray.size false) s k):AW e.P g (.region id l.toArray true) Q s.toS:=by
 intro a w d;refine wp_region_any i (oH (Z:=Zx g Q) (Q:=fun a w=>∃s',Q .normal s'/\R g s' a w) (fun a w h=>h) (fun e a w h=>Zt h) _ _ (fun _ _=>False) _ _ ?_);obtain⟨H,γ,F,hX⟩:=d;exact tu (Q:=Q) he c m hs f _ _ s h a _ H γ F _ (Vr hX _ rfl rfl rfl rfl) (fun j o _ _=>.inr fun b hb=>hb.elim)
theorem Iu{f f':Nat->Prop}(h:∀i,f i->f' i):∀{l:List Nat},VK f l->VK f' l
 |[],_=>trivial
 |[i],a=>h i a
 |i::i'::r,a=>⟨h i a.1,Iu h (l:=i'::r) a.2⟩
theorem j7(he:e.ok){k':St->Prop}:∀{fuel:Nat}{listed:Array Bool}{s:St},(∀s',Ext s s'->k s'->k' s')->jP e ops fuel listed s k->jP e ops fuel listed s k'
 |0,listed,s,hk,h=>by
  grind [jP,Ext.refl]
 |fuel+1,listed,s,hk,h=>by
  simp only[jP]at h⊢;split at h
  ·grind [Ext.refl]
  ·split at h
   ·split at h
    ·split at h
     ·exact FV (fun v hv=>j7 he (fun s' a=>hk s' (((GH _ _).trans (aC _ _ _)).trans a)) hv) h
     ·refine W4 (fun s1 h1 hs1=>?_) (fun s1 h1 hs1=>j7 he (fun s' a=>hk s' (h1.trans a)) hs1) h;split at hs1
      ·exact FV (fun v hv=>j7 he (fun s' a=>hk s' ((h1.trans (aC _ _ _)).trans a)) hv) hs1
      omega
    omega
   ·refine Iu (fun i hi=>?_) h;split at hi
    ·exact W4 (fun s1 h1 hs1=>KI (e:=e.cl) he (fun s2 h2 hs2=>j7 he (fun s' a=>hk s' ((h1.trans h2).trans a)) hs2) hs1) (fun s1 h1 hs1=>j7 he (fun s' a=>hk s' (h1.trans a)) hs1) hi
    omega
end
def rF(N:List Nm):T->Prop
 |.pl p=>p.root∈N
 |.rf p=>p.root∈N
 |_=>True
def yK(N:List Nm):AV1->Prop
 |.c t=>rF N t
 |.agg ts=>∀t∈ts,rF N t
def LR(N:List Nm):AV->Prop
 |.one x=>yK N x
 |.tup xs=>∀x∈xs,yK N x
 |.any=>True
def lR(r:Root):Root:=⟨r.blk,r.cells.map T.canon⟩
def np(r a:Root):Prop:=a.blk=r.blk/\a.cells.length=r.cells.length/\∀(i:Nat)t t',r.cells[i]? = some t->a.cells[i]? = some t'->t'=t\/t'=t.canon
theorem np.refl(r:Root):np r r:=⟨rfl,rfl,fun i t t' h1 h2=>.inl (by grind)⟩
theorem np.canon(r:Root):np r (lR r):=⟨rfl,by simp[lR],fun i t t' h1 h2=>.inr (by grind [lR])⟩
theorem np.of{r r':Root}(h:r'=r\/r'=lR r):np r r':=by
 grind [np.refl,np.canon]
theorem sI:∀{m:Mm}{n:Nm}{r:Root},(m.map (·.1)).Nodup->(n,r)∈m->af m n=some r
 |[],_,_,_,h=>by cases h
 |(k,x)::m,n,r,hn,h=>by
  simp only[aiZ,aj3]at hn;simp only[af];rcases ai7.1 h with h|h
  ·grind
  ·rw[if_neg (fun e=>hn.1 (by grind)),sI hn.2 h]
theorem Lz{F:Nm->Fp}{b:Nat}:∀{m' m:Mm},(m'.map (·.1)).Nodup->(m.map (·.1)).Nodup->(∀x∈m',∃r,af m x.1=some r)->tot F m' b<=tot F m b
 |[],_,_,_,_=>ajW _
 |x::m',m,h1,h2,h=>by
  simp only[aiZ,aj3]at h1;obtain⟨r,hr⟩:=h x (by simp);have e:=qb (F:=F) hr b
  have ih:=Lz (F:=F) (b:=b) (m':=m') (m:=cv m x.1) h1.2 (AP h2) (fun y hy=>by
   grind [mF])
  grind [tot]
section
variable {g:G} {a:Act} {w:World} {H:FH} {γ:Gam} {F:Nm->Fp}
theorem LZ{R a:T->Fp->Value->Prop}:∀{ts:List T}{ts':List T}{f:Fp}{vs:List Value},ts'.length=ts.length->(∀(i:Nat)t t' f v,ts[i]? = some t->ts'[i]? = some t'->R t f v->a t' f v)->Ts R ts f vs->Ts a ts' f vs
 |[],[],_,_,_,_,h=>h
 |t::ts,t'::ts',f,vs,hl,hi,h=>by
  obtain⟨v,r,f1,c,d,b,h1,h2⟩:=h;exact⟨v,r,f1,c,d,b,hi 0 t t' _ _ rfl rfl h1,LZ (by grind) (fun i=>hi (i+1)) h2⟩
theorem Vy{s s':S}(hX:RX g s a w H γ F)(G:(s'.m.map (·.1)).Nodup)
  (M:∀x∈s'.m,∃r,af s.m x.1=some r/\np r x.2/\∀t∈r.cells,rF (s'.m.map (·.1)) t)
  (O:∀i,bd s'.t i=.any\/((bd s'.t i=bd s.t i\/bd s'.t i=(bd s.t i).map T.canon)/\LR (s'.m.map (·.1)) (bd s.t i))):RX g s' a w H γ F:=by
 have hget:∀n,n∈s'.m.map (·.1)->∃r k,af s.m n=some r/\af s'.m n=some k/\np r k:=by
  grind [sI]
 have cell:∀{r k:Root},np r k->k.cells.length=r.cells.length/\∀(i:Nat)sub l,r.cells[i]? = some (.ow sub l)->k.cells[i]? = some (.ow sub l):=by
  rintro r k ⟨_,h2,h3⟩
  refine⟨h2,fun i sub l h=>?_⟩;have j:i<k.cells.length:=by grind
  rw[aiY j];rcases h3 i _ _ h (aiY j)with e|e
  ·rw[e]
  ·rw[e];rfl
 have pl:∀p,p.root∈s'.m.map (·.1)->cj s.m p->cj s'.m p:=by
  intro p hp h;obtain⟨r,k,u,C,B⟩:=hget _ hp;obtain⟨L,c2⟩:=cell B;unfold cj at h⊢
  grind (splits:=20)
 have rf:∀p,p.root∈s'.m.map (·.1)->iG s.m p->iG s'.m p:=by
  intro p hp h;obtain⟨r,k,u,C,B⟩:=hget _ hp;obtain⟨L,c2⟩:=cell B;unfold iG at h⊢;rw[u]at h;rw[C];dsimp only at h⊢;split at h
  ·grind
  ·rename_i l hc A;have j:p.off<k.cells.length:=by grind
   have K:k.cells[p.off]? = some (.mp l):=by
    rw[aiY j];rcases B.2.2 p.off _ _ hc (aiY j)with e|e
    ·rw[e]
    ·rw[e];rfl
   grind
  ·rename_i cur l hc A;have j:p.off<k.cells.length:=by grind
   have K:∃D,k.cells[p.off]? = some (.it D l):=by
    rw[aiY j];rcases B.2.2 p.off _ _ hc (aiY j)with e|e
    ·grind
    ·exact⟨none,by rw[e];rfl⟩
   grind
  all_goals grind
 have tr:∀{t:T}{f:Fp}{v:Value},rF (s'.m.map (·.1)) t->TR w H γ s.m t f v->TR w H γ s'.m t f v:=by
  intro t f v d h;cases t with
  |pl p=>exact⟨h.1,pl p d h.2.1,h.2.2⟩
  |rf p=>exact⟨h.1,rf p d h.2.1,h.2.2⟩
  |_=>exact h
 have N:∀{t:T}{f:Fp}{v:Value},rF (s'.m.map (·.1)) t->TR w H γ s.m t f v->TR w H γ s'.m t.canon f v:=by
  intro t f v d h;have h':=tr d h
  cases t with
  |nil=>exact⟨h'.1,(fu (w:=w) (H:=H) (γ:=γ) (m:=s'.m) .nil v ⟨fun _=>rfl,h'.2⟩).2⟩
  |it cur rest=>exact adH h'
  |_=>exact h'
 have E:∀b,tot F s'.m b<=tot F s.m b:=fun b=>Lz G hX.mem.keys (fun x hx=>by grind)
 refine⟨⟨hX.mem.agree,fun x hx=>?_,G,fun b=>ajJ (E b) (hX.mem.le1 b),fun b hb=>hX.mem.lt b (by grind),fun b hb=>hX.mem.nofz b (by grind)⟩,
  ⟨hX.fr.size,hX.fr.os,hX.fr.tape,hX.fr.output,hX.fr.block,hX.fr.hold,hX.fr.hnew,fun b hb=>hX.fr.tt b (by grind),hX.fr.nz⟩,hX.nt,hX.df,fun i=>?_⟩
 ·obtain⟨r,h1,h2,h3⟩:=M x hx;have J:=hX.mem.roots _ (ak h1)
  have o:=(cell h2).1
  have key:∀(i:Nat)t t' f v,r.cells[i]? = some t->x.2.cells[i]? = some t'->TR w H γ s.m t f v->TR w H γ s'.m t' f v:=by
   intro i t t' f v u C h;have d:=h3 t (akI u)
   rcases h2.2.2 i t t' u C with e|e
   all_goals grind
  have I:x.2.blk=r.blk:=h2.1
  unfold bZ at J⊢;rw[I];split at J
  ·rename_i hb;rw[if_pos hb];obtain⟨b,cs,ty,fz,g',k1,k2,k3,k4,k5,k6⟩:=J;exact⟨b,cs,ty,fz,g',k1,k2,k3,by grind,LZ o key k5,k6⟩
  ·rename_i hb;rw[if_neg hb];obtain⟨v,t,k1,k2,k3⟩:=J;dsimp only at k2;rw[k2]at o key
   match hc:x.2.cells,o with
   |[t'],_=>exact⟨v,t',k1,rfl,key 0 t t' _ _ rfl (by grind) k3⟩
 ·rcases O i with h|⟨h,d⟩
  ·rw[h];trivial
  ·have hv:=hX.t i
   have one:∀{x:AV1}{y:Value},yK (s'.m.map (·.1)) x->AR1 w H γ s.m x y->AR1 w H γ s'.m x y:=by
    intro x y d h;cases x with
    |c t=>exact tr d h
    |agg ts=>
     obtain⟨cs,u,C,B⟩:=h;refine⟨cs,u,C,LZ rfl (fun i t t' f v h1 h2 h=>?_) B⟩;rw[h1]at h2;obtain rfl:=Option.some.inj h2;exact tr (d t (akI h1)) h
   have all:AR w H γ s'.m (bd s.t i) (g.tv a i):=by
    revert hv d
    cases bd s.t i with
    |one x=>exact fun d hv=>one d hv
    |tup xs=>
     rintro d ⟨l,e,hl⟩
     refine⟨l,e,?_⟩;have:∀(xs:List AV1)(q:List Value),(∀x∈xs,yK (s'.m.map (·.1)) x)->ARs w H γ s.m xs q->ARs w H γ s'.m xs q:=by
      intro xs;induction xs with
      |nil=>intro q _ h;cases q<;>exact h
      |cons x xs ih=>
       intro q d h;cases q with
       |nil=>exact h.elim
       |cons y q=>exact⟨one (d x (by simp)) h.1,ih q (fun z hz=>d z (ajM _ hz)) h.2⟩
     exact this xs _ d hl
    |any=>exact fun _ _=>trivial
   grind [iK,fu]
end
variable{rs:List Nm}{s0:St}{σ:Sg}{J:FSp σ.sp->Prop}
section
variable {g:G} {a:Act} {w:World}
theorem Zp{s:S}{H:FH}{γ:Gam}{F:Nm->Fp}(h:RX g s a w H γ F):R g s a w:=⟨H,γ,F,h⟩
theorem Ad(n:Nm):∀m:List (Nm×Nat×Rt),cw (gi m n) n=none
 |[]=>rfl
 |(k,j,v)::m=>by
  simp only[gi];by_cases h:k=n
  ·rw[if_pos h];exact Ad n m
  ·rw[if_neg h];simp only[cw];rw[if_neg h];exact Ad n m
theorem MW(s:St)(n:Nm):cw (s.fresh n).m n=none:=by
 unfold St.fresh;split
 ·omega
 ·show cw (cT _ _ (gi s.m n)) n=none
  rw[Dn,Ad];rfl
theorem QZ(s:St)(k:Nat)(sh:List Sh)(u:U):Ext s (KJ s k sh u):=by
 unfold KJ;split
 ·refine(bY s (jV k)).trans ⟨ajV _,vt _ _ _ (ai0 _),mi _ _ _ (ai0 _)⟩
 ·split
  ·refine((tF s _).trans (bY _ (jV k))).trans ⟨ajV _,vt _ _ _ (ai0 _),mi _ _ _ (ai0 _)⟩
  ·exact Ext.refl s
 ·exact Ext.refl s
theorem Zq{s:St}(h:R g s.toS a w)(k:Nat)(sh:List Sh)(u:U):R g (KJ s k sh u).toS a w:=by
 obtain⟨H,γ,F,hX⟩:=h;have hn:=gR hX
 unfold KJ;split
 ·rename_i hv;obtain⟨γ',F',h'⟩:=PD hX k (jV k) sh;refine C3 ?_ (Zp h');unfold TP;rw[jH hv];simp only[At.toV,A1.toV,Tt.toT];have e:af (s.toS.fresh (jV k)).m (jV k)=none:=by
   rw[<- bE hn,show(s.fresh (jV k)).toS.m=toM (s.fresh (jV k)).m from rfl,um,MW];rfl
  rw[e];show SEq ⟨tb (s.toS.fresh (jV k)).t k _,_⟩ _
  rw[<- bE hn];refine⟨fun i=>?_,rfl⟩;show bd (tb _ k _) i=bd ((k,_)::_) i
  rw[iW];rfl
 ·rename_i n hv;split
  ·rename_i b u' l' c hr;obtain⟨γ',F',h'⟩:=PD hX k (jV k) sh;refine C3 ?_ (Zp h');unfold TP;rw[jH hv];simp only[At.toV,A1.toV,Tt.toT];rw[show af s.toS.m n=some (⟨false,[.ow b u' l'],none⟩:Rt).toR from bz hr];show SEq ⟨tb ((s.toS.drop n).fresh (jV k)).t k _,_⟩ _
   rw[<- b9 hn,<- bE (Py hn)];refine⟨fun i=>?_,rfl⟩;show bd (tb _ k _) i=bd ((k,_)::_) i
   rw[iW];rfl
  ·exact⟨H,γ,F,hX⟩
 ·exact⟨H,γ,F,hX⟩
theorem dJ(n:Nm)(us:List U):∀(sh:List Sh)(off:Nat)(s:St),Ext s (bR s n us sh off)
 |[],_,s=>Ext.refl s
 |.ow sub::r,off,s=>by
  simp only[bR];split
  ·split
   ·rename_i cells hr _ _ u hc a;have h1:Ext s ⟨s.nx+1,s.t,eI s.m n s.nx ⟨true,cells.set off (.ow sub u []),none⟩⟩:=⟨ajV _,fun _ _ _ h _=>h,dz _ _ (ai0 _) _⟩
    exact h1.trans (dJ n us r (off+1) _)
   ·exact dJ n us r (off+1) s
  ·exact Ext.refl s
 |.fr::r,off,s=>by
  simp only[bR];split
  ·split
   ·exact(vw s _).trans (dJ n us r (off+1) _)
   ·exact dJ n us r (off+1) s
  ·exact Ext.refl s
theorem PH{s:St}(h:R g s.toS a w)(q:Pl):R g (ul s q).toS a w:=by
 obtain⟨H,γ,F,hX⟩:=h;obtain⟨H',F',h'⟩:=vB hX q;exact⟨H',γ,F',h'⟩
theorem PG{s:St}(h:R g s.toS a w)(v:At):R g (gZ s v).toS a w:=by
 obtain⟨H,γ,F,hX⟩:=h;obtain⟨H',F',h'⟩:=gS hX v;exact⟨H',γ,F',h'⟩
theorem dZ(n:Nm)(us:List U):∀(sh:List Sh)(off:Nat){s:St},R g s.toS a w->R g (bR s n us sh off).toS a w
 |[],_,_,h=>h
 |.ow sub::r,off,s,h=>by
  simp only[bR];split
  ·rename_i cells hr;split
   ·rename_i u hc c;refine dZ n us r (off+1) ?_;obtain⟨H,γ,F,hX⟩:=h;have h':=Zo hX n off sub
    have e:s.toS.ownR n off sub=(⟨s.nx+1,s.t,eI s.m n s.nx ⟨true,cells.set off (.ow sub u []),none⟩⟩:St).toS:=by
     unfold S.ownR;rw[show af s.toS.m n=some (⟨true,cells,none⟩:Rt).toR from bz hr];have b:(⟨true,cells,none⟩:Rt).toR.cells[off]? = some .nil:=by
      show(cells.map Tt.toT)[off]? = _
      rw[ai4,hc];rfl
     show(match(⟨true,cells,none⟩:Rt).toR.cells[off]? with|some .nil=>_|_=>_)=_
     rw[b];refine b9.S_ext rfl ?_;show _=toM (eI s.m n s.nx _)
     rw[fE]
     congr 1
     grind [Rt.toR,holed,ajP,Tt.toT]
    grind [Zp]
   ·exact dZ n us r (off+1) h
  omega
 |.fr::r,off,s,h=>by
  simp only[bR];split
  ·split
   ·exact dZ n us r (off+1) (PH h _)
   ·exact dZ n us r (off+1) h
  omega
theorem ik:∀(sp:List Sp)(s:St),Ext s (prep sp s)
 |[],s=>Ext.refl s
 |.sl k u::r,s=>(iM s _).trans (ik r _)
 |.ow k sh u::r,s=>(QZ s k sh u).trans (ik r _)
 |.rt n sh u::r,s=>(dJ n _ (unmark sh) 0 s).trans (ik r _)
 |.mp _ _ _::r,s=>ik r s
 |.mo _ _ _::r,s=>ik r s
 |.it _ _ _::r,s=>ik r s
 |.gw _ _ _::r,s=>ik r s
theorem nv:∀(sp:List Sp){s:St},R g s.toS a w->R g (prep sp s).toS a w
 |[],_,h=>h
 |.sl k u::r,_,h=>nv r (PG h _)
 |.ow k sh u::r,_,h=>nv r (Zq h k sh u)
 |.rt n sh u::r,_,h=>nv r (dZ n _ (unmark sh) 0 h)
 |.mp _ _ _::r,_,h=>nv r h
 |.mo _ _ _::r,_,h=>nv r h
 |.it _ _ _::r,_,h=>nv r h
 |.gw _ _ _::r,_,h=>nv r h
mutual
theorem acM:∀{a b:Sh},ah6 a b=true->a=b
 |.fr,.fr,_=>rfl
 |.ow a,.ow b,h=>by rw[na (show p9 a b=true from h)]
theorem na:∀{a b:List Sh},p9 a b=true->a=b
 |[],[],_=>rfl
 |a::r,b::q,h=>by
  simp only[p9,aiW]at h;rw[acM h.1,na h.2]
end
def CL:List Tt->List C->Prop
 |[],[]=>True
 |t::ts,c::cs=>((t=.d c\/t=.d .nm/\∃k v,c=.mp k v none)\/(t=.nil/\∃u',c=.li u' []))/\CL ts cs
 |_,_=>False
theorem PW{t:Tt}{x:El u}(h:BQ u t=some x):(t=.d (am u x)\/t=.d .nm/\∃k v,am u x=.mp k v none)\/(t=.nil/\∃u',am u x=.li u' []):=by
 unfold BQ at h;split at h
 ·split at h
  ·simp only[aiX]at h;subst h;exact .inl (.inr ⟨rfl,_,_,rfl⟩)
  grind
 ·grind [dX]
 ·split at h
  ·simp only[aiX]at h;subst h;exact .inr ⟨rfl,_,rfl⟩
  grind
 grind
theorem IY:∀{us:List U}{ts:List Tt}{x:Fl us},lr us ts=some x->CL ts (fw us x)
 |[],[],_,_=>trivial
 |u::r,c::cs,x,h=>by
  simp only[lr]at h;cases h1:BQ u c with
  |none=>grind
  |some y=>
   cases h2:lr r cs with
   |none=>grind
   |some z=>
    rw[h1,h2]at h;simp only[aiX]at h;subst h;rw[fw,uq,vf];exact⟨PW h1,IY h2⟩
 |[],_::_,_,h=>by simp[lr]at h
 |_::_,[],_,h=>by simp[lr]at h
theorem nG{x:El u}(h:nF u ts=some x):CL ts (flat u x):=by
 cases u with
 |st n=>
  simp only[nF]at h;cases h1:lr (sd n).fs ts with
  |none=>grind
  |some y=>
   rw[h1]at h;have:=Option.some.inj h
   subst this;show CL ts (fw (sd n).fs ((sd n).un ((sd n).mkF y)))
   rw[(sd n).l2];exact IY h1
 |_=>
  cases ts with
  |nil=>cases h
  |cons t r=>cases r with
   |nil=>rw[j8 rfl];exact⟨PW h,trivial⟩
   |cons _ _=>cases h
theorem yP:∀{ts:List Tt}{cs:List C},CL ts cs->(cs.map Tt.d).map Tt.toT=(ts.map Tt.toT).map T.canon/\∀N,∀t∈ts.map Tt.toT,rF N t
 |[],[],_=>⟨rfl,fun _ _ h=>by simp at h⟩
 |t::ts,c::cs,h=>by
  obtain⟨h1,h2⟩:=h;obtain⟨k1,k2⟩:=yP h2;simp only[aiZ,k1];rcases h1 with(rfl|⟨rfl,k,v,rfl⟩)|⟨rfl,u',rfl⟩
  ·exact⟨rfl,fun N t a=>by
    rcases ai7.1 a with rfl|a
    ·trivial
    grind⟩
  ·exact⟨rfl,fun N t a=>by
    rcases ai7.1 a with rfl|a
    ·trivial
    grind⟩
  ·exact⟨rfl,fun N t a=>by
    rcases ai7.1 a with rfl|a
    ·trivial
    grind⟩
 |[],_::_,h=>h.elim
 |_::_,[],h=>h.elim
theorem zK{x:El u}(h:pq u v=some x):(BC u x).toV=v.toV.map T.canon/\∀N,LR N v.toV:=by
 unfold pq at h;split at h
 ·rename_i y;unfold Wx at h;split at h
  ·rename_i t;split at h
   ·rename_i hl;have hc:=nG h
    rw[j8 hl]at hc;obtain⟨k1,k2⟩:=yP hc;have e:(BC u x)=sct (am u x):=by cases u<;>first|rfl|cases hl
    rw[e];refine⟨?_,fun N=>k2 N t.toT (by simp)⟩
    grind [At.toV,A1.toV,AV.map,AV1.map]
   grind
  ·rename_i ts;split at h
   ·cases h
   ·rename_i hl;obtain⟨k1,k2⟩:=yP (nG h);have e:(BC u x)=.one (.agg ((flat u x).map Tt.d)):=by cases u<;>first|rfl|cases hl
    rw[e];exact⟨by grind [At.toV,A1.toV,AV.map,AV1.map],fun N=>k2 N⟩
 grind
theorem yE:∀{sh:List Sh}{cells ts:List Tt}{cs:List C},iH sh cells=some ts->CL ts cs->(bO sh cs).map Tt.toT=(cells.map Tt.toT).map T.canon/\∀N,∀t∈cells.map Tt.toT,rF N t
 |[],[],ts,cs,h,hc=>by
  simp only[iH,aiX]at h;subst h;cases cs with
  |nil=>exact⟨rfl,fun _ _ h=>by simp at h⟩
  |cons _ _=>exact hc.elim
 |.ow s::r,c::cells,ts,cs,h,hc=>by
  cases c with
  |ow s' u l=>
   simp only[iH]at h;split at h
   ·rename_i ts' hs hr;simp only[aiX]at h;subst h;cases cs with
    |nil=>exact hc.elim
    |cons c cs=>
     obtain⟨h1,h2⟩:=hc;obtain⟨k1,k2⟩:=yE hr h2;rcases h1 with(h1|⟨h1,_⟩)|⟨h1,_⟩
     ·simp only[Tt.d.injEq]at h1;subst h1;rw[na hs];simp only[bO,aiZ,k1];exact⟨rfl,fun N t a=>by
       rcases ai7.1 a with rfl|a
       ·trivial
       grind⟩
     all_goals grind
   grind
  |_=>simp[iH]at h
 |.fr::r,c::cells,ts,cs,h,hc=>by
  have f:∀{t:Tt}{ts':List Tt},c=t->iH r cells=some ts'->ts=t::ts'->(∃x,t=.d x)\/t=.nil->(bO (.fr::r) cs).map Tt.toT=((c::cells).map Tt.toT).map T.canon/\∀N,∀t∈(c::cells).map Tt.toT,rF N t:=by
   rintro t ts' rfl hr rfl hk
   cases cs with
   |nil=>exact hc.elim
   |cons b cs=>
    obtain⟨h1,h2⟩:=hc;obtain⟨k1,k2⟩:=yE hr h2;have e:bO (.fr::r) (b::cs)=.d b::bO r cs:=by rfl
    rw[e];simp only[aiZ,k1];rcases h1 with(rfl|⟨rfl,k,v,rfl⟩)|⟨rfl,u',rfl⟩
    ·exact⟨rfl,fun N t a=>by
      rcases ai7.1 a with rfl|a
      ·trivial
      grind⟩
    ·exact⟨rfl,fun N t a=>by
      rcases ai7.1 a with rfl|a
      ·trivial
      grind⟩
    ·exact⟨rfl,fun N t a=>by
      rcases ai7.1 a with rfl|a
      ·trivial
      grind⟩
  cases c<;>grind [iH]
 |[],_::_,_,_,h,_=>by simp[iH]at h
 |.ow _::_,[],_,_,h,_=>by simp[iH]at h
 |.fr::_,[],_,_,h,_=>by simp[iH]at h
theorem YV:∀{sh:List Sh}{cells ts:List Tt}{cs:List C},iJ sh cells=some ts->CL ts cs ->
  (((dF sh cs).map Tt.toT).length=(cells.map Tt.toT).length/\∀(i:Nat)t t',(cells.map Tt.toT)[i]? = some t->((dF sh cs).map Tt.toT)[i]? = some t'->t'=t\/t'=t.canon)/\∀N,∀t∈cells.map Tt.toT,rF N t:=by
 intro sh;induction sh with
 |nil=>
  intro cells ts cs h hc;cases cells with
  |nil=>
   simp only[iJ,aiX]at h;subst h;cases cs with
   |nil=>exact⟨⟨rfl,fun i t t' h=>by simp at h⟩,fun _ _ h=>by simp at h⟩
   |cons _ _=>exact hc.elim
  |cons _ _=>simp[iJ]at h
 |cons s r ih=>
  intro cells ts cs h hc;cases cells with
  |nil=>grind [iJ]
  |cons c cells=>
   have j:∀{t0:Tt}{g:C}{f:List C}{ts':List Tt},iJ r cells=some ts'->CL ts' f->dF (s::r) (g::f)=t0::dF r f->(t0.toT=c.toT\/t0.toT=c.toT.canon)->(∀N,rF N c.toT) ->
     (((dF (s::r) (g::f)).map Tt.toT).length=((c::cells).map Tt.toT).length/\∀(i:Nat)t t',((c::cells).map Tt.toT)[i]? = some t->((dF (s::r) (g::f)).map Tt.toT)[i]? = some t'->t'=t\/t'=t.canon)/\∀N,∀t∈(c::cells).map Tt.toT,rF N t:=by
    grind
   cases s with
   |fr=>
    have m:∀{t:Tt}{ts':List Tt},c=t->iJ r cells=some ts'->ts=t::ts'->(∃x,t=.d x)\/t=.nil->(((dF (.fr::r) cs).map Tt.toT).length=((c::cells).map Tt.toT).length/\∀(i:Nat)t t',((c::cells).map Tt.toT)[i]? = some t->((dF (.fr::r) cs).map Tt.toT)[i]? = some t'->t'=t\/t'=t.canon)/\∀N,∀t∈(c::cells).map Tt.toT,rF N t:=by
     rintro t ts' rfl hr rfl hk
     cases cs with
     |nil=>exact hc.elim
     |cons g cs=>
      have e:dF (.fr::r) (g::cs)=.d g::dF r cs:=by rfl
      obtain⟨h1,h2⟩:=hc;refine j hr h2 e ?_ ?_
      ·rcases h1 with(h1|⟨h1,k,v,h1'⟩)|⟨h1,u',h1'⟩
       ·grind
       ·rw[h1,h1'];exact .inl rfl
       ·rw[h1,h1'];exact .inr rfl
      ·intro N;rcases hk with⟨x,hx⟩|hx
       ·rw[hx];trivial
       ·rw[hx];trivial
    cases c with
    |d x=>
     grind [iJ]
    |nil=>
     grind [iJ]
    |_=>simp[iJ]at h
   |ow a=>
    cases a with
    |nil=>
     cases c with
     |nil=>
      simp only[iJ]at h;split at h
      ·rename_i ts' hr;simp only[aiX]at h;subst h;cases cs with
       |nil=>exact hc.elim
       |cons g cs=>exact j hr hc.2 rfl (.inl rfl) (fun N=>trivial)
      grind
     |_=>simp[iJ]at h
    |cons a b=>
     cases c with
     |ow s' u l=>
      simp only[iJ]at h;split at h
      ·rename_i ts' hs hr;simp only[aiX]at h;subst h;cases cs with
       |nil=>exact hc.elim
       |cons g cs=>
        obtain⟨h1,h2⟩:=hc;rcases h1 with(h1|⟨h1,_⟩)|⟨h1,_⟩
        ·simp only[Tt.d.injEq]at h1;subst h1;refine j hr h2 rfl (.inl ?_) (fun N=>trivial)
         grind [na]
        all_goals grind
      grind
     |_=>simp[iJ]at h
theorem ka(k:Nat):∀t:List (Nat×Nat×At),gtA t k=match cD t k with|some (_,v)=>v|none=>.any
 |[]=>rfl
 |(i,j,v)::t=>by
  simp only[gtA,cD];cases Nat.beq i k with
  |true=>rfl
  |false=>exact ka k t
theorem E9{t:Tt}(h:t.inR rs=true):rF rs t.toT:=by
 cases t with
 |pl p=>show p.root∈rs;grind [Tt.inR]
 |rf p=>show p.root∈rs;grind [Tt.inR]
 |_=>trivial
theorem Xf{x:A1}(h:x.inR rs=true):yK rs x.toV:=by
 cases x with
 |c t=>exact E9 h
 |agg ts=>
  intro t a;obtain⟨t',h1,rfl⟩:=ajK.1 a;exact E9 (ajB.1 h t' h1)
theorem afY(h:x.inR rs=true):LR rs x.toV:=by
 cases x with
 |one x=>exact Xf h
 |tup xs=>
  intro t a;obtain⟨t',h1,rfl⟩:=ajK.1 a;exact Xf (ajB.1 h t' h1)
 |any=>trivial
theorem Qd{p:Nat->At->Prop}:∀{t:List (Nat×Nat×At)},(∀x∈t,p x.1 x.2.2)->∀i,gtA t i=.any\/p i (gtA t i)
 |[],_,_=>.inl rfl
 |(k,j,v)::t,h,i=>by
  simp only[gtA];cases hb:Nat.beq k i with
  |true=>simp_all
  |false=>exact Qd (fun x hx=>h x (ajM _ hx)) i
theorem qW{t:List (Nat×Nat×At)}:∀{ks:List Nat}{x:Nat×Nat×At},x∈Ds t ks->x.1∈ks/\cD t x.1=some x.2
 |[],x,h=>by simp[Ds]at h
 |k::r,x,h=>by
  simp only[Ds]at h;split at h
  ·rename_i j v hl;rcases ai7.1 h with rfl|h
   ·grind
   ·have:=qW h;grind
  ·have:=qW h;grind
theorem qV{t:List (Nm×Nat×Rt)}:∀{ks:List Nm}{x:Nm×Nat×Rt},x∈pL t ks->x.1∈ks/\cX t x.1=some x.2
 |[],x,h=>by simp[pL]at h
 |k::r,x,h=>by
  simp only[pL]at h;split at h
  ·rename_i j v hl;rcases ai7.1 h with rfl|h
   ·grind
   ·have:=qV h;grind
  ·have:=qV h;grind
theorem Jj{s:St}:∀{ks:List Nat},aaM s0 s rs ks=true->∀k∈ks,∃j v0 v,cD s0.t k=some (j,v0)/\cD s.t k=some (j,v)/\j<s0.nx/\v.inR rs=true
 |[],_,k,hk=>by grind
 |i::r,h,k,hk=>by
  simp only[aaM,aiW]at h;rcases ai7.1 hk with rfl|hk
  ·have h1:=h.1
   split at h1
   ·rename_i j v0 j' v b a;simp only[aiW]at h1;have:=ai5 h1.1.1
    simp_all
   grind
  ·exact Jj h.2 k hk
theorem zU{s:St}:∀{ks:List Nm},SI s0 s rs ks=true->∀k∈ks,∃j v0 v,cX s0.m k=some (j,v0)/\cX s.m k=some (j,v)/\j<s0.nx/\v.cells.all (·.inR rs)=true
 |[],_,k,hk=>by grind
 |i::r,h,k,hk=>by
  simp only[SI,aiW]at h;rcases ai7.1 hk with rfl|hk
  ·have h1:=h.1
   split at h1
   ·rename_i j v0 j' v b a;simp only[aiW]at h1;have:=ai5 h1.1.1
    simp_all
   grind
  ·exact zU h.2 k hk
theorem Ji{s:St}:∀{ps:List (Nat×Nm×Nat)},aaL s rs ps=true->∀p∈ps,gtA s.t p.1=.one (.c (.pl ⟨p.2.1,p.2.2,[]⟩))/\p.2.1∈rs
 |[],_,p,hp=>by grind
 |(k,n,o)::r,h,p,hp=>by
  simp only[aaL,aiW]at h;rcases ai7.1 hp with rfl|hp
  ·grind [ai5]
  ·exact Ji h.2 p hp
theorem Av{s:St}:∀{ks:List Nm},SI s0 s rs ks=true->(pL s0.m ks).map (·.1)=ks
 |[],_=>rfl
 |k::r,h=>by
  have a:=h
  simp only[SI,aiW]at h;obtain⟨j,v0,v,b,_⟩:=zU a k (by simp);simp only[pL,b,aiZ,Av h.2]
theorem g9(nx:Nat):∀(sp:List Sp)(x:FSp sp),(fj nx sp x).map (·.1)=sp.flatMap Sp.rn
 |[],_=>rfl
 |.sl k u::r,x=>by simp only[fj,ajY,Sp.rn,aj0];exact g9 nx r _
 |.ow k sh u::r,x=>by simp only[fj,ajY,Sp.rn,aiZ,akU];rw[g9 nx r]
 |.rt n sh u::r,x=>by simp only[fj,ajY,Sp.rn,aiZ,akU];rw[g9 nx r]
 |.mp n ku vu::r,x=>by simp only[fj,ajY,Sp.rn,aiZ,akU];rw[g9 nx r]
 |.mo n ku vu::r,x=>by simp only[fj,ajY,Sp.rn,aiZ,akU];rw[g9 nx r]
 |.it n ku vu::r,x=>by simp only[fj,ajY,Sp.rn,aiZ,akU];rw[g9 nx r]
 |.gw n sh u::r,x=>by simp only[fj,ajY,Sp.rn,aiZ,akU];rw[g9 nx r]
theorem DJ:∀{l:List Nm},FI l=true->l.Nodup
 |[],_=>List.nodup_nil
 |n::r,h=>by
  simp only[FI,aiW,ajQ,List.contains_eq_mem,decide_eq_false_iff_not]at h;exact aj3.2 ⟨h.1,DJ h.2⟩
theorem zM{a b:U}{l:List (El ku×El vu)}{x:List (El a×El b)}(h:I0 ku vu a b l=some x):∃(d:ku=a)(c:vu=b),x=d ▸ c ▸ l:=by
 grind [I0]
theorem XD{s:St}{nx:Nat}:∀{sp:List Sp}{x:FSp sp},unS s sp=some x ->
  (∀y∈lY nx sp x,(y.2.2.toV=(gtA s.t y.1).toV\/y.2.2.toV=(gtA s.t y.1).toV.map T.canon)/\∀N,(∀n∈sp.flatMap Sp.rn,n∈N)->LR N (gtA s.t y.1).toV) /\
  (∀y∈fj nx sp x,∃r,cw s.m y.1=some r/\np r.toR y.2.2.toR/\∀N,∀t∈r.toR.cells,rF N t)
 |[],_,_=>⟨fun y h=>by simp[lY]at h,fun y h=>by simp[fj]at h⟩
 |p::r,x,h=>by
  simp only[unS]at h;cases h1:LB s p with
  |none=>grind
  |some a=>
   cases h2:unS s r with
   |none=>grind
   |some b=>
    rw[h1,h2]at h;simp only[aiX]at h;obtain⟨B,A⟩:=XD (nx:=nx) h2;cases p with
    |sl k u=>
     have d:FSp.hd (.sl k u) r x=a:=by grind [sa]
     have hb:FSp.tl (.sl k u) r x=b:=by grind [sb]
     refine⟨fun y hy=>?_,fun y hy=>?_⟩
     ·simp only[lY,d,hb,ai7]at hy;rcases hy with rfl|hy
      ·obtain⟨k1,k2⟩:=zK (v:=gtA s.t k) h1
       grind
      grind
     grind [fj]
    |ow k sh u=>
     have d:FSp.hd (.ow k sh u) r x=a:=by grind [sa]
     have hb:FSp.tl (.ow k sh u) r x=b:=by grind [sb]
     simp only[LB]at h1;split at h1
     ·rename_i n o u' l hv hr;cases hn:decide (n=jV k)<;>cases f:p9 sh o<;>rw[hn,f]at h1
      ·cases h1
      ·cases h1
      ·cases h1
      ·have hn':n=jV k:=by grind
       subst hn';obtain⟨e,rfl⟩:=mB h1;subst e;obtain rfl:=na f;refine⟨fun y hy=>?_,fun y hy=>?_⟩
       ·simp only[lY,hb,ai7]at hy;rcases hy with rfl|hy
        ·refine⟨.inl (by rw[hv]),fun N hN=>?_⟩;rw[hv];exact hN _ (by grind [Sp.rn])
        grind
       ·simp only[fj,d,hb,ai7]at hy;rcases hy with rfl|hy
        ·exact⟨_,hr,np.refl _,fun N t c=>by simp only[Rt.toR,holed,aiZ,aj4,ajD]at c;subst c;trivial⟩
        grind
     grind
    |mp n ku vu=>
     have d:FSp.hd (.mp n ku vu) r x=a:=by grind [sa]
     have hb:FSp.tl (.mp n ku vu) r x=b:=by grind [sb]
     simp only[LB]at h1;split at h1
     ·rename_i w q l hr;obtain⟨j,g,rfl⟩:=zM h1;subst j;subst g;refine⟨fun y hy=>?_,fun y hy=>?_⟩
      ·grind [lY]
      ·simp only[fj,d,hb,ai7]at hy;rcases hy with rfl|hy
       ·exact⟨_,hr,np.refl _,fun N t c=>by simp only[Rt.toR,holed,aiZ,aj4,ajD]at c;subst c;trivial⟩
       grind
     grind
    |it n ku vu=>
     have d:FSp.hd (.it n ku vu) r x=a:=by grind [sa]
     have hb:FSp.tl (.it n ku vu) r x=b:=by grind [sb]
     simp only[LB]at h1;split at h1
     ·rename_i w q cur l hr;obtain⟨j,g,rfl⟩:=zM h1;subst j;subst g;refine⟨fun y hy=>?_,fun y hy=>?_⟩
      ·grind [lY]
      ·simp only[fj,d,hb,ai7]at hy;rcases hy with rfl|hy
       ·exact⟨_,hr,⟨rfl,rfl,fun i t t' h1 h2=>by
         cases i with
         |zero=>
          have j:T.it (cur.map (rH _ _)) (l.map (rH _ _))=t:=Option.some.inj h1
          have g:T.it none (l.map (rH _ _))=t':=Option.some.inj h2
          subst j g;exact .inr rfl
         |succ i=>grind [Rt.toR,holed]⟩,fun N t c=>by simp only[Rt.toR,holed,aiZ,aj4,ajD]at c;subst c;trivial⟩
       grind
     grind
    |gw n sh u=>
     have d:FSp.hd (.gw n sh u) r x=a:=by grind [sa]
     have hb:FSp.tl (.gw n sh u) r x=b:=by grind [sb]
     simp only[LB]at h1;split at h1
     ·rename_i o u' l hr;cases f:p9 sh o with
      |false=>grind
      |true=>
      rw[f]at h1;obtain⟨e,rfl⟩:=mB h1;subst e;obtain rfl:=na f;refine⟨fun y hy=>?_,fun y hy=>?_⟩
      ·grind [lY]
      ·simp only[fj,d,hb,ai7]at hy;rcases hy with rfl|hy
       ·exact⟨_,hr,np.refl _,fun N t c=>by simp only[Rt.toR,holed,aiZ,aj4,ajD]at c;subst c;trivial⟩
       grind
     grind
    |mo n ku vu=>
     have d:FSp.hd (.mo n ku vu) r x=a:=by grind [sa]
     have hb:FSp.tl (.mo n ku vu) r x=b:=by grind [sb]
     simp only[LB]at h1;split at h1
     ·rename_i w q l hr;obtain⟨j,g,rfl⟩:=zM h1;subst j;cases g;refine⟨fun y hy=>?_,fun y hy=>?_⟩
      ·grind [lY]
      ·simp only[fj,d,hb,ai7]at hy;rcases hy with rfl|hy
       ·exact⟨_,hr,np.refl _,fun N t c=>by simp only[Rt.toR,holed,aiZ,aj4,ajD]at c;subst c;trivial⟩
       grind
     grind
    |rt n sh u=>
     have d:FSp.hd (.rt n sh u) r x=a:=by grind [sa]
     have hb:FSp.tl (.rt n sh u) r x=b:=by grind [sb]
     simp only[LB]at h1;split at h1
     ·rename_i cells hr;split at h1
      ·rename_i ts z;obtain⟨k1,k2⟩:=YV z (nG h1);refine⟨fun y hy=>?_,fun y hy=>?_⟩
       ·grind [lY]
       ·simp only[fj,d,hb,ai7]at hy;rcases hy with rfl|hy
        ·exact⟨_,hr,⟨rfl,k1.1,k1.2⟩,fun N t c=>k2 N t c⟩
        grind
      grind
     grind
def jn1(σ:Sg)(s0:St)(J:FSp σ.sp->Prop)(s:St):Prop:=σ.fit s0 s=true/\∃x,unS s σ.sp=some x/\J x
theorem Xm{s1:St}(l:Ext s0 s1)(h:jn1 σ s0 J s1)(k:R g s1.toS a w):∃v,J v/\R g (σ.st s0 v).toS a w:=by
   obtain⟨hf,v,hv,h⟩:=h;refine⟨v,h,?_⟩;obtain⟨H,γ,F,hX⟩:=k;simp only[Sg.fit,aiW]at hf;obtain⟨⟨⟨f1,B⟩,I⟩,f4⟩:=hf;obtain⟨l1,l2⟩:=XD (nx:=s0.nx) hv;have b:(σ.st s0 v).toS.m.map (·.1)=σ.rn:=by
    show(toM (pL s0.m σ.kr++fj s0.nx σ.sp v)).map (·.1)=_
    simp only[toM,aj9];show(pL s0.m σ.kr++fj s0.nx σ.sp v).map (·.1)=_
    rw[aj1,Av f4,g9];rfl
   refine⟨H,γ,F,Vy hX (by grind [DJ]) (fun x hx=>?_) (fun i=>?_)⟩
   ·rw[b];obtain⟨y,hy,rfl⟩:=ajK.1 (show x∈toM (pL s0.m σ.kr++fj s0.nx σ.sp v)from hx);rcases ai9.1 hy with hy|hy
    ·obtain⟨hk,hl⟩:=qV hy;obtain⟨j,v0,c,s,f,D,G⟩:=zU f4 y.1 hk;have A:=l.m _ _ _ f D
     rw[hl]at A;have C:=Option.some.inj A
     have E:cw s1.m y.1=some y.2.2:=by grind [nR]
     refine⟨y.2.2.toR,bz E,np.refl _,fun t z=>?_⟩;have q:y.2.2=c:=by rw[C]
     rw[q]at z;have u:=za c.cells c.hole
     obtain⟨i,hi,hit⟩:=List.getElem_of_mem z;have d:=u.len
     have o:i<c.cells.length:=by
      have:(c.toR.cells).length=c.cells.length:=d
      omega
     rcases u.nth i _ t (aiY o) (by rw[<- hit];exact aiY hi)with e|⟨_,_,_,_,_,e,_⟩
     ·grind [E9]
     ·rw[e];trivial
    ·obtain⟨r,k1,k2,k3⟩:=l2 y hy;exact⟨r.toR,bz k1,k2,k3 _⟩
   ·rw[b];have key:∀y∈(σ.st s0 v).t,(y.2.2.toV=(gtA s1.t y.1).toV\/y.2.2.toV=(gtA s1.t y.1).toV.map T.canon)/\LR σ.rn (gtA s1.t y.1).toV:=by
     intro y hy;rcases ai9.1 hy with hy|hy
     ·obtain⟨hk,hl⟩:=qW hy
      grind [Jj,Ext.t,ka,afY]
     ·rcases ai9.1 hy with hy|hy
      ·obtain⟨p,hp,rfl⟩:=ajK.1 hy;obtain⟨s,f⟩:=Ji B p hp;dsimp only;rw[s];exact⟨.inl rfl,f⟩
      grind [Sg.rn]
    have hs1:bd s1.toS.t i=(gtA s1.t i).toV:=dC i s1.t
    have n:bd (σ.st s0 v).toS.t i=(gtA (σ.st s0 v).t i).toV:=dC i (σ.st s0 v).t
    rw[hs1,n];rcases Qd (p:=fun i v=>(v.toV=(gtA s1.t i).toV\/v.toV=(gtA s1.t i).toV.map T.canon)/\LR σ.rn (gtA s1.t i).toV) key i with e|e
    ·rw[e];exact .inl rfl
    grind
theorem adW{s:St}(d:Ext s0 s)(h:jn σ s0 J s)(e:R g s.toS a w):∃v,J v/\R g (σ.st s0 v).toS a w:=by
 unfold jn at h;dsimp only at h;have c:=nv (g:=g) (a:=a) (w:=w) σ.sp e
 have b:=d.trans (ik σ.sp s)
 split at h
 ·rename_i hf;split at h
  ·rename_i v hv;exact Xm b ⟨hf,v,hv,h⟩ c
  grind
 grind
theorem DC{k:Nat}{y:Nat×At}:∀{t:List (Nat×Nat×At)},cD t k=some y->(k,y)∈t
 |[],h=>by cases h
 |(i,j,v)::t,h=>by
  simp only[cD]at h;split at h
  ·grind [ai5]
  ·exact ajM _ (DC h)
theorem Dy{k:Nm}{y:Nat×Rt}:∀{t:List (Nm×Nat×Rt)},cX t k=some y->(k,y)∈t
 |[],h=>by cases h
 |(i,j,v)::t,h=>by
  simp only[cX]at h;split at h
  ·grind
  ·exact ajM _ (Dy h)
theorem pM(nx:Nat):∀(sp:List Sp)(x:FSp sp),(∀y∈lY nx sp x,y.2.1=nx)/\∀y∈fj nx sp x,y.2.1=nx
 |[],_=>⟨fun y h=>by simp[lY]at h,fun y h=>by simp[fj]at h⟩
 |.sl k u::r,x=>by
  obtain⟨h1,h2⟩:=pM nx r (FSp.tl (.sl k u) r x);refine⟨fun y h=>?_,fun y h=>h2 y h⟩
  grind [lY]
 |.ow k sh u::r,x=>by
  obtain⟨h1,h2⟩:=pM nx r (FSp.tl (.ow k sh u) r x)
  grind [lY,fj]
 |.rt n sh u::r,x=>by
  obtain⟨h1,h2⟩:=pM nx r (FSp.tl (.rt n sh u) r x);refine⟨fun y h=>h1 y h,fun y h=>?_⟩
  grind [fj]
 |.mp n ku vu::r,x=>by
  obtain⟨h1,h2⟩:=pM nx r (FSp.tl (.mp n ku vu) r x);refine⟨fun y h=>h1 y h,fun y h=>?_⟩
  grind [fj]
 |.mo n ku vu::r,x=>by
  obtain⟨h1,h2⟩:=pM nx r (FSp.tl (.mo n ku vu) r x);refine⟨fun y h=>h1 y h,fun y h=>?_⟩
  grind [fj]
 |.it n ku vu::r,x=>by
  obtain⟨h1,h2⟩:=pM nx r (FSp.tl (.it n ku vu) r x);refine⟨fun y h=>h1 y h,fun y h=>?_⟩
  grind [fj]
 |.gw n sh u::r,x=>by
  obtain⟨h1,h2⟩:=pM nx r (FSp.tl (.gw n sh u) r x);refine⟨fun y h=>h1 y h,fun y h=>?_⟩
  grind [fj]
theorem yS(σ:Sg)(s:St)(x:FSp σ.sp):Ext s (σ.st s x):=by
 obtain⟨l1,l2⟩:=pM s.nx σ.sp x;refine⟨ajV _,fun k j v h hj=>?_,fun n j r h hj=>?_⟩
 ·have a:=DC h
  rcases ai9.1 a with a|a
  ·exact(qW a).2
  grind
 ·have a:=Dy h
  rcases ai9.1 a with a|a
  ·exact(qV a).2
  grind
end
def kz(nt:Nat):Code->Bool
 |.region _ ops false=>abU nt ops.toList ops.toList
 |.region _ ops true=>lC nt ops&&Region.noSelect ops
 |.seq a b=>kz nt a&&kz nt b
 |.cond (.tmp t) a b=>Nat.blt t 100000&&(kz nt a&&kz nt b)
 |.block _ a=>kz nt a
 |.loop a=>kz nt a
 |_=>true
def LQ(pk:PKt)(K:Kt):Exit->S->Prop
 |.normal,s=>∃t:St,s=t.toS/\K.n t
 |.exit i,s=>∃t:St,s=t.toS/\K.x i t
 |.ret,s=>∃t:St,s=t.toS/\K.r t
 |.panic c,s=>∃v,∃t:St,c=chn v/\s=t.toS/\pk v t
 |_,_=>False
theorem adF{pk:PKt}{K:Kt}:∀x s,PQ pk x s->LQ pk K x s:=by
 rintro x s ⟨v,t,rfl,rfl,h2⟩
 exact⟨v,t,rfl,rfl,h2⟩
theorem aa6{s:St}{a:FSp σ.sp->Prop}(hj:∀v,J v->a v)(h:jn σ s0 J s):jn σ s0 a s:=by
 grind [jn]
theorem AF{α:Type}{b b':(α->Prop)->α->Prop}(hb:∀R a:α->Prop,(∀v,R v->a v)->∀v,b R v->b' a v):∀n v,mT b n v->mT b' n v
 |0,_,h=>h.elim
 |n+1,v,h=>hb _ _ (AF hb n) v h
theorem Gl{e:En}(he:e.ok):∀(c:Code)(an:An)(s:St)(K K':Kt),(∀s',Ext s s'->K.n s'->K'.n s')->(∀i s',Ext s s'->K.x i s'->K'.x i s')->(∀s',Ext s s'->K.r s'->K'.r s')->wpT e an c s K->wpT e an c s K':=by
 intro c;induction c with
 |skip=>grind [wpT,Ext.refl]
 |exit i=>grind [wpT,Ext.refl]
 |ret=>grind [wpT,Ext.refl]
 |region id ops l=>
  intro an s K K' hn hx hr h;cases l<;>grind [wpT,AX,j7]
 |seq a b d f=>
  intro an s K K' hn hx hr h;cases an with
  |s p q=>
   simp only[wpT]at h⊢;exact d p s ⟨fun s'=>wpT e (q.pick s') b s' K,K.x,K.r⟩ ⟨fun s'=>wpT e (q.pick s') b s' K',K'.x,K'.r⟩ (fun s1 h1 hs1=>f (q.pick s1) s1 K K' (fun s2 h2=>hn s2 (h1.trans h2)) (fun i s2 h2=>hx i s2 (h1.trans h2)) (fun s2 h2=>hr s2 (h1.trans h2)) hs1) hx hr h
  |j σ p q=>
   simp only[wpT]at h⊢;intro J k;refine d p s ⟨jn σ s J,K.x,K.r⟩ ⟨jn σ s J,K'.x,K'.r⟩ (fun s1 _ h=>h) hx hr (h J (fun v hv=>k v ?_));exact f q _ K K' (fun s2 h2=>hn s2 ((yS σ s v).trans h2)) (fun i s2 h2=>hx i s2 ((yS σ s v).trans h2)) (fun s2 h2=>hr s2 ((yS σ s v).trans h2)) hv
  |_=>grind [wpT]
 |cond t a b d f=>
  intro an s K K' hn hx hr h;cases an with
  |c p q=>
   cases t<;>grind [wpT]
  |_=>grind [wpT]
 |block id a d=>
  intro an s K K' hn hx hr h;cases an<;>grind [wpT]
 |loop a d=>
  intro an s K K' hn hx hr h;cases an with
  |lp σ p=>
   simp only[wpT]at h⊢;have g:=ik σ.sp s
   generalize prep σ.sp s=s1 at h g;split at h
   ·split at h
    ·obtain⟨n,hl⟩:=h;refine⟨n,AF (fun R u m v hv=>?_) n _ hl⟩
     grind [Ext.trans,yS,aa6]
    omega
   omega
  |un n p=>
   simp only[wpT]at h⊢;have key:∀n(s1:St),Ext s s1->AG (fun R s'=>wpT e p a s' ⟨R,K.x,K.r⟩) n s1->AG (fun R s'=>wpT e p a s' ⟨R,K'.x,K'.r⟩) n s1:=by
    intro n;induction n with
    |zero=>intro s1 _ h;exact h.elim
    |succ n ih=>
     intro s1 o h
     grind [AG,Ext.trans]
   grind [Ext.refl]
  |_=>grind [wpT]
 |_=>grind [wpT]
theorem yO{P:Program}{g:G}{c:Code}{Q Q':Exit->S->Prop}{s:S}(h:AW P g c Q s)(hq:∀e s' a w,Q e s'->R g s' a w->∃b,Q' e b/\R g b a w):AW P g c Q' s:=fun a w d=>
 Code.wp_mono (fun e a' w'⟨s',h1,h2⟩=>hq e s' a' w' h1 h2) (h a w d)
theorem rZ{e:En}(he:e.ok)(M:e.P.follows .mixedOrders=true){g:G}:∀(c:Code)(an:An)(s:St)(K:Kt),kz g.nt c=true->wpT e an c s K->AW e.P g c (LQ e.pk K) s.toS:=by
 intro c;induction c with
 |skip=>intro an s K hc h;simp only[wpT]at h;exact OV ⟨s,rfl,h⟩
 |exit i=>intro an s K hc h;simp only[wpT]at h;exact Zc ⟨s,rfl,h⟩
 |ret=>intro an s K hc h;simp only[wpT]at h;exact aeC ⟨s,rfl,h⟩
 |region id ops O=>
  intro an s K hc h;obtain⟨l⟩:=ops;cases O with
  |false=>
   simp only[wpT]at h;exact qh (nk he adF hc h (fun t f=>⟨t,rfl,f⟩))
  |true=>
   simp only[wpT]at h;simp only[kz,aiW]at hc;exact UK he adF M hc.1 hc.2 (fun t f=>⟨t,rfl,f⟩) h
 |seq a b k m=>
  intro an s K hc h;simp only[kz,aiW]at hc;cases an with
  |s p q=>
   simp only[wpT]at h;refine vp (AW.mono (k p s _ hc.1 h) (fun e' s' h'=>?_));cases e' with
   |normal=>obtain⟨t,rfl,f⟩:=h';exact m (q.pick t) t K hc.2 f
   |exit i=>exact h'
   |ret=>exact h'
   |panic c=>exact h'
   |_=>exact h'
  |j σ p q=>
   simp only[wpT]at h;have h1:=h _ (fun v hv=>hv)
   have h2:=Gl he a p s ⟨jn σ s (fun v=>wpT e q b (σ.st s v) K),K.x,K.r⟩ ⟨fun s'=>Ext s s'/\jn σ s (fun v=>wpT e q b (σ.st s v) K) s',K.x,K.r⟩ (fun s' u o=>⟨u,o⟩) (fun _ _ _ h=>h) (fun _ _ h=>h) h1
   refine vp (AW.mono (k p s _ hc.1 h2) (fun e' s' h'=>?_));cases e' with
   |normal=>
    obtain⟨t,rfl,u,f⟩:=h';intro a' w' A;obtain⟨v,hv,d⟩:=adW u f A;exact m q _ K hc.2 hv a' w' d
   |exit i=>exact h'
   |ret=>exact h'
   |panic c=>exact h'
   |_=>exact h'
  |_=>grind [wpT]
 |cond t a b k m=>
  intro an s K hc h;cases an with
  |c p q=>
   cases t with
   |tmp t=>
    simp only[kz,aiW]at hc;simp only[wpT]at h;split at h
    ·rename_i c D;refine Er (jH D) (fun hb=>?_) (fun hb=>?_) (ajA hc.1)
     all_goals grind
    grind
   |_=>grind [wpT]
  |_=>grind [wpT]
 |block id a k=>
  intro an s K hc h;cases an with
  |b p=>
   simp only[wpT]at h;refine UJ (AW.mono (k p s _ hc h) (fun e' s' h'=>?_));cases e' with
   |normal=>exact h'
   |exit i=>
    obtain⟨t,rfl,f⟩:=h';simp only[Mv];dsimp only at f;cases hb:Nat.beq i id with
    |true=>
     rw[hb]at f;rw[if_pos (ai5 hb)];exact⟨t,rfl,f⟩
    |false=>
     rw[hb]at f;rw[if_neg (fun e=>by grind [Nat.beq_refl])];exact⟨t,rfl,f⟩
   |ret=>exact h'
   |_=>exact h'
  |_=>grind [wpT]
 |loop a k=>
  intro an s K hc h;cases an with
  |lp σ p=>
   simp only[wpT]at h;have z:∀a' w',R g s.toS a' w'->R g (prep σ.sp s).toS a' w':=fun a' w' A=>nv σ.sp A
   generalize prep σ.sp s=s1 at h z;split at h
   ·rename_i hf;split at h
    ·rename_i J hx0;obtain⟨n,hl⟩:=h;intro a0 w0 B;have hj:jn1 σ s1 (fun v=>v=J) s1:=⟨hf,J,hx0,rfl⟩
     obtain⟨v,rfl,C⟩:=Xm (Ext.refl s1) hj (z _ _ B);refine OU (fun n y=>∃v,mT (fun R v=>wpT e p a (σ.st s1 v) ⟨jn σ s1 R,K.x,K.r⟩) n v/\y=(σ.st s1 v).toS) n ⟨v,hl,rfl⟩ (fun n y I=>?_) a0 w0 C
     ·obtain⟨v,hv,rfl⟩:=I;cases n with
      |zero=>exact hv.elim
      |succ n=>
       have h2:=Gl he a p (σ.st s1 v) ⟨jn σ s1 (mT (fun R v=>wpT e p a (σ.st s1 v) ⟨jn σ s1 R,K.x,K.r⟩) n),K.x,K.r⟩ ⟨fun s'=>Ext (σ.st s1 v) s'/\jn σ s1 (mT (fun R v=>wpT e p a (σ.st s1 v) ⟨jn σ s1 R,K.x,K.r⟩) n) s',K.x,K.r⟩ (fun s' u o=>⟨u,o⟩) (fun _ _ _ h=>h) (fun _ _ h=>h) hv
       refine yO (k p _ _ hc h2) (fun e' s' a' w' h' d=>?_);cases e' with
       |normal=>
        obtain⟨t,rfl,u,f⟩:=h';obtain⟨L,F,H⟩:=adW ((yS σ s1 v).trans u) f d;exact⟨_,⟨n,alK n,L,F,rfl⟩,H⟩
       |exit i=>exact⟨s',h',d⟩
       |ret=>exact⟨s',h',d⟩
       |panic c=>exact⟨s',h',d⟩
       |_=>exact h'.elim
    grind
   grind
  |un n p=>
   simp only[wpT]at h;refine OU (fun n y=>∃t:St,y=t.toS/\AG (fun R s'=>wpT e p a s' ⟨R,K.x,K.r⟩) n t) n ⟨s,rfl,h⟩ (fun n y I=>?_);obtain⟨t,rfl,f⟩:=I;cases n with
   |zero=>exact f.elim
   |succ n=>
    refine yO (k p t ⟨AG (fun R s'=>wpT e p a s' ⟨R,K.x,K.r⟩) n,K.x,K.r⟩ hc f) (fun e' s' a' w' h' d=>?_);cases e' with
    |normal=>
     obtain⟨N,rfl,E⟩:=h';exact⟨_,⟨n,alK n,N,rfl,E⟩,d⟩
    |exit i=>exact⟨s',h',d⟩
    |ret=>exact⟨s',h',d⟩
    |panic c=>exact⟨s',h',d⟩
    |_=>exact h'.elim
  |_=>grind [wpT]
 |_=>grind [wpT]
def lc:(us:List U)->Fl us->List AV
 |[],_=>[]
 |u::r,x=>(BC u (Fl.hd u r x)).toV::lc r (Fl.tl u r x)
def vH:(us:List U)->Fl us->List AV1
 |[],_=>[]
 |u::r,x=>(Cm u (Fl.hd u r x)).toV::vH r (Fl.tl u r x)
theorem vh(u:U)(x:El u):BC u x=.one (Cm u x):=by cases u<;>rfl
theorem sq{x:El u}(h:pq u v=some x):v.noRf=true/\v.toV.isFz=true:=by
 have cl:∀{ts:List Tt}{cs:List C},CL ts cs->ts.all Tt.noRf=true/\(ts.map Tt.toT).all T.isFz=true:=by
  intro ts;induction ts with
  |nil=>grind
  |cons t ts ih=>
   intro cs hc;cases cs with
   |nil=>exact hc.elim
   |cons c cs=>
    obtain⟨h1,h2⟩:=ih hc.2;rcases hc.1 with(rfl|⟨rfl,_⟩)|⟨rfl,_⟩
    ·exact⟨by simp only[ajE,h1];rfl,by simp only[aiZ,ajE,h2];rfl⟩
    ·exact⟨by simp only[ajE,h1];rfl,by simp only[aiZ,ajE,h2];rfl⟩
    ·exact⟨by simp only[ajE,h1];rfl,by simp only[aiZ,ajE,h2];rfl⟩
 unfold pq at h;split at h
 ·unfold Wx at h;split at h
  ·split at h
   ·obtain⟨h1,h2⟩:=cl (nG h);refine⟨?_,?_⟩
    ·rename_i t _ _;show t.noRf=true;grind
    ·rename_i t _ _;show t.toT.isFz=true;grind
   grind
  ·split at h
   ·cases h
   ·obtain⟨h1,h2⟩:=cl (nG h);exact⟨h1,h2⟩
 grind
theorem kq:∀{us:List U}{vs:List At}{x:Fl us},dc us vs=some x->vs.all At.noRf=true/\(vs.map At.toV).all AV.isFz=true/\(vs.map At.toV).map (AV.map T.canon)=lc us x
 |[],[],_,_=>⟨rfl,rfl,rfl⟩
 |u::r,v::vs,x,h=>by
  simp only[dc]at h;cases h1:pq u v with
  |none=>grind
  |some a=>
   cases h2:dc r vs with
   |none=>grind
   |some b=>
    rw[h1,h2]at h;simp only[aiX]at h;subst h;obtain⟨c,d,e⟩:=kq h2
    grind [sq,lc,uq,vf,zK]
 |[],_::_,_,h=>by simp[dc]at h
 |_::_,[],_,h=>by simp[dc]at h
section
variable {P:Program}
theorem Qr{s:St}{ops:List Operand}(h:ops.all aH=true):ops.map (ev s.toS)=(ops.map (evA s)).map At.toV:=by
 grind [ajG,ah]
theorem dY{s:St}:∀{rs:List ResultVar}{k:List At->Prop},(∀vs,¬ k vs)->¬ eQ P s rs k
 |[],k,hk,h=>hk _ h
 |r::rs,k,hk,h=>by
  have key:∀v,¬ eQ P s rs (fun vs=>k (v::vs)):=fun v=>dY fun vs=>hk _
  simp only[eQ]at h;unfold rj at h;cases r with
  |tmp t=>simp_all
  |cell a t=>
   dsimp only at h;split at h
   ·split at h
    ·split at h
     ·exact loadT_false key h
     omega
    omega
   omega
where
 loadT_false {m:List (Nm×Nat×Rt)} {t:TypeId} {x:At} {k:At->Prop} (hk:∀v,¬ k v) (h:mQ P m t x k):False:=by
  unfold mQ at h
  grind
theorem lL{s:St}(hop:∀p i,gtA s.t i=.one (.c (.pl p))->okP (toM s.m) p):∀{rs:List ResultVar}{us:List U}{K:Fl us->Prop}{k:List At->Prop},(∀vs,k vs->∃x,dc us vs=some x/\K x)->eQ P s rs k ->
  fW P s.toS rs (fun xs=>∃x:Fl us,xs.map (·.map T.canon)=vH us x/\xs.all AV1.isFz=true/\K x)
 |[],us,K,k,hk,h=>by
  obtain⟨x,hx,e⟩:=hk _ h;cases us with
  |nil=>exact⟨x,rfl,rfl,e⟩
  |cons u us=>grind [dc]
 |r::rs,us,K,k,hk,h=>by
  simp only[eQ]at h;simp only[fW];have step:∀{v:At},eQ P s rs (fun vs=>k (v::vs))->(match v.toV with
    |.one x=>fW P s.toS rs fun xs=>∃y:Fl us,(x::xs).map (·.map T.canon)=vH us y/\(x::xs).all AV1.isFz=true/\K y
    |_=>False):=by
   intro v hv;cases us with
   |nil=>grind [dY,dc]
   |cons u us=>
    cases hc:pq u v with
    |none=>grind [dY,dc]
    |some a=>
     obtain⟨w,_⟩:=zK hc;obtain⟨_,c3⟩:=sq hc;have ih:=lL hop (us:=us) (K:=fun y=>K (Fl.cons u us a y)) (fun vs o=>by
      grind [dc]) hv
     rw[vh]at w;cases v with
     |one x=>
      refine resGets_mono ?_ ih;rintro xs ⟨y,z,f,e⟩
      refine⟨_,?_,?_,e⟩
      ·grind [vH,uq,vf,At.toV,AV.map]
      ·simp only[ajE,f,akK];exact c3
     |tup _=>grind [pq]
     |any=>grind [pq]
  cases r with
  |tmp t=>
   simp only[rj]at h;simp only[wJ];rw[show bd s.toS.t t=(gtA s.t t).toV from dC t s.t]
   grind
  |cell a t=>
   simp only[rj]at h;simp only[wJ];split at h
   ·rename_i p hp;split at h
    ·split at h
     ·have hl:=AC (m:=s.m) (x:=gtA s.t a) (fun q hq=>hop q a hq) h
      rw[show bd s.toS.t a=(gtA s.t a).toV from dC a s.t];refine loadK_mono ?_ hl
      grind
     grind
    grind
   grind
where
 loadK_mono {m:Mm} {t:TypeId} {x:AV} {k k':AV->Prop} (hk:∀v,k v->k' v) (h:uC P m t x k):uC P m t x k':=by
  unfold uC at h⊢;refine⟨h.1,?_⟩
  replace h:=h.2
  split at h
  ·grind
  ·split at h
   ·rename_i d;rw[if_pos d];exact atK_mono (fun ts b j=>hk _ (b j)) h
   ·rename_i d;rw[if_neg d];refine atK_mono (fun ts b=>?_) h
    grind
  omega
 atK_mono {m:Mm} {p:Pl} {n:Nat} {k k':List T->Prop} (hk:∀v,k v->k' v) (h:atK m p n k):atK m p n k':=by
  unfold atK at h⊢;split at h
  ·omega
  ·split at h
   ·grind
   ·exact inK_mono hk h
   omega
 inK_mono {k k':List T->Prop} (hk:∀v,k v->k' v):∀{path:List Step}{sub:List Sh}{l:List (List D)}{n:Nat},inK sub l n path k->inK sub l n path k'
  |[],_,_,_,h=>h.elim
  |[st],sub,l,n,h=>by
   grind [inK]
  |st::g::r,sub,l,n,h=>by
   simp only[inK]at h⊢;split at h
   ·split at h
    ·exact inK_mono hk h
    omega
   omega
 resGets_mono {s:S}:∀{rs:List ResultVar}{k k':List AV1->Prop},(∀v,k v->k' v)->fW P s rs k->fW P s rs k'
  |[],k,k',hk,h=>hk _ h
  |r::rs,k,k',hk,h=>by
   simp only[fW]at h⊢;have st:∀v:AV,(match v with|.one x=>fW P s rs fun xs=>k (x::xs)|_=>False)->(match v with|.one x=>fW P s rs fun xs=>k' (x::xs)|_=>False):=by
    intro v hv;cases v with
    |one x=>exact resGets_mono (fun xs=>hk _) hv
    |_=>exact hv
   cases r with
   |tmp t=>exact st _ h
   |cell a t=>exact loadK_mono st h
theorem QD{s:S}{rs:List ResultVar}{us:List U}{K:AV->Prop}{Q:Fl us->Prop}(d:ir s rs=s)(f:∀x,Q x->K (gy us x).toV)(h:fW P s rs (fun xs=>∃x:Fl us,xs.map (·.map T.canon)=vH us x/\xs.all AV1.isFz=true/\Q x)):wK P s rs K:=by
 unfold wK;rw[d];refine lL.resGets_mono ?_ h;rintro xs ⟨x,a,e,hq⟩
 have c:=f x hq
 have b:∀(us:List U)(x:Fl us),(gy.resL us x).map A1.toV=vH us x:=by
  intro us;induction us with
  |nil=>intro _;rfl
  |cons u r ih=>grind [gy.resL,vH]
 match xs,e,us,x,a,c with
 |[],_,[],x,_,c=>exact⟨rfl,c⟩
 |[y],e,[u],x,a,c=>
  simp only[aiZ,aj4,vH,List.cons.injEq,and_true]at a;refine⟨by grind,?_⟩;rw[a];have:(gy [u] x).toV=.one (Cm u (Fl.hd u [] x)).toV:=by show(BC u x).toV=_;rw[vh];rfl
  grind
 |y::i::g,e,u::v::r,x,a,c=>
  refine⟨e,?_⟩;rw[a,<- b];exact c
 |[],_,_::_,_,a,_=>grind [vH]
 |[_],_,[],_,a,_=>grind [vH]
 |[_],_,_::_::_,_,a,_=>grind [vH]
 |_::_::_,_,[],_,a,_=>grind [vH]
 |_::_::_,_,[_],_,a,_=>grind [vH]
end
section
variable {P:Program}
theorem XK{k:At->Prop}(h:mQ P m t x k):∃v,k v:=by
 grind [dY.loadT_false]
theorem X3{t:Tt}(h:t.owned=false):∀sub l,t.toT≠.ow sub l:=by
 cases t with
 |ow _ _ _=>cases h
 |_=>intro _ _ h;cases h
theorem Aa{s:St}{r:Rt}(hr:cw s.m n=some r)(a:r.hole=none)(hc:r.cells.all (fun t=>!t.owned)=true):∀i,nN s.toS n i=s.toS
 |0=>rfl
 |i+1=>by
  simp only[nN];rw[Aa hr a hc i];unfold Jq;have e:aZ s.toS.m ⟨n,i,[]⟩=(r.cells.map Tt.toT)[i]? := by
   unfold aZ;rw[show af s.toS.m n=some r.toR from bz hr];show(holed (r.cells.map Tt.toT) r.hole)[i]? = _
   rw[a];rfl
  grind [X3]
theorem sG{s:St}:∀{rs:List ResultVar}{us:List U}{k:List At->Prop},(∀vs,k vs->∃x,dc us vs=some x)->eQ P s rs k->ir s.toS rs=s.toS
 |[],_,_,_,_=>rfl
 |r::rs,us,k,hk,h=>by
  simp only[eQ]at h;have step:∀{v:At},eQ P s rs (fun vs=>k (v::vs))->v.noRf=true/\ir s.toS rs=s.toS:=by
   intro v hv;cases us with
   |nil=>grind [dY,dc]
   |cons u us=>
    cases hc:pq u v with
    |none=>grind [dY,dc]
    |some a=>
     exact⟨(sq hc).1,sG (us:=us) (fun vs b=>by
      grind [dc]) hv⟩
  simp only[ir];cases r with
  |tmp t=>
   simp only[rj]at h;obtain⟨h1,h2⟩:=step h;have e:pD s.toS (.tmp t)=s.toS:=by
    simp only[pD];rw[show bd s.toS.t t=(gtA s.t t).toV from dC t s.t];exact vZ h1
   grind
  |cell a t=>
   simp only[rj]at h;split at h
   ·rename_i p hp;split at h
    ·rename_i r hr;split at h
     ·rename_i hb;simp only[aiW,Option.isNone_iff_eq_none]at hb;obtain⟨v,hv⟩:=XK h;have e:pD s.toS (.cell a t)=s.toS:=by
       simp only[pD];rw[jH hp]
       grind [At.toV,A1.toV,Tt.toT,Aa]
      rw[e];exact(step hv).2
     grind
    grind
   grind
variable {g:G} {a:Act} {w:World}
theorem zn{s:St}(h:R g s.toS a w)(n:Nm):∀i,R g (zZ s n i).toS a w
 |0=>h
 |i+1=>PH (zn h n i) _
theorem Rf{s:St}(h:R g s.toS a w)(r:ResultVar):R g (E4 s r).toS a w:=by
 cases r with
 |tmp t=>exact PG h _
 |cell a' t=>
  grind [E4,zn]
theorem sf:∀(rs:List ResultVar){s:St},R g s.toS a w->R g (pE s rs).toS a w
 |[],_,h=>h
 |r::rs,_,h=>sf rs (Rf h r)
theorem ad0{s:St}(h:R g s.toS a w):∀p i,gtA s.t i=.one (.c (.pl p))->okP (toM s.m) p:=by
 intro p i e;obtain⟨H,γ,F,hX⟩:=h;have:=hX.t i
 rw[jH e]at this;obtain⟨_,h1,_⟩:=this;exact NW h1
theorem Ga{rs:List ResultVar}{us:List U}{KK:Fl us->Prop}{K:AV->Prop}{t:St}(d:∀r,KK r->K (gy us r).toV)(h:uW P rs us KK t)(e:R g t.toS a w):∃b,wK P b rs K/\R g b a w:=by
 unfold uW at h;have c:=sf rs e
 refine⟨_,QD (us:=us) (Q:=KK) (sG (us:=us) ?_ h) d (lL (ad0 c) ?_ h),c⟩
 all_goals grind
theorem uk:∀(i:Nat)(us:List U)(x:Fl us),(SC i us x).map (fun y=>(y.1,y.2.2.toV))=dV i (lc us x)
 |_,[],_=>rfl
 |i,u::r,x=>by simp only[SC,aiZ,lc,dV,uk (i+1) r]
theorem jo:∀(us:List U)(x:Fl us),(lc us x).length=us.length
 |[],_=>rfl
 |u::r,x=>by simp only[lc,ai1,jo r]
end
def agK(s:S)(rs:List ResultVar)(K:List Sh->List (List D)->Prop):Prop:=
 match rs with
 |[.tmp t]=>match bd s.t t with
  |.one (.c (.rf ⟨n,0,[]⟩))=>match af s.m n with
   |some ⟨false,[.ow sub l]⟩=>K sub l
   |_=>False
  |_=>False
 |_=>False
def aiP(rs:List ResultVar)(K:List Sh->List (List D)->Prop):Exit->S->Prop
 |.normal,s=>agK s rs K
 |.ret,s=>agK s rs K
 |_,_=>False
def aiN(a:List AV->List Sh->List (List D)->(List (List D)->Prop)->Prop):CK1:=fun s ops k=>
 match ops with
 |[]=>False
 |o::os=>
  let s1:=pF s (os.map (ev s))
  match ev s1 o with
  |.one (.c (.rf ⟨r,0,[]⟩))=>match af s1.m r with
   |some ⟨false,[.ow sub l]⟩=>(os.map (ev s1)).all AV.isFz=true /\
     a (os.map fun x=>(ev s1 x).map T.canon) sub l (fun l'=>k ⟨oP (bU r) s1.t,(r,⟨false,[.ow sub l']⟩)::aP (bU r) (cv s1.m r)⟩ (.one (.c (.rf ⟨r,0,[]⟩))))
   |_=>False
  |_=>False
section
variable {P:Program}
end
section
variable {α β γ' δ:Type} {P:Program} {f:Nat} {fn:Func} {co:Code}
def fo0(c:Rw α)(n:Nat)(pre:List α->Prop)(f:List α->List α):List AV->List Sh->List (List D)->(List (List D)->Prop)->Prop
 |[],sub,l,K=>match dB c l with
  |some s=>sub=List.replicate n .fr/\pre s/\K ((f s).map c.enc)
  |_=>False
 |_,_,_,_=>False
def fo1(c:Rw α)(n:Nat)(a:Cd β)(pre:List α->β->Prop)(f:List α->β->List α):List AV->List Sh->List (List D)->(List (List D)->Prop)->Prop
 |[.one x],sub,l,K=>match dB c l,a.dec x with
  |some s,some x=>sub=List.replicate n .fr/\pre s x/\K ((f s x).map c.enc)
  |_,_=>False
 |_,_,_,_=>False
def fo2(c:Rw α)(n:Nat)(a:Cd β)(b:Cd δ)(pre:List α->β->δ->Prop)(f:List α->β->δ->List α):List AV->List Sh->List (List D)->(List (List D)->Prop)->Prop
 |[.one x,.one y],sub,l,K=>match dB c l,a.dec x,b.dec y with
  |some s,some x,some y=>sub=List.replicate n .fr/\pre s x y/\K ((f s x y).map c.enc)
  |_,_,_=>False
 |_,_,_,_=>False
end
attribute [push_cast] aiN fo0 fo1 fo2 agK aiP
section
variable {P:Program} {g:G} {a:Act} {w:World} {H:FH} {γ:Gam} {F:Nm->Fp}
theorem ED{m:Mm}{t:T}{f:Fp}{v:Value}(h:TR w H γ m t f v):rF (m.map (·.1)) t:=by
 have key:∀{n:Nm}{r:Root},af m n=some r->n∈m.map (·.1):=fun h=>alI (f:=(·.1)) (ak h)
 cases t with
 |pl p=>
  obtain⟨_,h1,_⟩:=h;unfold cj at h1;split at h1
  ·grind
  ·rename_i hr;exact key hr
 |rf p=>
  obtain⟨_,h1,_⟩:=h;unfold iG at h1;split at h1
  ·grind
  ·rename_i hr;exact key hr
 |_=>trivial
theorem OQ{m:Mm}{x:AV1}(h:AR1 w H γ m x y):yK (m.map (·.1)) x:=by
 cases x with
 |c t=>exact ED h
 |agg ts=>
  obtain⟨cs,_,_,h1⟩:=h;intro t a;obtain⟨i,hi,e⟩:=List.getElem_of_mem a;obtain⟨v,g',_,h2,_⟩:=EE h1 (i:=i) (t:=t) (by grind);exact ED h2
theorem aeB{m:Mm}{x:AV}(h:AR w H γ m x y):LR (m.map (·.1)) x:=by
 cases x with
 |one x=>exact OQ h
 |tup xs=>
  obtain⟨l,_,h1⟩:=h;have:∀(xs:List AV1)(a:List Value),ARs w H γ m xs a->∀x∈xs,yK (m.map (·.1)) x:=by
   intro xs;induction xs with
   |nil=>grind
   |cons x xs ih=>
    intro a h z hz;cases a with
    |nil=>exact h.elim
    |cons y a=>
     rcases ai7.1 hz with rfl|hz
     ·exact OQ h.1
     ·exact ih a h.2 z hz
  exact this xs _ h1
 |any=>trivial
theorem VD{m:Mm}{r:Root}{f:Fp}(h:bZ w H γ m n r f):∀t∈r.cells,rF (m.map (·.1)) t:=by
 intro t a;unfold bZ at h;split at h
 ·obtain⟨b,cs,ty,fz,g',_,_,_,_,h1,_⟩:=h;obtain⟨i,hi,e⟩:=List.getElem_of_mem a;obtain⟨v,c,_,h2,_⟩:=EE h1 (i:=i) (t:=t) (by grind);exact ED h2
 grind [ED]
theorem C1{s:S}(hX:RX g s a w H γ F)(n:Nm):RX g ⟨s.t,s.m.map fun x=>(x.1,if x.1=n then lR x.2 else x.2)⟩ a w H γ F:=by
 have hk:(s.m.map fun x=>(x.1,if x.1=n then lR x.2 else x.2)).map (·.1)=s.m.map (·.1):=by simp_all
 refine Vy hX (by rw[hk];exact hX.mem.keys) (fun x hx=>?_) (fun i=>.inr ⟨.inl rfl,by rw[hk];exact aeB (hX.t i)⟩);rw[hk];obtain⟨y,hy,rfl⟩:=ajK.1 hx;refine⟨y.2,sI hX.mem.keys hy,?_,VD (hX.mem.roots y hy)⟩
 grind [np.canon,np.refl]
theorem sv{sh:List Sh}{cells:List Tt}{j:Nm}(h:iH sh cells=some ts):(cells.map Tt.toT).all (T.self j)=true/\∀r:Nm,(cells.map Tt.toT).map (T.ren r j)=cells.map Tt.toT:=by
 induction cells generalizing sh ts with
 |nil=>grind
 |cons c cells ih=>
  cases sh with
  |nil=>simp[iH]at h
  |cons s sh=>
   have key:∀{ts'},iH sh cells=some ts'->(T.self j c.toT=true/\∀r,T.ren r j c.toT=c.toT)->((c::cells).map Tt.toT).all (T.self j)=true/\∀r:Nm,((c::cells).map Tt.toT).map (T.ren r j)=(c::cells).map Tt.toT:=by
    grind
   cases s with
   |fr=>
    cases c with
    |d x=>
     simp only[iH]at h;split at h
     ·rename_i hr;exact key hr ⟨rfl,fun _=>rfl⟩
     grind
    |nil=>
     simp only[iH]at h;split at h
     ·rename_i hr;exact key hr ⟨rfl,fun _=>rfl⟩
     grind
    |_=>simp[iH]at h
   |ow sub=>
    cases c with
    |ow s' u l=>
     simp only[iH]at h;split at h
     ·rename_i hr;exact key hr ⟨rfl,fun _=>rfl⟩
     grind
    |_=>simp[iH]at h
theorem D3{a b:Nm}:∀{ts:List T}{sh:List Sh}{cs:List C},ts.map T.canon=(bO sh cs).map Tt.toT->ts.map (T.ren a b)=ts
 |[],_,_,_=>rfl
 |t::ts,sh,cs,h=>by
  cases sh with
  |nil=>simp[bO]at h
  |cons s r=>cases cs with
   |nil=>grind [bO]
   |cons c cs=>
    have hd:∃t0:Tt,(∀p,t0≠.pl p)/\bO (s::r) (c::cs)=t0::bO r cs:=by
     cases s with
     |fr=>exact⟨.d c,(fun _ h=>by cases h),(by rfl)⟩
     |ow sub=>cases c with
      |li u l=>exact⟨.ow sub u l,(fun _ h=>by cases h),rfl⟩
      |_=>exact⟨.d _,(fun _ h=>by cases h),rfl⟩
    obtain⟨t0,h0,h1⟩:=hd;rw[h1]at h;simp only[aiZ,List.cons.injEq]at h;rw[aiZ,D3 h.2]
    congr 1
    cases t with
    |pl p=>
     have:=h.1
     cases t0<;>grind [T.canon,Tt.toT]
    |_=>rfl
theorem acC:∀(us:List U)(x:Fl us),(gy us x).toV.isFz=true:=by
 have one:∀(u:U)(x:El u),(Cm u x).toV.isFz=true:=by
  intro u x;cases u with
  |st n=>simp only[Cm,A1.toV,AV1.isFz,aj9,List.all_map];exact ajB.2 fun _ _=>rfl
  |_=>rfl
 have all:∀(us:List U)(x:Fl us),((gy.resL us x).map A1.toV).all AV1.isFz=true:=by
  intro us;induction us with
  |nil=>intro _;rfl
  |cons u r ih=>grind [gy.resL]
 intro us x
 match us,x with
 |[],_=>rfl
 |[u],x=>show(BC u x).toV.isFz=true;rw[vh];exact one u x
 |u::v::r,x=>exact all (u::v::r) x
end
theorem VS(i k:Nat):Nat.beq (i+100000) (k+100000)=Nat.beq i k:=by
 cases h:Nat.beq i k<;>grind [ai5,Nat.beq_refl]
theorem Kn(k:Nat)(t:List (Nat×Nat×At)):cD (shT t) (k+100000)=cD t k:=by
 induction t<;>grind [shT,cD,VS]
theorem Ko{k:Nat}(hk:k < 100000)(t:List (Nat×Nat×At)):cD (shT t) k=none:=by
 induction t<;>grind [ai5,shT,cD]
theorem Kp(k:Nat)(t:List (Nat×Nat×At)):cD (wV t) k=cD t (k+100000):=by
 induction t with
 |nil=>rfl
 |cons x r ih=>
  obtain⟨i,j,v⟩:=x;simp only[wV,cD];cases hb:Nat.ble 100000 i with
  |true=>
   have hi:100000<=i:=ajA hb
   have e:Nat.beq (i - 100000) k=Nat.beq i (k+100000):=by
    have:=VS (i - 100000) k
    rw[Nat.sub_add_cancel hi]at this;exact this.symm
   dsimp only;rw[cD,e];cases Nat.beq i (k+100000)with
   |true=>rfl
   |false=>exact ih
  |false=>
   have hi:¬ 100000<=i:=fun h=>by rw[Nat.ble_eq_true_of_le h]at hb;cases hb
   have e:Nat.beq i (k+100000)=false:=by
    cases h:Nat.beq i (k+100000)with
    |false=>rfl
    |true=>have:=ai5 h;omega
   rw[e];exact ih
variable{b:List (Nat×Nat×At)}
theorem wn{nx k:Nat}:∀{l:List At}{i:Nat},i+l.length<=k->cD (EL nx i l++b) k=cD b k
 |[],_,_=>rfl
 |v::r,i,h=>by
  have e:Nat.beq i k=false:=by
   grind [ai5]
  simp only[EL,akV,cD,e];exact wn (by grind)
theorem xC{nx k:Nat}:∀{l:List At}{i:Nat}{v:At},i<=k->l[k-i]? = some v->cD (EL nx i l++b) k=some (nx,v)
 |[],_,_,_,h=>by simp at h
 |v::r,i,x,hi,h=>by
  simp only[EL,akV,cD];rcases Nat.lt_or_eq_of_le hi with a|rfl
  ·have e:Nat.beq i k=false:=by
    grind [ai5]
   rw[e];refine xC kQ1 ?_
   grind
  grind [Nat.beq_refl]
abbrev inS(s:St)(vs:List At):St:=⟨s.nx+1,EL s.nx 0 vs++shT s.t,s.m⟩
variable{vs:List At}
theorem aeE{s:St}(hl:vs.length<=100000)(h:Ext (inS s vs) s'):Ext s ⟨s'.nx,wV s'.t,s'.m⟩:=by
 refine⟨ajJ (ajV _) h.nx,fun k j v hk hj=>?_,fun n j r hk hj=>h.m n j r hk (Nat.lt_succ_of_lt hj)⟩;rw[Kp]at hk;have:=h.t _ j v hk (Nat.lt_succ_of_lt hj)
 grind [wn,Kn]
theorem JB{P:Program}{s:St}{res:List ResultVar}{k k':St->At->Prop}(hl:vs.length<=100000)(hk:∀s' v,Ext s s'->k s' v->k' s' v)(a:Ext (inS s vs) s')(h:yg P res k s'):yg P res k' s':=by
 grind [yg,aeE]
variable{nt:Nat}{w':World}
section
variable {g:G} {a:Act} {w:World} {H:FH} {γ:Gam} {F:Nm->Fp}
theorem Zn{s:St}(hX:RX g s.toS a w H γ F){b:List Value}(hl:b.length=vs.length)(hv:∀(i:Nat) (v:At) (y:Value),vs[i]? = some v->b[i]? = some y->AR w H γ s.toS.m v.toV y)(f:vs.length<=nt)(h:nt<=100000) :
  RX ⟨nt,g.w0,g.H0,g.own0,g.out,some (g.tv a),[]⟩ (inS s vs).toS ⟨b.toArray++Array.replicate (nt-b.toArray.size) undef,[]⟩ w H γ F:=by
 have c:(b.toArray++Array.replicate (nt-b.toArray.size) undef).size=nt:=by grind
 refine⟨hX.mem,hX.fr,c,⟨rfl,hX.df.2⟩,fun i=>?_⟩;rw[show bd (inS s vs).toS.t i=(gtA (EL s.nx 0 vs++shT s.t) i).toV from dC i _,ka];rcases akN i vs.length with hi|hi
 ·rw[xC (ajW i) (v:=vs[i]) (by grind)];have d:i<b.length:=by omega
  rw[G.tv_lt (by grind)];have e:(b.toArray++Array.replicate (nt-b.toArray.size) undef).getD i undef=b[i]:=by
   simp_all[akJ]
  rw[e];exact hv i _ _ (aiY hi) (aiY d)
 ·rw[wn kQ1];rcases akN i 100000 with hb|hb
  ·rw[Ko hb];trivial
  ·obtain⟨j,rfl⟩:∃j,i=j+100000:=⟨i - 100000,by omega⟩
   rw[Kn,<- ka];have e:G.tv ⟨nt,g.w0,g.H0,g.own0,g.out,some (g.tv a),[]⟩ ⟨b.toArray++Array.replicate (nt-b.toArray.size) undef,[]⟩ (j+100000)=g.tv a j:=by
    unfold G.tv;dsimp only;rw[if_neg (by grind [TB])]
    simp_all[TB]
   rw[e,<- dC];exact hX.t j
theorem aeJ{s:St}(hX:RX g s.toS a w H γ F){ops:List Operand}(b:ops.all aH=true)(d:ops.length<=nt)(c:nt<=100000) :
  RX ⟨nt,g.w0,g.H0,g.own0,g.out,some (g.tv a),[]⟩ (inS s (ops.map (evA s))).toS ⟨(ops.map a.eval).toArray++Array.replicate (nt - (ops.map a.eval).toArray.size) undef,[]⟩ w H γ F:=by
 refine Zn hX (by simp) (fun i v y hv hy=>?_) (by grind) c;rw[ai4]at hv hy;obtain⟨x,hx,rfl⟩:=ajF.1 hv;rw[hx]at hy;obtain rfl:=Option.some.inj hy;have hop:=ajB.1 b x (akI hx)
 have:=aL hX hop
 grind [ah]
theorem Im{s0:S}(hX:RX g s0 a w H γ F)(b:nt<=100000){a':Act}{H':FH}{γ':Gam}{F':Nm->Fp}(h:RX ⟨nt,g.w0,g.H0,g.own0,g.out,some (g.tv a),[]⟩ s'.toS a' w' H' γ' F') :
  RX g (⟨s'.nx,wV s'.t,s'.m⟩:St).toS a w' H' γ' F':=by
 refine⟨h.mem,h.fr,hX.nt,⟨hX.df.1,h.df.2⟩,fun i=>?_⟩;rw[show bd (⟨s'.nx,wV s'.t,s'.m⟩:St).toS.t i=(gtA (wV s'.t) i).toV from dC i _,ka,Kp,<- ka,<- dC];have:=h.t (i+100000)
 have e:G.tv ⟨nt,g.w0,g.H0,g.own0,g.out,some (g.tv a),[]⟩ a' (i+100000)=g.tv a i:=by
  have hs:a'.tmps.size=nt:=h.nt
  unfold G.tv;dsimp only;rw[if_neg (by grind [TB])]
  simp_all[TB]
 rw[e]at this;exact this
theorem XJ{P:Program}{v:A1}(h:XI P m t x=some v):mQ P m t x (fun w=>w=.one v):=by
 unfold XI at h;grind [mQ]
theorem F8{P:Program}{s:St}(h:RX g s.toS a w H γ F):∀{rs:List ResultVar}{xs:List A1},Ol P s rs=some xs->∃b,(rs.mapM (l7 a.tmps)).run P w=.ok b w/\ARs w H γ (toM s.m) (xs.map A1.toV) b/\b.length=rs.length/\xs.length=rs.length
 |[],xs,e=>by
  simp only[Ol,aiX]at e;subst e;exact⟨[],rfl,trivial,rfl,rfl⟩
 |.tmp t::r,xs,e=>by
  simp only[Ol]at e;split at e
  ·rename_i x k h1 h2 h3;simp only[aiX]at e;subst e;obtain⟨b,k1,k2,k3,k4⟩:=F8 (P:=P) h h2;have f:=h.t t
   rw[show bd s.toS.t t=(gtA s.t t).toV from dC t s.t,h1,G.tv_lo (show t<TB from ajA h3)]at f;have j:((r.mapM (l7 a.tmps)).run P w)=.ok b w:=k1
   refine⟨a.tmps.getD t undef::b,?_,⟨f,k2⟩,by simp[k3],by simp[k4]⟩
   simp_all[l7]
  grind
 |.cell c t::r,xs,e=>by
  simp only[Ol]at e;split at e
  ·rename_i x k h1 h2 h3;simp only[aiX]at e;subst e;obtain⟨b,k1,k2,k3,k4⟩:=F8 (P:=P) h h2;have f:=h.t c
   rw[show bd s.toS.t c=(gtA s.t c).toV from dC c s.t,G.tv_lo (show c<TB from ajA h3)]at f;have hl:mQ P s.m t (gtA s.t c) (fun v=>v=.one x):=XJ h1
   obtain⟨z,d,B,_,i,n,o,rfl,rfl⟩:=AB (P:=P) h.mem (AC (fun q hq=>by
    rw[hq]at f;exact NW f.2.1) hl) f
   replace i:=i w (fun _ _=>rfl)
   have j:((r.mapM (l7 a.tmps)).run P w)=.ok b w:=k1
   have l:(l7 a.tmps (.cell c t)).run P w=.ok z w:=by
    simp only[l7];simp only[Instr.loadAt]at i;generalize a.tmps.getD c undef=u at i;cases u with
    |pointer ad=>
     cases ad with
     |some ad=>grind [asAddr,Instr.sureAddr]
     |none=>simp[Instr.sureAddr]at i
    |_=>simp[Instr.sureAddr]at i
   refine⟨z::b,?_,⟨n,k2⟩,by simp[k3],by simp[k4]⟩
   simp_all
  grind
theorem aaY{P:Program}{fn:Func}{s:St}{k:St->At->Prop}(h:RX g s.toS a w H γ F)(hk:yg P fn.results.toList k s) :
  ∃y v,(results fn a.tmps).run P w=.ok y w/\AR w H γ (toM s.m) v.toV y/\k ⟨s.nx,wV s.t,s.m⟩ v:=by
 unfold yg at hk;split at hk
 ·rename_i xs hx;obtain⟨b,k1,k2,k3,k4⟩:=F8 (P:=P) h hx;have c:(results fn a.tmps).run P w=.ok (if h:b.toArray.size=1 then b.toArray[0]else .tuple b.toArray) w:=by
   simp_all[kV,Array.mapM_eq_mapM_toList]
  refine⟨_,_,c,?_,hk⟩
  match xs,b,k2 with
  |[],[],_=>exact⟨#[],by simp,trivial⟩
  |[x],[y],k2=>exact k2.1
  |i::f::xs,e::d::b,k2=>exact⟨(e::d::b).toArray,by simp,by omega⟩
 grind
end
theorem Gb{P:Program}{f:Nat}{fn:Func}(hf:P.funcs[f]? = some fn) (a:(fn.name == "runtime.NumGoroutine")=false) (hb:fn.body.isSome=true):∀args w,(callFunc f args).run P w=.ok (.enter f args) w:=by
 intro args w;have h1:fn.name ≠ "runtime.NumGoroutine" := by grind
 obtain⟨c,h⟩:=Option.isSome_iff_exists.1 hb
 simp_all[callFunc]
variable{an:An}
theorem UN{e:En}(he:e.ok)(A:e.P.follows .mixedOrders=true){f:Nat}{fn:Func}(hf:e.P.funcs[f]? = some fn) (l:(fn.name == "runtime.NumGoroutine")=false) (hb:fn.body.isSome=true) 
  (hc:kz fn.ntmps (fn.body.getD .skip)=true) (u:Nat.ble fn.ntmps 100000=true):Cont e.P f (aaZ e fn an):=by
 have z:fn.body=some (fn.body.getD .skip):=by cases h:fn.body<;>grind
 have d:=ajA u
 refine⟨Gb hf l hb,fun pk s ops k k' hk b=>?_,fun g pk s a w H γ F ops k hX p b=>?_⟩
 ·unfold aaZ at b⊢;split at b
  ·rename_i j;have hl:(ops.map (evA s)).length<=100000:=by rw[ai2];exact ajJ (ajA j) d
   exact Gl (e:=⟨e.P,e.E,e.cs,e.sh,fun v s=>pk v ⟨s.nx,wV s.t,s.m⟩⟩) he _ an _ ⟨yg e.P fn.results.toList k,fun _ _=>False,yg e.P fn.results.toList k⟩ ⟨yg e.P fn.results.toList k',fun _ _=>False,yg e.P fn.results.toList k'⟩ (fun s' r h=>JB hl hk r h) (fun _ _ _ h=>h) (fun s' r h=>JB hl hk r h) b
  omega
 ·unfold aaZ at b;split at b
  ·rename_i j;have o:=ajA j
   refine calls_of_wp hf z (Code.wp_mono (fun x a' w' hl=>?_) (rZ (e:=⟨e.P,e.E,e.cs,e.sh,fun v s=>pk v ⟨s.nx,wV s.t,s.m⟩⟩) he A (g:=⟨fn.ntmps,g.w0,g.H0,g.own0,g.out,some (g.tv a),[]⟩) _ an _ _ hc b _ w ⟨H,γ,F,aeJ hX p o d⟩));obtain⟨s',hq,H',γ',F',hX'⟩:=hl;have fin:∀t:St,s'=t.toS->yg e.P fn.results.toList k t->a'.defers=[]/\∃v,(results fn a'.tmps).run e.P w'=.ok v w'/\pj g a pk k (.returned v) w':=by
    rintro t rfl n
    obtain⟨y,v,k1,k2,k3⟩:=aaY (P:=e.P) hX' n;exact⟨hX'.df.1,y,k1,.inl ⟨y,_,v,H',γ',F',rfl,k3,k2,Im hX d hX'⟩⟩
   cases x with
   |normal=>obtain⟨t,q,n⟩:=hq;exact fin t q n
   |ret=>obtain⟨t,q,n⟩:=hq;exact fin t q n
   |exit i=>obtain⟨t,q,n⟩:=hq;grind
   |panic c=>
    obtain⟨v,t,rfl,rfl,hv⟩:=hq;exact⟨hX'.df.1,.inr ⟨v,_,rfl,hv,H',γ',F',Im hX d hX'⟩⟩
   |_=>exact hq.elim
  grind
theorem UQ{P:Program}{f t:Nat}{C D:CKt}(h1:Cont P f C)(h2:Cont P f D):Cont P f (acK t C D):=by
 refine⟨h1.run,fun pk s ops k k' hk hc=>?_,fun g pk s a w H γ F ops k hX b hc=>?_⟩
 ·unfold acK at hc⊢;split at hc
  ·split at hc
   ·exact h1.ext pk s _ k k' hk hc
   ·exact h2.ext pk s _ k k' hk hc
  ·exact h2.ext pk s _ k k' hk hc
 ·unfold acK at hc
  grind [Cont.call,Cont.call]
variable{ps:List U}
section
variable {g:G} {s1:S} {a:Act} {w:World} {H1:FH} {γ:Gam} {F1:Nm->Fp}
theorem Zk(h1:RX g s1 a w H1 γ F1){w':World}{e:FH}{tt:Fp}(c:Fr w H1 (fun _=>0) w' e tt)(k:∀b o y,e b o=some y->RdV w' b o y):RX g s1 a w' e γ F1:=by
 have hold:∀b,b<w.heap.size->w'.heap[b]? = w.heap[b]? := fun b hb=>c.block b hb rfl
 have hnew:∀b,b<w.heap.size->H1 b=e b:=by
  intro b hb
  funext o
  cases hc:H1 b o with
  |some y=>rw[c.hold b o y hc]
  |none=>
   cases n:e b o with
   |none=>rfl
   |some y=>
    rcases c.hnew b o (by grind) hc with h'|h'
    all_goals omega
 have d:∀b,tot F1 s1.m b≠0->w'.heap[b]? = w.heap[b]? := fun b hb=>hold b (h1.mem.lt b hb)
 have j:=gH (w':=w') h1.mem d
 have f:Mem w' e γ s1.m F1:=by
  refine⟨k,fun x hx=>bh j c.hold rfl (fun b hb=>d b (by grind [bX])) (h1.mem.roots x hx),h1.mem.keys,h1.mem.le1,fun b hb=>by have:=h1.mem.lt b hb;grind,fun b hb o=>?_⟩;rw[<- hnew b (h1.mem.lt b hb)];exact h1.mem.nofz b hb o
 have l:Fr w H1 (tot F1 s1.m) w' e (tot F1 s1.m):=
  ⟨c.size,c.os,c.tape,c.output,fun b hb _=>hold b hb,c.hold,fun b o h2 h3=>by
   grind,fun b hb=>.inl hb,c.nz⟩
 exact jR h1 f l (fun i=>dy j c.hold (h1.t i)) (fun _=>rfl)
theorem Ii(a:∀b o y,H1 b o=some y->RdV w b o y)(c:Globs H1){args:List Value}{x:Fl ps}(hl:args.length=ps.length)(d:∀(i:Nat) v,(lc ps x)[i]? = some v->∃y,args[i]? = some y/\AR w H1 γ [] v y)(f:ps.length<=nt) :
  RX ⟨nt,w,H1,fun _=>0,fun _=>none,none,[]⟩ (MM ps x).toS ⟨args.toArray++Array.replicate (nt-args.toArray.size) undef,[]⟩ w H1 γ F1:=by
 rw[show(MM ps x).toS=⟨dV 0 (lc ps x),[]⟩from b9.S_ext (uk 0 ps x) rfl];refine⟨⟨a,fun x hx=>(by cases hx),by simp,fun b=>ajW _,fun b hb=>absurd rfl hb,fun b hb=>absurd rfl hb⟩,⟨ai0 _,rfl,rfl,rfl,fun _ _ _=>rfl,fun _ _ _ h=>h,fun b o h2 h3=>absurd h3 h2,fun b hb=>absurd rfl hb,qY⟩,by simp;omega,⟨rfl,fun j b e=>by simp at e,c⟩,fun i=>?_⟩;show AR w H1 γ [] (bd (dV 0 (lc ps x)) i) (Array.getD _ i undef)
 rw[jv];simp only[ajW,if_true,Nat.sub_zero];cases hi:(lc ps x)[i]? with
 |none=>trivial
 |some v=>
  obtain⟨y,h1,h2⟩:=d i v hi;have e:(args.toArray++Array.replicate (nt-args.toArray.size) undef).getD i undef=y:=by
   rw[akQ,akJ (by simpa using cg h1)];simp[h1]
  rw[e];exact h2
end
def Mo{α β γ:Type}(a:α->(β->Prop)->γ->Prop):Prop:=∀x K K' P,(∀y,K y->K' y)->a x K P->a x K' P
theorem Es{P:Program}{f:Nat}{rs:List U}{n:Fl ps->(Fl rs->Prop)->(Value->Prop)->Prop}(mo:Mo n)(l:∀args w,(callFunc f args).run P w=.ok (.enter f args) w)
  (c:∀(x:Fl ps)K KP(args:List Value)(w:World)(H:FH)(γ:Gam),n x K KP->args.length=ps.length->(∀(i:Nat)v,(lc ps x)[i]? = some v->∃y,args[i]? = some y/\AR w H γ [] v y)->Globs H->(∀b o y,H b o=some y->RdV w b o y) ->
   Calls P f args.toArray w (fun e w'=>∃d tt,Fr w H (fun _=>0) w' d tt/\(∀b o y,d b o=some y->RdV w' b o y)/\((∃r y,e=.returned r/\K y/\AR w' d γ [] (gy rs y).toV r)\/∃v,e=.panicked (chn v)/\KP v))):Cont P f (phT ps rs n):=by
 refine⟨l,fun pk s ops k k' hk hc=>?_,fun g pk s a w H γ F1 ops k hX j hc=>?_⟩
 ·unfold phT at hc⊢;dsimp only at hc⊢;split at hc
  ·exact mo _ _ _ _ (fun y hy=>hk _ _ (fo _ _) hy) hc
  ·exact hc.elim
 ·unfold phT at hc;dsimp only at hc;obtain⟨H1,q,h1⟩:=km (ops.map (evA s)) s H F1 hX;generalize fb s (ops.map (evA s))=s1 at hc h1;split at hc
  ·rename_i x hx;obtain⟨t,c2,c3⟩:=kq hx;have hl:ops.length=ps.length:=by
    have:=congrArg List.length c3
    grind [jo]
   refine(c x _ _ (ops.map a.eval) w H1 γ hc (by simpa using hl) (fun i v hi=>?_) (kl h1) h1.mem.agree).mono ?_
   ·rw[<- c3,ai4,ai4,ai4]at hi;cases ho:ops[i]? with
    |none=>simp[ho]at hi
    |some y=>
     have hop:=ajB.1 j y (akI ho)
     have hy:=aL h1 hop
     rw[ah hop]at hy;have hz:(evA s1 y).toV.isFz=true:=by grind
     rw[ho]at hi;obtain rfl:=Option.some.inj hi;exact⟨a.eval y,by simp[ho],iK fu (yN (fun _ _ _ h=>h) hz hy)⟩
   ·rintro e w' ⟨d,tt,m,p,h⟩
    have hb:=Zk h1 m p
    rcases h with⟨r,y,rfl,hk,har⟩|⟨v,rfl,hk⟩
    ·exact .inl ⟨r,s1,_,d,γ,q,rfl,hk,yN (fun _ _ _ h=>h) (acC _ _) har,hb⟩
    ·exact .inr ⟨v,s1,rfl,hk,d,γ,q,hb⟩
  ·exact hc.elim
theorem GF{P:Program}{f:Nat}{rs:List U}{d b:Fl ps->(Fl rs->Prop)->(Value->Prop)->Prop}(mo:Mo b)(hi:∀x K KP,b x K KP->d x K KP)(h:Cont P f (phT ps rs d)):Cont P f (phT ps rs b):=by
 have key:∀pk s ops k,phT ps rs b pk s ops k->phT ps rs d pk s ops k:=by
  intro pk s ops k hc;unfold phT at hc⊢;dsimp only at hc⊢;split at hc
  ·exact hi _ _ _ hc
  ·exact hc
 refine⟨h.run,fun pk s ops k k' hk hc=>?_,fun g pk s a w H γ F1 ops k hX c hc=>h.call g pk s a w H γ F1 ops k hX c (key _ _ _ _ hc)⟩;unfold phT at hc⊢;dsimp only at hc⊢;split at hc
 ·exact mo _ _ _ _ (fun y hy=>hk _ _ (fo _ _) hy) hc
 ·exact hc.elim
theorem QG{g:G}{P:Program}{fn:Func}{rs:List U}{K:Fl rs->Prop}{t:St}{a':Act}(j:uW P fn.results.toList rs K t)(m:R g t.toS a' w')(h0:g.ex=none) :
  ∃v c tt y,(results fn a'.tmps).run P w'=.ok v w'/\Fr g.w0 g.H0 g.own0 w' c tt/\(∀b o y,c b o=some y->RdV w' b o y)/\K y/\(∀γ,AR w' c γ [] (gy rs y).toV v)/\a'.defers=g.dfs:=by
 obtain⟨s2,e,c,s,A,f⟩:=Ga (K:=fun r=>∃y,r=(gy rs y).toV/\K y) (fun r hr=>⟨r,rfl,hr⟩) j m;obtain⟨y,v,x,n,z,k,d,p,q,l,u,i⟩:=F7 f h0 e;refine⟨y,n,_,l,k,d.fr,d.mem.agree,i,fun γ=>?_,d.df.1⟩;rw[<- u];exact iK fu (yN (fun _ _ _ h=>h) q p)
theorem UP{e:En}(he:e.ok)(G:e.P.follows .mixedOrders=true){f:Nat}{fn:Func}(hf:e.P.funcs[f]? = some fn) (j:(fn.name == "runtime.NumGoroutine")=false) (hb:fn.body.isSome=true)  {rs:List U} {n:Fl ps->(Fl rs->Prop)->(Value->Prop)->Prop} (mo:Mo n)
  (m:Nat.ble ps.length fn.ntmps=true) (hc:kz fn.ntmps (fn.body.getD .skip)=true) (q:∀x K KP,n x K KP->∃K' d,(∀y,K' y->K y)/\(∀v,d v->KP v)/\vJ e fn an ps rs x K' d):Cont e.P f (phT ps rs n):=by
 have p:fn.body=some (fn.body.getD .skip):=by cases h:fn.body<;>grind
 refine Es mo (Gb hf j hb) fun x K KP args w H γ hp hl L M z=>?_
 have hX0:=Ii (F1:=fun _ _=>0) z M hl L (nt:=fn.ntmps) (ajA m)
 obtain⟨K',d,N,A,h⟩:=q x K KP hp;refine calls_of_wp hf p (Code.wp_mono (fun ex a' w' hl=>?_) (rZ (e:=⟨e.P,e.E,e.cs,e.sh,fun v _=>d v⟩) he G _ an _ _ hc h _ w ⟨H,γ,_,hX0⟩));obtain⟨s',hq,B⟩:=hl;have fin:∀t:St,s'=t.toS->uW e.P fn.results.toList rs K' t->a'.defers=[]/\∃v,(results fn a'.tmps).run e.P w'=.ok v w'/\∃l tt,Fr w H (fun _=>0) w' l tt/\(∀b o y,l b o=some y->RdV w' b o y)/\((∃r y,Ending.returned v=.returned r/\K y/\AR w' l γ [] (gy rs y).toV r)\/∃u,Ending.returned v=.panicked (chn u)/\KP u):=by
  rintro t rfl g
  obtain⟨v,l,tt,y,k,C,I,J,O,D⟩:=QG g B rfl;exact⟨D,v,k,l,tt,C,I,.inl ⟨v,y,rfl,N y J,O γ⟩⟩
 cases ex with
 |normal=>obtain⟨t,k,g⟩:=hq;exact fin t k g
 |ret=>obtain⟨t,k,g⟩:=hq;exact fin t k g
 |exit i=>obtain⟨t,k,g⟩:=hq;exact g.elim
 |panic c=>
  obtain⟨v,t,rfl,rfl,hv⟩:=hq;obtain⟨H',γ',F',hX'⟩:=B;exact⟨hX'.df.1,H',_,hX'.fr,hX'.mem.agree,.inr ⟨v,rfl,A v hv⟩⟩
 |_=>exact hq.elim
theorem tB{e:En}(he:e.ok)(g:e.P.follows .mixedOrders=true){f:Nat}{fn:Func}(hf:e.P.funcs[f]? = some fn) (a:(fn.name == "runtime.NumGoroutine")=false) (hb:fn.body.isSome=true)  {rs:List U} {c:Fl ps->(Fl rs->Prop)->(Value->Prop)->Prop} (mo:Mo c)
  (b:Nat.ble ps.length fn.ntmps=true) (hc:kz fn.ntmps (fn.body.getD .skip)=true) (d:∀x KK KP,c x KK KP->vJ e fn an ps rs x KK KP):Cont e.P f (phT ps rs c):=
 UP he g hf a hb mo b hc fun x K KP h=>⟨K,KP,fun _ h=>h,fun _ h=>h,d x K KP h⟩
theorem yk{P:Program}{f:Nat}{rs:List U}{F:Fl ps->Fl rs}(h:Cont P f (uP ps rs (fun _=>True) F)):Cont P f (A9 ps rs F):=GF (fun _ _ _ _ h h'=>h _ h') (fun _ _ _ h=>⟨trivial,h⟩) h
end Go.Am
end

section
namespace Go.Am
open Go Go.RowKit Go.Proofs
variable{H:FH}{f:Nat}{l:List UInt8}{ps rs:List U}{w:World}{γ:Gam}{pre:Fl ps->Prop}
section
variable {P:Program}
theorem Vi{w':World}{a:FH}(hb:Below w.heap.size w w')(e:∀b o y,H b o=some y->a b o=some y)(hn:∀b o,a b o≠none->H b o=none->w.heap.size<=b)(d:∀b o x l c,a b o=some (.c (.slice x l c))->H b o=none->Thawed w' b):Fr w H (fun _=>0) w' a (fun _=>0):=
 ⟨hb.size,hb.os,hb.tape,hb.output,fun b h _=>hb.block b h,e,fun b o h2 h3=>.inr (hn b o h2 h3),fun b hb=>absurd rfl hb,fun b h0=>h0.of_block (hb.block b h0.lt),d⟩
theorem oW{post:Fl ps->Fl rs->Prop}(g:∀args w,(callFunc f args).run P w=.ok (.enter f args) w)
  (d:∀(x:Fl ps)(args:List Value)(w:World)(H:FH)(γ:Gam),pre x->args.length=(lc ps x).length->(∀(i:Nat)v,(lc ps x)[i]? = some v->∃y,args[i]? = some y/\AR w H γ [] v y)->Globs H ->
   (∀b o y,H b o=some y->RdV w b o y) ->
   Calls P f args.toArray w (fun e w'=>∃r a y,e=.returned r/\post x y/\Below w.heap.size w w'/\(∀b o y,H b o=some y->a b o=some y)/\(∀b o,a b o≠none->H b o=none->w.heap.size<=b)/\(∀b o x l c,a b o=some (.c (.slice x l c))->H b o=none->Thawed w' b) /\
    (∀b o y,a b o=some y->RdV w' b o y)/\AR w' a γ [] (gy rs y).toV r)):Cont P f (phT ps rs fun x K _=>pre x/\∀y,post x y->K y):=
 Es (fun _ _ _ _ h h'=>⟨h'.1,fun y hy=>h y (h'.2 y hy)⟩) g fun x K KP args w H γ hp hl k m j=>(d x args w H γ hp.1 (hl.trans (jo ps x).symm) k m j).mono fun e w'⟨r,a,y,h1,hy,h2,h3,h4,hz,h5,h6⟩=>⟨a,_,Vi h2 h3 h4 hz,h5,.inl ⟨r,y,h1,hp.2 y hy,h6⟩⟩
theorem gF{F:Fl ps->Fl rs}(g:∀args w,(callFunc f args).run P w=.ok (.enter f args) w)
  (d:∀(x:Fl ps)(args:List Value)(w:World)(H:FH)(γ:Gam),pre x->args.length=(lc ps x).length->(∀(i:Nat)v,(lc ps x)[i]? = some v->∃y,args[i]? = some y/\AR w H γ [] v y)->Globs H ->
   (∀b o y,H b o=some y->RdV w b o y) ->
   Calls P f args.toArray w (fun e w'=>∃r a,e=.returned r/\Below w.heap.size w w'/\(∀b o y,H b o=some y->a b o=some y)/\(∀b o,a b o≠none->H b o=none->w.heap.size<=b)/\(∀b o x l c,a b o=some (.c (.slice x l c))->H b o=none->Thawed w' b) /\
    (∀b o y,a b o=some y->RdV w' b o y)/\AR w' a γ [] (gy rs (F x)).toV r)):Cont P f (uP ps rs pre F):=
 GF (fun _ _ _ _ h h'=>⟨h'.1,h _ h'.2⟩) (fun x K KP h=>⟨h.1,fun y e=>e ▸ h.2⟩) (oW (post:=fun x y=>y=F x) g fun x args w H γ hp hl k m j=>(d x args w H γ hp hl k m j).mono fun e w'⟨r,a,h1,h⟩=>⟨r,a,_,h1,rfl,h⟩)
theorem fi{fn:Func}(hf:P.funcs[f]? = some fn) (a:(fn.name == "runtime.NumGoroutine")=false) (hb:fn.body.isSome=true) (args:Array Value) (w:World):(callFunc f args).run P w=.ok (.enter f args) w:=by
 have h1:fn.name ≠ "runtime.NumGoroutine" := by grind
 cases hc:fn.body with
 |none=>grind
 |some c=>simp_all[callFunc]
theorem lg{y:Value}(h:AR w H γ [] (.one (.c (.d (.str l)))) y):y=.string ⟨l.toArray⟩/\l.length<=BIG:=by
 obtain⟨_,m,h⟩:=h;cases m<;>exact h
theorem GA{m:Mm}(h:l.length<=BIG):AR w H γ m (.one (.c (.d (.str l)))) (.string ⟨l.toArray⟩):=⟨fun _=>rfl,0,rfl,h⟩
theorem qy(l:List UInt8):(⟨l.toArray⟩:ByteArray).data.toList=l:=by simp
theorem tZ(l:List UInt8):(⟨l.toArray⟩:ByteArray).size=l.length:=by rfl
theorem PN{args:List Value}{x y:AV}(hl:args.length=2)(a:∀(i:Nat) v,[x,y][i]? = some v->∃y,args[i]? = some y/\AR w H γ [] v y):∃u v,args=[u,v]/\AR w H γ [] x u/\AR w H γ [] y v:=by
 match args,hl with
 |[u,v],_=>
  obtain⟨u',h1,h2⟩:=a 0 x rfl;obtain⟨b,h3,h4⟩:=a 1 y rfl
  grind
theorem ID(B:Nat)(w:World)(n:Nat):Below B w (w.drewN n):=⟨rfl,rfl,rfl,ai0 _,fun _ _=>rfl⟩
theorem Dp(c:Globs H)(a:∀b o y,H b o=some y->RdV w b o y){k:Nat}(hk:abM=some k):∃n,w.cell? ⟨k,0,none⟩=some (.int .i64 n):=by
 obtain⟨n,m,h⟩:=c.2 k hk;obtain⟨y,h1,h2⟩:=h 0 (by simp);have h2:FD H m (.int .i64 n) y:=h2
 have:y=.int .i64 n:=by cases m<;>exact h2.1
 subst this;exact⟨n,a k 0 _ h1⟩
end
end Go.Am
end
