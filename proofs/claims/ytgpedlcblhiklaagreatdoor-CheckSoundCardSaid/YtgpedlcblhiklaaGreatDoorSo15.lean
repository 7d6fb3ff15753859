/-
  Part 15: AmIt · AmE3i · AmE5 · AmE6 · AmE7 · AmE8 · AmE9 · AmE10 · AmE11 · AmOwnCon · AmE12 · AmE14 · AmLib.
-/
import Derived.Test.YtgpedlcblhiklaaGreatDoorSo14
import Derived.Maps.RangeRun
set_option linter.unusedSimpArgs false
set_option linter.unusedVariables false
set_option linter.unusedSectionVars false
set_option linter.unnecessarySimpa false
section
namespace Go.Am
open MapKept
open Go.ChangeMaps (setBlock)
theorem Ow{H:FH}:∀{l:List (D×D)}{es:List MapEntry},ItL H l es->l.length=es.length
 |[],[],_=>rfl
 |_::_,_::_,h=>by simp[Ow h.2]
 |[],_::_,h=>h.elim
 |_::_,[],h=>h.elim
theorem Ov{H:FH}:∀{l:List (D×D)}{es:List MapEntry},ItL H l es->∀{i:Nat}{e:MapEntry},es[i]? = some e->∃x,l[i]? = some x/\x.1.isKey=true/\FDx H x.1 e.key/\FDx H x.2 e.val
 |x::l,e0::es,h,i,e,he=>by
  cases i with
  |zero=>
   obtain rfl:e0=e:=by grind
   exact⟨x,rfl,h.1⟩
  |succ i=>exact Ov h.2 (by grind)
 |[],[],_,i,e,he=>by grind
 |[],_::_,h,_,_,_=>h.elim
 |_::_,[],h,_,_,_=>h.elim
theorem CG{H:FH}:∀{l:List (D×D)}{es:List MapEntry},ItL H l es->∀i,ItL H (l.eraseIdx i) (es.eraseIdx i)
 |[],[],_,i=>by grind
 |x::l,e::es,h,i=>by
  cases i with
  |zero=>exact h.2
  |succ i=>exact⟨h.1,CG h.2 i⟩
 |[],_::_,h,_=>h.elim
 |_::_,[],h,_=>h.elim
theorem zF:∀{L:List MapEntry}{i:Nat}{e:MapEntry},(L.map (·.born)).Nodup->L[i]? = some e->L.filter (fun x=>!(x.born==e.born))=L.eraseIdx i
 |[],i,e,_,h=>by rfl
 |x::L,i,e,hn,h=>by
  simp only[af3,ahP]at hn;cases i with
  |zero=>
   grind [List.filter_eq_self]
  |succ i=>
   have h:L[i]? = some e:=by grind
   have a:x.born≠e.born:=fun b=>hn.1 (b ▸ List.mem_map_of_mem (ahA h))
   simp only[List.filter_cons,List.eraseIdx_cons_succ];rw[if_pos (by grind),zF hn.2 h]
theorem TW{H:FH}{m:Nat}:∀{l:List (D×D)}{es:List MapEntry},es.length=l.length->(∀(i:Nat)(x:D×D)(y:MapEntry),l[i]? = some x->es[i]? = some y->FD H m x.1 y.key/\FD H m x.2 y.val)->(∀e∈l,e.1.isKey=true)->ItL H l es
 |[],[],_,_,_=>trivial
 |x::l,e::es,hl,h,hk=>by
  have h0:=h 0 x e rfl rfl
  exact⟨⟨hk x (by simp),⟨m,h0.1⟩,m,h0.2⟩,TW (by grind) (fun i a b c hb=>h (i+1) a b (by grind) (by grind)) (fun a c=>hk a (by simp[c]))⟩
 |[],_::_,h,_,_=>by simp at h
 |_::_,[],h,_,_=>by simp at h
variable{cur:Option (D×D)}{n:Nm}{rest:List (D×D)}
section
variable {P:Program} {g:G} {s:S} {a:Act} {w:World} {H:FH} {γ:Gam} {F:Nm->Fp}
theorem T6(h:RX g s a w H γ F){z:Option (List (D×D))}{v:Value}(hv:FDx H (.mp z) v)(hk:∀e∈z.getD [],e.1.isKey=true)(hno:n.isOut=false)(hn:ae s.m n=none){t kt et:TypeId}(i:P.underlying t=some (.map kt et)) :
  ∃w' γ' F',(Instr.range t v).run P w=.ok (.pointer (some ⟨w.heap.size,0,none⟩)) w'/\RX g ⟨s.t,(n,⟨false,[.it none (z.getD [])]⟩)::s.m⟩ a w' H γ' F'/\γ' n=.gh (.pointer (some ⟨w.heap.size,0,none⟩)):=by
 have d:∀o:Obj,(∃q a c,o=.mapIter q a #[] c/\ItR H none (z.getD []) q a #[] c)->∃γ' F',RX g ⟨s.t,(n,⟨false,[.it none (z.getD [])]⟩)::s.m⟩ a (w.alloc o) H γ' F'/\γ' n=.gh (.pointer (some ⟨w.heap.size,0,none⟩)):=by
  rintro o ⟨q,a',c,rfl,hi⟩
  have hold:∀k,k<w.heap.size->(w.alloc (.mapIter q a' #[] c)).heap[k]? = w.heap[k]? := fun k hk=>cP hk
  have h1:=oN h (w':=w.alloc (.mapIter q a' #[] c)) (by simp) rfl rfl rfl (fun b hb=>.inl (hold b hb))
  have hz:tot F s.m w.heap.size=0:=by
   rcases agY (tot F s.m w.heap.size)with h'|h'
   ·exact h'
   ·have:=h.mem.lt w.heap.size kQ1;omega
  refine dL h1 hno hn (v:=.pointer (some ⟨w.heap.size,0,none⟩)) (t:=.it none (z.getD [])) (f:=fun b=>if b=w.heap.size then 1 else 0) ⟨w.heap.size,q,a',#[],c,rfl,bu,hi,fun _=>rfl⟩ (fun b=>?_) (fun b hb=>?_) (fun b hb=>?_)
  ·by_cases e:b=w.heap.size
   ·grind
   ·rw[if_neg e];have:=h.mem.le1 b;omega
  ·have e:b=w.heap.size:=by
    grind
   subst e;refine⟨by simp,fun o=>?_⟩;cases hc:H w.heap.size o with
   |none=>rfl
   |some y=>have:=(h.mem.agree _ _ _ hc).lt;omega
  ·right
   have e:b=w.heap.size:=by
    grind
   have:=h.fr.size
   omega
 cases z with
 |none=>
  have hv:v=.map none:=by obtain⟨m,hv⟩:=hv;cases m<;>exact hv
  subst hv;obtain⟨γ',F',h1,h2⟩:=d (.mapIter none 0 #[] 0) ⟨_,_,_,rfl,rfl,rfl⟩;exact⟨_,γ',F',by simp_all[Instr.range,run_underlying],h1,h2⟩
 |some l=>
  obtain⟨m,hv⟩:=hv;cases m with
  |zero=>exact hv.elim
  |succ m=>
   obtain⟨b,es,ck,rfl,k2,k3,k4⟩:=hv;obtain⟨k5,k6⟩:=h.mem.agree b 0 _ k2;obtain⟨γ',F',h1,h2⟩:=d (.mapIter (some b) ck #[] ck) ⟨_,_,_,rfl,es,ck,k2,rfl,rfl,by rw[List.filter_eq_self.2 (fun e _=>by simp)];exact TW k3 k4 hk,trivial⟩;exact⟨_,γ',F',by simp_all[Instr.range,run_underlying,getObj,Sem.run],h1,h2⟩
theorem aaT(h:Mem w H γ s.m F)(hr:ae s.m n=some ⟨false,[.it cur rest]⟩) :
  ∃r q x y c,γ n=.gh (.pointer (some ⟨r,0,none⟩))/\w.heap[r]? = some (.mapIter q x y c)/\ItR H cur rest q x y c/\∀k,F n k=if k=r then 1 else 0:=by
 have a:=h.roots _ (aj hr)
 unfold bU at a;dsimp only at a;rw[if_neg (by simp)]at a;obtain⟨v,t,h1,h2,h3⟩:=a;obtain rfl:t=.it cur rest:=by grind
 obtain⟨r,q,x,y,c,rfl,k2,k3,k4⟩:=h3
 grind
theorem P5(h:RX g s a w H γ F)(hr:ae s.m n=some ⟨false,[.it cur rest]⟩)(ty:TypeId) :
  ∃v,γ n=.gh v/\((rest=[]/\(Instr.next v false ty).run P w=.ok (.tuple #[.bool false]) w) \/
   ∃i x ky vl w' F',i<rest.length/\rest[i]? = some x/\(Instr.next v false ty).run P w=.ok (.tuple #[.bool true,ky,vl]) w'/\FDx H x.1 ky/\FDx H x.2 vl /\
    RX g ⟨s.t,cE s.m n ⟨false,[.it (some x) (rest.eraseIdx i)]⟩⟩ a w' H γ F'):=by
 obtain⟨r,q,x,y,c,h1,h2,h3,h4⟩:=aaT h.mem hr;refine⟨_,h1,?_⟩;cases q with
 |none=>
  obtain⟨rfl,rfl⟩:=h3;exact .inl ⟨rfl,by simp[Instr.next,getObj,Sem.run_bind,Sem.run,h2,Result.andThen]⟩
 |some b=>
  obtain⟨es,ck,k1,k2,k3,k4,k5⟩:=h3;obtain⟨k6,k7⟩:=h.mem.agree b 0 _ k1;have D:=(stamped_iff es ck).1 k7
  have I:(leftOf es y).toList=es.toList.filter fun e=>!y.contains e.born:=by simp[leftOf]
  rcases run_next_at (P:=P) w ty r b x c y es ck h2 k6 (fun e he=>by grind) kQ1 with⟨h5,h6⟩|⟨e,he,w1,hw1,h6⟩
  ·grind [Ow]
  ·refine .inr ?_;rw[I]at he;obtain⟨i,hi⟩:=List.getElem?_of_mem he;obtain⟨z,E,Q,z3,z4⟩:=Ov k4 hi;have C:i<rest.length:=(ahB.1 E).1
   have u:w1.heap=w.heap/\w1.os=w.os/\w1.tape=w.tape/\w1.output=w.output:=by rcases hw1 with rfl|rfl<;>exact⟨rfl,rfl,rfl,rfl⟩
   obtain⟨N,O,L,K⟩:=u;have j:=heap_set (o':=.mapIter (some b) x (y.push e.born) ck) h2
   have A:tot F s.m r≠0:=by have:=bR (F:=F) (aj hr) r;grind
   have M:b≠r:=fun e=>by grind
   have B:((es.toList.filter fun e=>!y.contains e.born).map (·.born)).Nodup:=(D.2.1.sublist ((List.filter_sublist (p:=fun e:MapEntry=>!y.contains e.born) (l:=es.toList)).map _))
   have k:e∈es.toList:=(List.mem_filter.1 he).1
   have G:es.toList.filter (fun x=>!(y.push e.born).contains x.born)=(es.toList.filter fun e=>!y.contains e.born).eraseIdx i:=by
    rw[<- zF B hi,List.filter_filter]
    grind
   refine⟨i,z,e.key,e.val,setBlock w1 r (.mapIter (some b) x (y.push e.born) ck),upd F n (F n),C,E,h6,z3,z4,?_⟩;have d:(setBlock w1 r (.mapIter (some b) x (y.push e.born) ck)).heap=w.heap.setIfInBounds r (.mapIter (some b) x (y.push e.born) ck):=by show w1.heap.setIfInBounds _ _=_;rw[N]
   refine T5 h rfl rfl hr h1 (f':=F n) ⟨r,some b,x,y.push e.born,ck,rfl,by grind,⟨es,ck,k1,k2,rfl,by grind [CG],y,e,rfl,k,Q,z3,z4⟩,h4⟩ (fun c=>by have:=h.mem.le1 c;omega) (fun c hc=>?_) (by grind) O L K (fun c hc=>?_) (fun _ _ _ h=>h) (fun b' o J hy=>(h.mem.agree b' o J hy).frame ?_) (fun b o h1 h2=>absurd h2 h1) ⟨fun b' h'=>h'.of_block ?_,fun c o x y z h1 h2=>by grind⟩
   ·have:tot F s.m c≠0:=by grind
    exact⟨h.mem.lt c this,h.mem.nofz c this,h.fr.tt c this⟩
   ·grind
   ·rw[d];exact j.2 b' fun e=>by subst e;rw[h.mem.nofz _ A o]at hy;cases hy
   ·rw[d];refine j.2 b' fun e=>?_
    subst e;obtain⟨cs,ty,e⟩:=h'
    grind
theorem Lg(h:RX g s a w H γ F){x:D×D}(hr:ae s.m n=some ⟨false,[.it (some x) rest]⟩) :
  ∃v ky vl,γ n=.gh v/\(Instr.entry v).run P w=.ok (.tuple #[ky,vl]) w/\x.1.isKey=true/\FDx H x.1 ky/\FDx H x.2 vl:=by
 obtain⟨r,q,a',y,c,h1,h2,h3,h4⟩:=aaT h.mem hr;cases q with
 |none=>obtain⟨h3,_⟩:=h3;cases h3
 |some b=>
  obtain⟨es,ck,k1,k2,k3,k4,j,e,rfl,k5,k8,i,d⟩:=h3;obtain⟨k6,k7⟩:=h.mem.agree b 0 _ k1;have f:=(stamped_iff es ck).1 k7
  subst k3;exact⟨_,e.key,e.val,h1,run_entry_at w r b a' j es c e h2 k6 k5 f.2.1,k8,i,d⟩
theorem S9{m:Mm}{v:Value}(hn:ae m n=some ⟨false,[.it cur rest]⟩)(a:γ n=.gh v):AR w H γ m (.one (.c (.rf ⟨n,0,[]⟩))) v:=by
 refine⟨fun _=>rfl,?_,?_⟩
 ·rw[b9];exact⟨_,hn,trivial⟩
 ·unfold plV;dsimp only;rw[a];rfl
end
end Go.Am
end

section
namespace Go.Am
variable{caps:List Operand}{d:Tmp}{et kt t tt:TypeId}{ku vu:U}{n:Nm}{row:List C}{x:At}{y:Value}
section
variable {P:Program} {g:G} {a:Act} {w:World} {H:FH} {γ:Gam} {F:Nm->Fp} {s:St} {k k':St->Prop}
theorem Nq{x:Operand}(hk:∀s',Ext s s'->k s'->k' s')(h:wn P s t x d k):wn P s t x d k':=by
 unfold wn at h⊢;dsimp only at h⊢
 (repeat' split at h)<;>first|exact h.elim|exact hk _ ((((iy _ _).trans (bT _ _)).trans (dh _ _ _)).trans (aA _ _ _)) h
theorem Sb{d:Option Tmp}(hk:∀s',Ext s s'->k s'->k' s')(h:Dm s x d k):Dm s x d k':=by
 unfold Dm at h⊢;split at h
 ·exact⟨fun e=>hk _ (aA _ _ _) (h.1 e),fun i hi=>hk _ ((s6 _ _ _).trans (aA _ _ _)) (h.2 i hi)⟩
 omega
theorem L0{d:Option Tmp}(hk:∀s',Ext s s'->k s'->k' s')(h:qk s x d k):qk s x d k':=by
 grind [qk,aA]
theorem JD(hk:∀s',Ext s s'->k s'->k' s')(h:qB s x d k):qB s x d k':=by
 unfold qB at h⊢
 grind [aA]
theorem Qf:∀{t:Tt},t.hit (bO n)=false->t.frB n row=t:=by
 intro t h;cases t with
 |pl p=>
  have h:decide (p.root=n)=false:=h
  grind [Tt.frB,Tt.kill,bO]
 |rf p=>
  have h:decide (p.root=n)=false:=h
  grind [Tt.frB,Tt.kill,bO]
 |_=>rfl
theorem PT(s:St)(n:Nm):Ext s (IJ s n):=by
 unfold IJ;split
 ·split
  ·exact⟨agU _,s4 (·.hit (bO n)) (·.map (Tt.frB n _)) (fun _ h=>u5 Qf h) (af2 _),(oJ n).trans (eJ (af2 _))⟩
  ·exact Ext.refl s
 ·exact Ext.refl s
theorem pW:∀(vs:List At)(s:St),Ext s (ro s vs)
 |[],s=>Ext.refl s
 |v::vs,s0=>by
  unfold ro;split
  ·grind
  ·rename_i h;cases h;exact(PT _ _).trans (pW _ _)
  ·rename_i h;cases h;exact pW _ _
theorem B1{f:Nat}{d:Option Tmp}(hk:∀s',Ext s s'->k s'->k' s')(h:jX s f caps d k):jX s f caps d k':=by
 unfold jX at h⊢;dsimp only at h⊢;split at h
 ·exact hk _ ((pW _ _).trans (aA _ _ _)) h
 omega
theorem YC(h1:leaf ku=true)(h2:leaf vu=true)(z:Option (List (El ku×El vu))):(C.mp ku vu z).toD=.mp (z.map fun l=>l.map (rb ku vu)):=by
 show D.mp _=D.mp _
 congr 1
 cases z with
 |none=>rfl
 |some l=>
  show some _=some _
  congr 1
  refine agJ fun x _=>?_
  show((ap ku x.1).headD .any,(ap vu x.2).headD .any)=_
  rw[o4 h1,o4 h2];rfl
theorem Sv{x:Operand}(hX:RX g s.toS a w H γ F)(hd:okD g.nt (some d)=true)(hx:aG x=true)(h:wn P s t x d k) :
  ∃t' y w' H' γ' F',(Instr.range t (a.eval x)).run P w=.ok y w'/\k t'/\RX g t'.toS (a.put (some d) y) w' H' γ' F':=by
 unfold wn at h;dsimp only at h;obtain⟨H1,F1,h1⟩:=gE hX (evA s x);generalize gL s (evA s x)=s1 at h h1;split at h
 ·rename_i kt et i;split at h
  ·rename_i ku vu z hv;split at h
   ·rename_i hc;simp only[afZ]at hc;obtain⟨_,td,_,p,b,_⟩:=aV i (by simp);obtain rfl:=rE b;have h2:=cR h1 (.gh d)
    rw[<- bw (gD h1)]at h2;have h3:=aJ h2 hx
    rw[af hx,hv]at h3;have h4:FDx H1 (.mp (z.map fun l=>l.map (rb ku vu))) (a.eval x):=by rw[<- YC (AC hc.1) hc.2];exact h3.2
    have hn:=cv h1 (.gh d)
    rw[<- bw (gD h1)]at hn;obtain⟨w',γ',F',o,f,j⟩:=T6 (P:=P) h2 h4 (fun e he=>by
     cases z with
     |none=>cases he
     |some l=>
      obtain⟨y,_,rfl⟩:=agL.1 (show e∈l.map (rb ku vu)from he);exact nI (fU hc.1 y.1)) (n:=.gh d) rfl hn p
    refine⟨_,_,w',H1,γ',F',o,h,?_⟩;have q:(z.map fun l=>l.map (rb ku vu)).getD []=(z.getD []).map (rb ku vu):=by cases z<;>rfl
    rw[q]at f;have e:((s1.fresh (.gh d)).root (.gh d) ⟨false,[.it ku vu none (z.getD [])],none⟩).toS=⟨(s1.fresh (.gh d)).toS.t,(.gh d,⟨false,[.it none ((z.getD []).map (rb ku vu))]⟩)::(s1.fresh (.gh d)).toS.m⟩:=rfl
    rw[<- e]at f;refine bj (aI _ (some d) (.one (.c (.rf ⟨.gh d,0,[]⟩)))) (f.put hd ?_);exact S9 (cur:=none) (rest:=(z.getD []).map (rb ku vu)) (by grind [ae]) j
   grind
  grind
 grind
theorem O8{cur:Option (El ku×El vu)}{rest:List (El ku×El vu)}(h:Y1 s.m x=some (n,⟨ku,vu,cur,rest⟩)) :
  x=.one (.c (.rf ⟨n,0,[]⟩))/\ae s.toS.m n=some ⟨false,[.it (cur.map (rb ku vu)) (rest.map (rb ku vu))]⟩:=by
 unfold Y1 at h;split at h
 ·split at h
  ·rename_i hr;cases h;exact⟨rfl,br hr⟩
  grind
 grind
theorem aaU{v:Value}{m:Mm}(a:γ n=.gh v)(h:AR w H γ m (.one (.c (.rf ⟨n,0,[]⟩))) y):y=v:=by
 obtain⟨_,_,hv⟩:=h;unfold plV at hv;dsimp only at hv;rw[a]at hv;exact(Option.some.inj hv).symm
theorem Wo{d:Option Tmp}(hX:RX g s.toS a w H γ F)(hd:okD g.nt d=true)(hy:AR w H γ s.toS.m x.toV y)(ty:TypeId)(h:Dm s x d k) :
  ∃t' z w' F',(Instr.next y false ty).run P w=.ok z w'/\k t'/\RX g t'.toS (a.put d z) w' H γ F':=by
 unfold Dm at h;split at h
 ·rename_i n ku vu cur rest hi;obtain⟨rfl,hr⟩:=O8 hi;obtain⟨v,j,b⟩:=P5 (P:=P) hX hr ty;obtain rfl:=aaU j hy;rcases b with⟨h1,h2⟩|⟨i,e,ky,vl,w',F',h1,h2,h3,h4,h5,h6⟩
  ·refine⟨_,_,w,F,h2,h.1 (List.map_eq_nil_iff.1 h1),bj (aI _ _ _) (hX.put hd ?_)⟩;exact⟨_,rfl,⟨fun _=>rfl,0,rfl⟩,trivial⟩
  ·have c:i<rest.length:=by grind
   refine⟨_,_,w',F',h3,h.2 i c,?_⟩;have f:e=rb ku vu (rest.getD i (dflt ku,dflt vu)):=by
    grind
   have l:(⟨s.nx+1,s.t,eA s.m n s.nx ⟨false,[.it ku vu (some (rest.getD i (dflt ku,dflt vu))) (rest.eraseIdx i)],none⟩⟩:St).toS=⟨s.toS.t,cE s.toS.m n ⟨false,[.it (some e) ((rest.map (rb ku vu)).eraseIdx i)]⟩⟩:=by
    rw[f,<- Go.ChangeMaps.map_eraseIdx];show(⟨_,toM (eA s.m n s.nx _)⟩:S)=_
    rw[fj];rfl
   rw[<- l]at h6;refine bj (aI _ _ _) (h6.put hd ?_);rw[f]at h4 h5;exact⟨_,rfl,⟨fun _=>rfl,0,rfl⟩,⟨fun _=>rfl,h4⟩,⟨fun _=>rfl,h5⟩,trivial⟩
 grind
theorem Q6{d:Option Tmp}(hX:RX g s.toS a w H γ F)(hd:okD g.nt d=true)(hy:AR w H γ s.toS.m x.toV y)(h:qk s x d k) :
  ∃t' z,(Instr.entry y).run P w=.ok z w/\k t'/\RX g t'.toS (a.put d z) w H γ F:=by
 unfold qk at h;split at h
 ·rename_i n ku vu e rest hi;obtain⟨rfl,hr⟩:=O8 hi;obtain⟨v,ky,vl,b,h1,_,h2,h3⟩:=Lg (P:=P) hX hr;obtain rfl:=aaU b hy;exact⟨_,_,h1,h,bj (aI _ _ _) (hX.put hd ⟨_,rfl,⟨fun _=>rfl,h2⟩,⟨fun _=>rfl,h3⟩,trivial⟩)⟩
 grind
theorem Bc{b:Nat}{es:Array MapEntry}{ck:Nat}(a:P.underlying t=some (.map kt et))(hb:w.heap[b]? = some (.map es ck)) :
  (Builtin.len_ #[t] tt #[.map (some b)]).run P w=.ok (.int .i64 (es.size:Int)) w:=by
 simp_all[Builtin.len_,run_underlying,getObj,Sem.run,goInt]
theorem Km(a:P.underlying t=some (.map kt et)) :
  (Builtin.len_ #[t] tt #[.map none]).run P w=.ok (.int .i64 0) w:=by
 simp_all[Builtin.len_,run_underlying,goInt]
theorem Oy{w:World}{H:FH}:∀{l:List (D×Sh×D)}{es:List MapEntry}{f:Fp},MpO w H l es f->l.length=es.length
 |[],[],_,_=>rfl
 |_::_,_::_,_,h=>by obtain⟨_,f1,a,k,_,_,h⟩:=h;simp[Oy h]
 |[],_::_,_,h=>h.elim
 |_::_,[],_,h=>h.elim
theorem MS(hX:RX g s.toS a w H γ F)(hd:okD g.nt (some d)=true)(hy:AR w H γ s.toS.m x.toV y)(q:(ty P t).k=.mp kt et)(h:qB s x d k) :
  ∃t' z,(Builtin.len_ #[t] tt #[y]).run P w=.ok z w/\k t'/\RX g t'.toS (a.put (some d) z) w H γ F:=by
 obtain⟨_,td,_,o,i,_⟩:=aV q (by simp);obtain rfl:=rE i;have big:∀n:Nat,n<=4611686018427387904->(Lit.int .i64 (n:Int)).wf=true:=fun n h=>Bu (by grind [BIG])
 unfold qB at h;split at h
 ·rename_i ku vu z;have c:FDx H (.mp (z.map fun l=>l.map fun x=>((ap ku x.1).headD .any,(ap vu x.2).headD .any))) y:=hy.2
  cases z with
  |none=>
   have j:y=.map none:=by obtain⟨m,c⟩:=c;cases m<;>exact c
   subst j;exact⟨_,_,Km o,h.2,bj (aI _ _ _) (hX.put hd ⟨fun _=>rfl,0,rfl,big 0 kQ1⟩)⟩
  |some l=>
   obtain⟨m,c⟩:=c;cases m with
   |zero=>exact c.elim
   |succ m=>
    obtain⟨b,es,ck,rfl,k2,k3,k4⟩:=c;obtain⟨k5,k6⟩:=hX.mem.agree b 0 _ k2;have e:es.size=l.length:=by grind
    exact⟨_,_,Bc o k5,h.2,bj (aI _ _ _) (hX.put hd ⟨fun _=>rfl,0,by grind,big _ h.1⟩)⟩
 ·rename_i p;split at h
  ·rename_i ku vu l r;obtain⟨n,rfl,hr⟩:=qx r;obtain⟨b,es,ck,f,rfl,_,c2,c3,c4,_⟩:=sM hX hr hy;have e:es.size=l.length:=by have:=Oy c4;grind
   exact⟨_,_,Bc o c2,h.2,bj (aI _ _ _) (hX.put hd ⟨fun _=>rfl,0,by rw[e],big _ h.1⟩)⟩
  grind
 grind
theorem Xi:∀{cells:List Tt}{row:List C},tdC cells=some row->(cells.map Tt.toT).all T.isD=true/\(cells.map Tt.toT).map T.toD=row.map C.toD
 |[],row,h=>by cases h;grind
 |t::ts,row,h=>by
  cases t with
  |d c=>
   have h':∃r,tdC ts=some r/\row=c::r:=by
    cases c with
    |any=>cases h
    |_=>obtain⟨r,h1,h2⟩:=agG.1 h;grind
   obtain⟨r,h1,rfl⟩:=h';obtain⟨k1,k2⟩:=Xi h1;exact⟨by simp only[af3,agF,k1];rfl,by simp only[af3,k2];rfl⟩
  |_=>simp[tdC]at h
theorem Lp(n:Nm)(row:List C)(t:Tt):(t.frB n row).toT=t.toT.frB n (row.map C.toD):=by
 cases t with
 |pl p=>
  obtain⟨r,o,path⟩:=p;cases path with
  |nil=>
   show(if r=n then Tt.el row o else Tt.pl ⟨r,o,[]⟩).toT=if r=n then T.el (row.map C.toD) o else T.pl ⟨r,o,[]⟩
   by_cases e:r=n
   ·rw[if_pos e,if_pos e];rfl
   ·rw[if_neg e,if_neg e];rfl
  |cons st u=>exact dV (bO n) (.pl ⟨r,o,st::u⟩)
 |rf p=>exact dV (bO n) (.rf p)
 |_=>rfl
theorem Qa(h:RX g s.toS a w H γ F)(n:Nm):∃H',RX g (IJ s n).toS a w H' γ F:=by
 unfold IJ;split
 ·rename_i cells hr;split
  ·rename_i row b;obtain⟨h1,h2⟩:=Xi b;obtain⟨H',h'⟩:=XO h n;refine⟨H',?_⟩;have c:ae s.toS.m n=some ⟨true,cells.map Tt.toT⟩:=br hr
   have e:s.toS.frzB n=(⟨s.nx+1,s.t.map fun x=>(x.1,stp (x.2.2.hit (bO n)) s.nx x.2.1,x.2.2.map (Tt.frB n row)),cN (bO n) s.nx (fM s.m n)⟩:St).toS:=by
    unfold S.frzB;rw[c];dsimp only;rw[if_pos h1,h2];refine bV.S_ext ?_ ?_
    ·simp only[St.toS,sv,ag6]
     grind [agJ,rH,Lp]
    ·have h3:=fg (bO n) s.nx (fM s.m n)
     rw[oY n s.m (gD h)]at h3;exact h3.symm
   grind
  grind
 grind
theorem p5:∀(vs:List At)(s:St)(H:FH),RX g s.toS a w H γ F->∃H',RX g (ro s vs).toS a w H' γ F
 |[],s,H,h=>⟨H,h⟩
 |v::vs,s0,H,h=>by
  unfold ro;split
  ·grind
  ·rename_i e;cases e;obtain⟨H1,h1⟩:=Qa h _;exact p5 _ _ H1 h1
  ·rename_i e;cases e;exact p5 _ _ H h
theorem zz{c:Lt.Cap}:∀{l:List Sn},Ik row l=some c->row=flat (.st (Ej c).1) (Ej c).2/\c.enc=row.map C.toD
 |[],h=>by cases h
 |n::r,h=>by
  unfold Ik at h;split at h
  ·rename_i x hx;split at h
   ·rename_i a hc;cases h;obtain⟨h1,h2⟩:=Yx hc;have h3:=wD hx
    refine⟨by grind,?_⟩;rw[h2,h3,bX];rfl
   ·exact zz h
  ·exact zz h
theorem CV(hX:RX g s.toS a w H γ F):∀{ops:List Operand}{cs:List Lt.Cap},ops.all aG=true->Ek s ops=some cs->cs.length=ops.length/\∃m,∀(i:Nat)(row:List D)(y:Value),(cs.map Lt.Cap.enc)[i]? = some row->(ops.map a.eval)[i]? = some y ->
   ∃b o,y=.pointer (some ⟨b,o,none⟩)/\∀j,j<row.length->∃z:Value,H b (o+j)=some z/\FD H m (row.getD j default) z
 |[],cs,_,h=>by cases h;simp_all
 |x::ops,cs,ho,h=>by
  simp only[agF,afZ]at ho;unfold Ek at h;split at h
  ·rename_i row hv;split at h
   ·rename_i c n hc l;cases h;obtain⟨h1,k,h2⟩:=CV hX ho.2 l;have h3:=aJ hX ho.1
    rw[af ho.1,hv]at h3;obtain⟨_,b,o,f,h4,h5⟩:=h3;obtain⟨_,h6⟩:=zz hc;refine⟨by simp[h1],k+f,fun i e y hi hy=>?_⟩;have mono:=fun{m:Nat}(p:m<=k+f){d:D}{v:Value}(h:FD H m d v)=>gc (fun _ _ _ h=>h) m (k+f) d v p h
    cases i with
    |zero=>
     have hi:c.enc=e:=by grind
     have hy:a.eval x=y:=by grind
     subst hi hy;rw[h6];refine⟨b,o,h4,fun j hj=>?_⟩;obtain⟨z,hz,hf⟩:=h5 j hj
     grind
    |succ i=>
     grind
   grind
  grind
theorem ES{f:Nat}{d:Option Tmp}(hX:RX g s.toS a w H γ F)(hd:okD g.nt d=true)(hc:caps.all aG=true)(h:jX s f caps d k) :
  ∃t' H',k t'/\RX g t'.toS (a.put d (.func (.func f) #[] (caps.map a.eval).toArray)) w H' γ F:=by
 unfold jX at h;dsimp only at h;obtain⟨H1,h1⟩:=p5 (caps.map (evA s)) s H hX;generalize ro s (caps.map (evA s))=s1 at h h1;split at h
 ·rename_i cs b;obtain⟨k1,m,k2⟩:=CV h1 hc b;refine⟨_,H1,h,bj (aI _ _ _) (h1.put hd ⟨fun _=>rfl,m+1,caps.map a.eval,rfl,?_,k2⟩)⟩;simp[k1]
 grind
end
abbrev chn(v:Value):List PanicEntry:=[{ v,recovered:=false }]
def mg(g:G)(a:Act)(pk:PKt)(k:St->At->Prop)(e:Ending)(w':World):Prop:=
 (∃r s' av H' γ' F',e=.returned r/\k s' av/\AR w' H' γ' (toM s'.m) av.toV r/\RX g s'.toS a w' H' γ' F') \/
 ∃v s',e=.panicked (chn v)/\pk v s'/\R g s'.toS a w'
structure Cont (P:Program) (f:Nat) (C:CKt):Prop where
 run:∀args w,(callFunc f args).run P w=.ok (.enter f args) w
 ext:∀(pk:PKt)(s:St)(ops:List Operand)(k k':St->At->Prop),(∀s' v,Ext s s'->k s' v->k' s' v)->C pk s ops k->C pk s ops k'
 call:∀(g:G)(pk:PKt)(s:St)(a:Act)(w:World)(H:FH)(γ:Gam)(F:Nm->Fp)(ops:List Operand)(k:St->At->Prop),RX g s.toS a w H γ F->ops.all aG=true->C pk s ops k ->
  Calls P f (ops.map a.eval).toArray w (mg g a pk k)
structure ContC (P:Program) (key:Nat) (C:CKt):Prop where
 big:1000000<=key
 run:∀args w,(callFunc (key - 1000000) args).run P w=.ok (.enter (key - 1000000) args) w
 ext:∀(pk:PKt)(s:St)(ops:List Operand)(k k':St->At->Prop),(∀s' v,Ext s s'->k s' v->k' s' v)->C pk s ops k->C pk s ops k'
 call:∀(g:G)(pk:PKt)(s:St)(a:Act)(w:World)(H:FH)(γ:Gam)(F:Nm->Fp)(t:Tmp)(ops:List Operand)(k:St->At->Prop)(ps:Array Value),RX g s.toS a w H γ F->ops.all aG=true->t<TB->a.tmps.getD t undef=.func (.func (key - 1000000)) #[] ps->C pk s (.tmp t::ops) k ->
  Calls P (key - 1000000) ((ops.map a.eval).toArray++ps) w (mg g a pk k)
def En.ok(e:En):Prop:=∀x∈e.cs,(Nat.blt x.1 1000000=true->Cont e.P x.1 x.2)/\(1000000<=x.1->ContC e.P x.1 x.2)
theorem En.ok_get'{e:En}(h:e.ok){f:Nat}{C:CKt}(hg:e.cs.get f=some C):(Nat.blt f 1000000=true->Cont e.P f C)/\(1000000<=f->ContC e.P f C):=by
 have:∀cs:CTt,(∀x∈cs,(Nat.blt x.1 1000000=true->Cont e.P x.1 x.2)/\(1000000<=x.1->ContC e.P x.1 x.2))->cs.get f=some C->(Nat.blt f 1000000=true->Cont e.P f C)/\(1000000<=f->ContC e.P f C):=by
  intro cs;induction cs with
  |nil=>intro _ h;cases h
  |cons x cs ih=>
   obtain⟨f',C'⟩:=x;intro h hg2;simp only[CTt.get]at hg2;split at hg2
   all_goals simp_all
 exact this e.cs h hg
theorem En.ok_get{e:En}(h:e.ok){f:Nat}{C:CKt}(hg:e.cs.get f=some C)(hf:Nat.blt f 1000000=true):Cont e.P f C:=(En.ok_get' h hg).1 hf
variable{v:At}
theorem QZ{key:Nat}(h:Io v=some key):1000000<=key:=by
 unfold Io at h
 grind
variable{K':C->Prop}{i:Nat}{m:List (Nm×Nat×Rt)}{o:Oper}{op:BinOp}
section
variable {k k':At->Prop}
theorem M9{c y:At}(hk:∀v,k v->k' v)(h:Ds c x y k):Ds c x y k':=by
 unfold Ds at h⊢
 grind
theorem Sc{κ:IntKind}{a b:Int}{K:C->Prop}(hk:∀v,K v->K' v)(h:Wq op κ a b K):Wq op κ a b K':=by
 unfold Wq at h⊢;cases op<;>first|exact hk _ h|grind
theorem Qo{x y:C}{K:C->Prop}(hk:∀v,K v->K' v)(h:GW op x y K):GW op x y K':=by
 unfold GW at h⊢;split at h
 ·split at h<;>first|exact h.elim|exact hk _ h|grind
 grind [Sc]
theorem Qq{P:Program}{y:At}(hk:∀v,k v->k' v)(h:Qp P op t x y k):Qp P op t x y k':=by
 unfold Qp at h⊢
 (repeat' split at h)<;>first|exact h.elim|exact hk _ h|exact⟨h.1,hk _ h.2⟩|grind [Qo]|(simp_all;done)
theorem Xo{op:UnOp}(hk:∀v,k v->k' v)(h:unT op x k):unT op x k':=by
 unfold unT at h⊢
 grind
theorem BE(hk:∀v,k v->k' v)(h:ml x i k):ml x i k':=by
 unfold ml at h⊢
 grind
theorem KC{i:At}(hk:∀v,k v->k' v)(h:wA x i k):wA x i k':=by
 unfold wA at h⊢
 grind
theorem jc{y:Option At}{d:Nat}{k1 k2:Nat->Prop}(hk:∀n,k1 n->k2 n)(hb:gV y d k1):gV y d k2:=by
 unfold gV at hb⊢
 grind
theorem Ky{P:Program}{lo hi:Option At}(hk:∀v,k v->k' v)(h:ww P t x lo hi k):ww P t x lo hi k':=by
 unfold ww at h⊢;split at h
 ·split at h
  ·exact jc (fun a c=>jc (fun b hb=>⟨hb.1,hk _ hb.2⟩) c) h
  omega
 ·split at h
  ·skip
   split at h
   ·exact jc (fun a c=>jc (fun b hb=>⟨hb.1,hk _ hb.2⟩) c) h
   omega
  omega
 all_goals grind (splits:=20) [jc]
theorem xN{P:Program}(hk:∀v,k v->k' v)(h:iG P m t x i k):iG P m t x i k':=by
 unfold iG at h⊢;split at h
 ·skip
  split at h
  all_goals grind
 omega
theorem ox{P:Program}{i:At}(hk:∀v,k v->k' v)(h:gz P m t x i k):gz P m t x i k':=by
 unfold gz at h⊢;split at h
 ·split at h
  ·skip
   split at h
   all_goals grind
  all_goals grind
 omega
theorem MN{P:Program}(hk:∀v,k v->k' v)(h:mE P m t x k):mE P m t x k':=by
 unfold mE at h⊢;split at h
 ·skip
  split at h
  all_goals grind
 omega
theorem Ix{P:Program}(hk:∀v,k v->k' v)(h:vG P t x i k):vG P t x i k':=by
 unfold vG at h⊢;split at h
 all_goals grind
theorem Az(hk:∀v,k v->k' v)(h:jY x k):jY x k':=by
 unfold jY at h⊢
 grind
theorem G0{P:Program}{ps:List (Nat×At)}(hk:∀v,k v->k' v)(h:vr P t ps k):vr P t ps k':=by
 grind [vr]
theorem LX{P:Program}{b a:TypeId}(hk:∀v,k v->k' v)(h:CY P b a x k):CY P b a x k':=by
 unfold CY at h⊢;split at h
 all_goals grind
theorem Fb{e:En}{s:St}(hk:∀v,k v->k' v)(h:qT e o s k):qT e o s k':=by
 unfold qT at h⊢;cases ho:o.op with
 |move x=>grind
 |assign x=>grind
 |pick c x y=>grind [M9]
 |binOp op t x y z=>grind [Qq]
 |unOp op t x=>grind [Xo]
 |load t x=>grind [MN]
 |field t x i=>grind [Ix]
 |fieldAddr t x i=>grind [xN]
 |indexAddr t x i=>grind [ox]
 |index t x i=>
  grind [KC]
 |extract x i=>grind [BE]
 |convert d b x=>grind [LX]
 |slice t x lo hi a=>
  rw[ho]at h;cases a<;>grind [Ky]
 |nilCheck x=>grind [Az]
 |build t ps=>grind [G0]
 |call c=>
  grind [Dg]
 |_=>grind
end
variable{E:Ut}{s':St}{sub:List Sh}{ts:List Tt}{u:U}
section
variable {k k':St->Prop} {s:St}
theorem Ls{P:Program}(hk:∀s',Ext s s'->k s'->k' s')(h:vi P s t d k):vi P s t d k':=by
 unfold vi at h⊢;split at h
 ·skip
  split at h
  ·exact hk _ (((bT _ _).trans (dh _ _ _)).trans (aA _ _ _)) h
  omega
 omega
theorem Ux{x:Operand}(hk:∀s',Ext s s'->k s'->k' s')(h:Qu s x d k):Qu s x d k':=by
 unfold Qu at h⊢;split at h
 ·skip
  split at h
  ·exact hk _ (((bT _ _).trans (dh _ _ _)).trans (aA _ _ _)) h
  omega
 omega
theorem xL{P:Program}{n:Nat}{ps:Array (Nat×Operand)}(hk:∀s',Ext s s'->k s'->k' s')(h:gH P E s t n ps d k):gH P E s t n ps d k':=by
 unfold gH at h⊢;split at h
 ·skip
  split at h
  ·skip
   split at h
   ·skip
    dsimp only at h⊢;split at h
    ·skip
     split at h
     ·skip
      exact hk _ ((((eX _ _).trans (bT _ _)).trans (dh _ _ _)).trans (aA _ _ _)) h
     omega
    omega
   omega
  omega
 omega
theorem AY{p:Pl}{t:Tt}(hk:∀s',Ext s s'->k s'->k' s')(h:J0 s p t k):J0 s p t k':=by
 unfold J0 at h⊢;split at h
 ·omega
 ·skip
  split at h
  ·skip
   split at h
   ·exact hk _ ⟨agU _,fun _ _ _ h _=>h,dw _ _ (af2 _) _⟩ h
   omega
  ·skip
   split at h
   ·exact qI (hk _ ⟨agU _,fun _ _ _ h _=>h,dw _ _ (af2 _) _⟩) h
   omega
  ·skip
   split at h
   ·skip
    split at h
    ·exact qI (xg (hk _ ⟨agU _,fun _ _ _ h _=>h,dw _ _ (af2 _) _⟩)) h
    omega
   omega
  omega
theorem lA:∀{ts:List Tt}{s:St}{p:Pl},(∀s',Ext s s'->k s'->k' s')->jP s p ts k->jP s p ts k'
 |[],s,p,hk,h=>hk _ (Ext.refl s) h
 |t::ts,s,p,hk,h=>by
  cases t with
  |rf q=>
   simp only[jP]at h⊢;split at h
   ·skip
    split at h
    ·skip
     exact AY (fun s' he b=>lA (fun a e=>hk a (((s5 _ _).trans he).trans e)) b) h
    omega
   omega
  |any=>exact h.elim
  |d c=>cases c with
   |any=>exact h.elim
   |_=>exact AY (fun s' he b=>lA (fun a e=>hk a (he.trans e)) b) h
  |_=>exact AY (fun s' he b=>lA (fun a e=>hk a (he.trans e)) b) h
theorem JZ{p:Pl}(hk:∀s',Ext s s'->k s'->k' s')(h:qN s p ts k):qN s p ts k':=by
 unfold qN at h⊢;split at h
 ·omega
 ·skip
  split at h
  ·skip
   split at h
   ·exact qI (hk _ ⟨agU _,fun _ _ _ h _=>h,dw _ _ (af2 _) _⟩) h
   omega
  omega
theorem NH{P:Program}(hk:∀s',Ext s s'->k s'->k' s')(h:wy P s t x v k):wy P s t x v k':=by
 unfold wy at h⊢
 grind (splits:=20) [JZ,lA]
theorem iC{l:List (El u)}(h:oT s u v=some (s',sub,l)):Ext s s':=by
 unfold oT at h;split at h
 ·grind [Ext.refl]
 ·split at h
  ·split at h
   ·rename_i a;simp only[af0,Prod.mk.injEq]at h;obtain⟨rfl,_⟩:=h;unfold Xh at a;split at a
    ·grind
    ·split at a
     ·simp only[af0]at a;rw[<- a];exact⟨agU _,ix (af2 _),(dw _ _ (af2 _) s.m).trans (eJ (af2 _))⟩
     ·simp only[af0]at a;rw[<- a];exact⟨agU _,ix (af2 _),(dw _ _ (af2 _) s.m).trans (eJ (af2 _))⟩
     grind
   grind
  grind
 grind
theorem GQ{P:Program}{u:TypeId}{x y:Operand}(hk:∀s',Ext s s'->k s'->k' s')(h:qc P E s t u x y d k):qc P E s t u x y d k':=by
 unfold qc at h⊢;dsimp only at h⊢;split at h
 ·skip
  split at h
  ·skip
   split at h
   ·skip
    split at h
    ·rename_i h3 h4;split at h
     ·skip
      exact⟨h.1,hk _ (((((iy _ _).trans (iC h4)).trans (bT _ _)).trans (dh _ _ _)).trans (aA _ _ _)) h.2⟩
     omega
    omega
   omega
  omega
 omega
theorem vo{P:Program}{n:Nat}{ps:Array (Nat×Operand)}(hk:∀s',Ext s s'->k s'->k' s')(h:fu P E sub s t n ps d k):fu P E sub s t n ps d k':=by
 unfold fu at h⊢;split at h
 ·skip
  split at h
  ·skip
   split at h
   ·skip
    dsimp only at h⊢;split at h
    ·skip
     split at h
     ·skip
      exact hk _ ((((eX _ _).trans (bT _ _)).trans (dh _ _ _)).trans (aA _ _ _)) h
     omega
    omega
   omega
  omega
 omega
theorem vp{P:Program}{n:Nat}{ps:Array (Nat×Operand)}(hk:∀s',Ext s s'->k s'->k' s')(h:fw P E sub s t n ps d k):fw P E sub s t n ps d k':=by
 unfold fw at h⊢
 (repeat' split at h)<;>first|exact h.elim|skip
 exact hk _ ((((iC (by assumption)).trans (bT _ _)).trans (dh _ _ _)).trans (aA _ _ _)) h
theorem Ec{P:Program}{u:TypeId}{x y:Operand}(hk:∀s',Ext s s'->k s'->k' s')(h:l6 P E s t u x y d k):l6 P E s t u x y d k':=by
 unfold l6 at h⊢;split at h
 ·skip
  split at h
  ·skip
   split at h
   ·skip
    split at h
    ·rename_i h3;split at h
     ·rename_i h4;split at h
      ·skip
       exact⟨h.1,hk _ (((((iC h3).trans (iC h4)).trans (bT _ _)).trans (dh _ _ _)).trans (aA _ _ _)) h.2⟩
      omega
     omega
    omega
   omega
  omega
 omega
theorem j7(a:Nat):∀(sh:List Sh)(j:Nat)(s:St),Ext s (Ay a sh j s)
 |[],_,s=>Ext.refl s
 |.fr::r,j,s=>j7 a r (j+1) s
 |.ow _::r,j,s=>by
  simp only[Ay];split
  ·split
   ·split
    ·split
     ·rename_i h _;split
      ·exact((((iC (by assumption)).trans (bT _ _)).trans (dh _ _ _)).trans (aA _ _ _)).trans (j7 a r (j+1) _)
      ·exact(((iC (by assumption)).trans (bT _ _)).trans (dh _ _ _)).trans (j7 a r (j+1) _)
     ·exact j7 a r (j+1) s
    ·exact j7 a r (j+1) s
   ·exact j7 a r (j+1) s
  ·exact Ext.refl s
theorem Tq(sh:List (TypeId×List Sh))(s:St)(t:TypeId)(v:Operand):Ext s (MW sh s t v):=by
 unfold MW
 grind [j7,Ext.refl]
theorem Fj{e:En}{x hi:Operand}(hk:∀s',Ext s s'->k s'->k' s')(h:mN e s t x hi d k):mN e s t x hi d k':=by
 unfold mN at h⊢;split at h
 ·split at h
  ·split at h
   ·split at h
    ·rename_i hb;exact⟨h.1,hk _ ((((iC hb).trans (bT _ _)).trans (dh _ _ _)).trans (aA _ _ _)) h.2⟩
    omega
   omega
  omega
 omega
theorem SO{e:En}(hk:∀s',Ext s s'->k s'->k' s')(h:Kz e o s k):Kz e o s k':=by
 unfold Kz at h⊢;split at h
 ·exact Fj hk h
 ·exact JC hk h
 ·grind [JD]
 ·dsimp only at h⊢;split at h
  ·split at h
   ·exact ox (fun v hv=>hk _ ((pW _ _).trans (aA _ _ _)) hv) h
   omega
  omega
 omega
theorem DP:∀{row:List C}{l:List (List UInt8)},Bl row=some l->row=l.map C.s
 |[],_,h=>by cases h;rfl
 |c::r,l,h=>by
  cases c with
  |s x=>
   simp only[Bl]at h;split at h
   ·rename_i l' hr;cases h;rw[DP hr];rfl
   grind
  |_=>simp[Bl]at h
theorem acX{e:En}(he:e.ok)(hk:∀s',Ext s s'->k s'->k' s')(h:lT e o s k):lT e o s k':=by
 unfold lT at h⊢;cases ho:o.op with
 |store t x v=>rw[ho]at h;exact NH (fun s' he a=>hk _ ((((Tq _ _ _ _).trans (PU _ _ _)).trans he).trans (aA _ _ _)) a) h
 |alloc t=>
  grind [Ls]
 |box t x=>
  grind [Ux]
 |buildSlice t n ps=>
  rw[ho]at h;cases hd:o.dst with
  |none=>grind
  |some d=>
   rw[hd]at h;dsimp only at h⊢;split at h
   all_goals grind [xL,vp,vo]
 |call c=>
  rw[ho]at h;dsimp only at h⊢;split at h
  ·grind (splits:=20) [GQ,Ec]
  ·exact JB (fun s' f a=>hk _ (f.trans (aA _ _ _)) a) h
  ·skip
   split at h
   ·rename_i C j hf;exact(En.ok_get he j hf).ext _ _ _ _ _ (fun s' v f a=>hk _ (f.trans (aA _ _ _)) a) h
   omega
  ·skip
   split at h
   ·skip
    split at h
    ·rename_i C j hf;exact(En.ok_get he j hf).ext _ _ _ _ _ (fun s' v f a=>hk _ (f.trans (aA _ _ _)) a) h
    omega
   ·split at h
    ·split at h
     ·rename_i g _ C j;exact((En.ok_get' he j).2 (QZ g)).ext _ _ _ _ _ (fun s' v f a=>hk _ (f.trans (aA _ _ _)) a) h
     omega
    omega
   omega
  omega
 |makeMap t r=>
  rw[ho]at h
  grind [ET]
 |lookup t x i ok=>
  grind [EV,EU,aA]
 |mapUpdate t m i v=>
  rw[ho]at h;dsimp only at h⊢;split at h
  ·exact JE (fun s' f a=>hk _ (f.trans (aA _ _ _)) a) h
  ·exact JF (fun s' f a=>hk _ (((iy _ _).trans f).trans (aA _ _ _)) a) h
 |makeSlice t n c=>
  grind [Av]
 |makeFunc fn first caps=>
  grind [B1]
 |range t x=>
  grind [Nq]
 |next x b=>
  rw[ho]at h;cases b<;>grind [Sb]
 |entry x=>grind [L0]
 |_=>grind
theorem JO{e:En}(he:e.ok)(hk:∀s',Ext s s'->k s'->k' s')(h:E8 e o s k):E8 e o s k':=by
 unfold E8 at h⊢;split at h
 ·rename_i hq;exact Fb (fun v hv=>hk _ ((FW _ _).trans (aA _ _ _)) hv) h
 grind [acX]
theorem Zo{e:En}(he:e.ok)(hk:∀s',Ext s s'->k s'->k' s')(h:opT e o s k):opT e o s k':=by
 grind [opT,SO,JO]
end
variable{K:S->Prop}{all:List Oper}
section
variable {P:Program} {g:G} {Q:Exit->S->Prop} {s:St}
def AOt(P:Program)(g:G)(o:Oper)(k:St->Prop)(Q:Exit->S->Prop)(s:St):Prop:=
 ∀a w,R g s.toS a w->o.wp P a w (fun a' w'=>∃s':St,k s'/\R g s'.toS a' w') (lift g Q)
def PQ(pk:PKt):Exit->S->Prop:=fun x s=>∃v,∃t:St,x=.panic (chn v)/\s=t.toS/\pk v t
section
variable {g:G} {a:Act} {w:World} {H:FH}
theorem js{s:St}(h:gtA s.t i=v):aY s.toS.t i=v.toV:=by rw[<- h];exact dl i s.t
theorem Ul{γ:Gam}{F:Nm->Fp}{s:St}(hX:RX g s.toS a w H γ F){c j:Nat}{t:Tt}(d:gtA s.t c=.one (.agg ts))(hj:ts[j]? = some t) :
  ∃vs v,g.tv a c=.agg vs/\vs.toList[j]? = some v/\TR w H γ s.toS.m t.toT (fun _=>0) v:=by
 have h:=hX.t c
 rw[js d]at h;obtain⟨vs,h1,_,h3⟩:=h;obtain⟨_,v,g',_,h4,h5,h6⟩:=rK h3 (k:=j) (x:=t.toT) (by grind);refine⟨vs,v,h1,h4,?_⟩;have:g'=fun _=>0:=funext fun b=>by grind
 grind
theorem kc(e:Nat):∀(sh:List Sh)(j:Nat)(s:St)(γ:Gam)(F:Nm->Fp),RX g s.toS a w H γ F->∃γ' F',RX g (Ay e sh j s).toS a w H γ' F'
 |[],_,s,γ,F,hX=>⟨γ,F,hX⟩
 |.fr::r,j,s,γ,F,hX=>kc e r (j+1) s γ F hX
 |.ow _::r,j,s,γ,F,hX=>by
  simp only[Ay];split
  ·rename_i ts G;split
   ·rename_i q hj;split
    ·rename_i u M _ _ _;split
     ·rename_i s1 sub l hb;obtain⟨vs,v,C,I,A⟩:=Ul hX G hj;have hy:AR w H γ s.toS.m (.one (.c (.rf q))) v:=A
      obtain⟨b1,b2,_⟩:=l8 (size:=nc u) rfl (gD hX) (fun K x=>by
       cases x;exact pz A.2.1) hb
      obtain⟨J,f,F1,k1,k2,k3,k4,k5⟩:=l9 hX hy b1;have o:=cR k2 (.gh (700000+j))
      have z:∀b,tot F1 (s1.toS.fresh (.gh (700000+j))).m b<=tot F1 s1.toS.m b:=by
       intro b;unfold S.fresh;split
       ·omega
       ·show tot F1 (aM _ _) b<=_
        rw[bk];exact fY
      obtain⟨γ',F',d,p⟩:=dL o (n:=.gh (700000+j)) rfl (cv k2 (.gh (700000+j))) (v:=v) (t:=.ow sub (l.map (ap u))) (f:=f) ⟨J,k1⟩
       (fun b=>by have h1:=z b;have h2:=k4 b;have h3:=hX.mem.le1 b;omega) (fun b hb=>⟨(k5 b hb).1,(k5 b hb).2.1⟩) (fun b hb=>(k5 b hb).2.2)
      have B:((s1.fresh (.gh (700000+j))).root (.gh (700000+j)) ⟨false,[.ow sub u l],none⟩).toS=⟨(s1.toS.fresh (.gh (700000+j))).t,(.gh (700000+j),⟨false,[.ow sub (l.map (ap u))]⟩)::(s1.toS.fresh (.gh (700000+j))).m⟩:=by
       rw[<- bw b2];rfl
      rw[<- B]at d;generalize hs2:(s1.fresh (.gh (700000+j))).root (.gh (700000+j)) ⟨false,[.ow sub u l],none⟩=s2 at d B;split
      ·rename_i k y;refine kc e r (j+1) _ γ' F' ⟨d.mem,d.fr,d.nt,d.df,fun i=>?_⟩;show AR w H γ' s2.toS.m (aY ((e,At.toV (.one (.agg (k.set j (.rf ⟨.gh (700000+j),0,[]⟩)))))::s2.toS.t) i) _
       simp only[aY];split
       ·rename_i hi;subst hi;have h:=d.t e
        rw[js y,C]at h;obtain⟨cs,h1,h2,h3⟩:=h;obtain rfl:=Value.agg.inj h1;rw[C];refine⟨vs,rfl,by grind,?_⟩;by_cases D:j<k.length
        ·obtain⟨_,_,_,L,fr,_,_,_,a4,_,E,_⟩:=cQ _ _ _ _ j h3 (by grind);have hr:TR w H γ' s2.toS.m (.rf ⟨.gh (700000+j),0,[]⟩) (fun _=>0) v:=(gQ (H:=H) (w:=w) (sub:=sub) (l:=l.map (ap u)) (by grind [ae]) p:AR w H γ' s2.toS.m (.one (.c (.rf ⟨.gh (700000+j),0,[]⟩))) v)
         have:=E (fun _=>TR w H γ' s2.toS.m) (.rf ⟨.gh (700000+j),0,[]⟩) v (fun _=>0) (fun _ _ _ _ _ h=>h) hr
         rw[pL I]at this;unfold Ts;rw[af7]at this⊢;rw[ahO,agR];exact oI (fun b=>by grind) this
        grind
       ·exact d.t i
      ·exact kc e r (j+1) _ γ' F' d
     ·exact kc e r (j+1) s γ F hX
    ·exact kc e r (j+1) s γ F hX
   ·exact kc e r (j+1) s γ F hX
  grind
theorem Uc(sh:List (TypeId×List Sh)){s:St}{γ:Gam}{F:Nm->Fp}(t:TypeId)(v:Operand)(hX:RX g s.toS a w H γ F):∃γ' F',RX g (MW sh s t v).toS a w H γ' F':=by
 unfold MW;split
 ·exact kc _ _ _ _ _ _ hX
 grind
end
theorem YM{w:World}{H:FH}{γ:Gam}{m:Mm}(h:AR w H γ m v.toV y){f:Nat}(hf:acK v=some f):y=.func (.func f) #[] #[]:=by
 unfold acK at hf;split at hf
 ·rename_i f' x z;split at hf
  ·rename_i hx0 a;simp only[af0]at hf;subst hf;obtain⟨_,m,h3⟩:=h;have b:y=.func (.func f') x z:=by cases m<;>exact h3.1
   grind
  grind
 ·rename_i c;split at hf
  ·rename_i hc;simp only[af0]at hf;subst hf;obtain⟨_,m,h3⟩:=h;cases m with
   |zero=>exact h3.elim
   |succ m=>
    obtain⟨ps,h4,h5,_⟩:=h3
    grind
  grind
 grind
theorem U8{w:World}{H:FH}{γ:Gam}{m:Mm}(h:AR w H γ m v.toV y){key:Nat}(hf:Io v=some key):∃f ps,key=f+1000000/\y=.func (.func f) #[] ps:=by
 unfold Io at hf;split at hf
 ·rename_i c;simp only[af0]at hf;subst hf;obtain⟨_,m,h3⟩:=h;cases m with
  |zero=>exact h3.elim
  |succ m=>
   obtain⟨ps,h4,_⟩:=h3
   grind
 grind
theorem Wv{e:En}{c:Call}(ho:o.op=.call c)(hd:o.dst=some d)(h:ac6 e o=true):∃t kt et,c.callee=.builtin .len/\c.argTypes.toList=[t]/\(ty e.P t).k=.mp kt et:=by
 grind [ac6]
theorem aa8{e:En}(he:e.ok)(M:∀x s,PQ e.pk x s->Q x s){k:St->Prop}(hc:opC g.nt o=true)(hq:isQ o=false)(h:lT e o s k):AOt e.P g o k Q s:=by
 intro a w hR;obtain⟨H,γ,F,hX⟩:=hR;have hn:=gD hX
 have T:∀{s1:St},(∃H' F',RX g s1.toS a w H' γ F')->opK e.P [] o s1.toS (upS k)->o.wp e.P a w (fun a' w'=>∃s':St,k s'/\R g s'.toS a' w') (lift g Q):=by
  intro s1 ⟨H',F',B⟩ hop;exact cu (fun a' w'⟨s',⟨t,e,hk⟩,N⟩=>⟨t,hk,CM e N⟩) (fun _ _ _ h=>h) (KY (Q:=Q) CT.ok0 hc hop a w ⟨H',γ,F',B⟩)
 have j:=hc
 unfold opC at j;rw[afZ]at j;obtain⟨hd,j⟩:=j;unfold lT at h;cases ho:o.op with
 |store t x v=>
  rw[ho]at h j;simp only[afZ]at j;obtain⟨W,F0,h0⟩:=Uc e.sh t v hX;obtain⟨H1,F1,h1⟩:=Qb h0 (evA (MW e.sh s t v) x) (evA (MW e.sh s t v) v);refine cu (fun a' w'⟨s',⟨t,e,hk⟩,N⟩=>⟨t,hk,CM e N⟩) (fun _ _ _ h=>h) (KY (Q:=Q) CT.ok0 hc (?_:opK e.P [] o _ (upS k)) a w ⟨H1,W,F1,h1⟩);unfold opK;rw[ho];dsimp only;rw[af j.1,af j.2];exact SU (fun t' hk=>⟨_,aI t' o.dst .any,hk⟩) (gD h1) h
 |alloc t=>
  grind [opK,Qj]
 |box t x=>
  grind [opK,X8]
 |buildSlice t n ps=>
  rw[ho]at h j;cases A:o.dst with
  |none=>grind
  |some d=>
   rw[A]at h hd;have B:=ka (ps.toList.map fun x=>evA s x.2) s H F hX
   dsimp only at h;split at h
   ·grind [opK,zi,gD]
   ·split at h
    ·obtain⟨t',y,w',γ',F',J,hk,I⟩:=xK hX hd j h;unfold Oper.wp;have:(execOp a.eval o).run e.P w=.ok (.value y) w':=by simp_all[execOp]
     rw[this];exact⟨t',hk,_,γ',F',by rw[A];exact I⟩
    obtain⟨H1,F1,h1⟩:=B;obtain⟨s',y,w',H',γ',F',J,⟨t',et,hk⟩,I⟩:=xI (P:=e.P) h1 hd j (xJ j (gD h1) h);unfold Oper.wp;have:(execOp a.eval o).run e.P w=.ok (.value y) w':=by simp_all[execOp]
    rw[this];exact⟨t',hk,H',γ',F',bj et (by grind)⟩
 |call c=>
  rw[ho]at h j;obtain⟨K,args,p⟩:=c;obtain⟨args⟩:=args;obtain⟨p⟩:=p;dsimp only at h j;cases K with
  |builtin b=>
   cases b with
   |append=>
    match args,p,h with
    |[x,y],[t,u],h=>
     have h1:aG x=true/\aG y=true:=by grind
     cases A:o.dst with
     |none=>grind
     |some d=>
      rw[A]at h hd;dsimp only at h;split at h
      rotate_left
      ·obtain⟨s',Y,w',H',γ',F',J,⟨t',et,hk⟩,I⟩:=GO (P:=e.P) (tt:=o.type) hX hd h1.1 h1.2 (GP h1.1 h1.2 hn (fun q hq=>by
         have h3:=aJ hX h1.2
         rw[af h1.2,hq]at h3;obtain⟨_,h4,_⟩:=h3;exact pz h4) (fun size s1 sub l q aa hb hq=>by
         have hy:=aJ hX h1.2
         rw[af h1.2]at hy;obtain⟨_,_,F1,_,B,_⟩:=l9 hX hy hb;have h3:=aJ B h1.1
         rw[af h1.1,hq]at h3;obtain⟨_,h4,_⟩:=h3;exact pz h4) h)
       unfold Oper.wp;have:(execOp a.eval o).run e.P w=.ok (.value Y) w':=by
        simp_all[execOp,resolve,invoke,builtin]
       rw[this];exact⟨t',hk,H',γ',F',bj et (by grind)⟩
      have B:=gE hX (evA s y)
      refine T B ?_;unfold opK;rw[ho,A];obtain⟨H1,F1,h2⟩:=B;exact Lw h1.1 h1.2 (gD h2) (fun q hq=>by
       have h3:=aJ h2 h1.1
       rw[af h1.1,hq]at h3;obtain⟨_,h4,_⟩:=h3;exact pz h4) h
   |delete=>
    match args,p,h with
    |[x,i],t::ts,h=>
     have h1:aG x=true/\aG i=true:=by grind
     have h2:=aJ hX h1.1
     have h3:=aJ hX h1.2
     rw[af h1.1]at h2;rw[af h1.2]at h3;obtain⟨t',w',F',J,D,I⟩:=MP (tt:=o.type) hX h2 h3 h;unfold Oper.wp;have:(execOp a.eval o).run e.P w=.ok (.value (.tuple #[])) w':=by
      simp only[execOp,ho,resolve,invoke,builtin,Sem.run_bind,Sem.run_pure,Result.andThen_ok,List.map_toArray,af3,ag5];rw[J];rfl
     rw[this];exact⟨_,D,H,γ,F',bj (aI t' o.dst (.tup [])) (I.put hd ⟨#[],rfl,trivial⟩)⟩
   |_=>grind
  |value v=>
   cases v with
   |func f=>
    dsimp only at h;split at h
    ·rename_i C U hf;have O:=En.ok_get he U hf
     have hr:(execOp a.eval o).run e.P w=.ok (.enter f (args.map a.eval).toArray) w:=by
      grind [execOp,resolve,Act.eval,Deferred.ofValue,invoke,Cont.run]
     unfold Oper.wp;rw[hr];refine Calls.mono (O.call g e.pk s a w H γ F args _ hX j h) (fun e' w' hp=>?_);rcases hp with⟨r,s',av,H',γ',F',k1,k2,k3,k4⟩|⟨v,s',k1,k2,k4⟩
     ·subst k1;exact⟨_,k2,H',γ',F',bj (aI s' o.dst av) (k4.put hd k3)⟩
     ·subst k1;exact⟨_,M _ _ ⟨v,s',rfl,rfl,k2⟩,k4⟩
    grind
   |tmp t=>
    dsimp only at h;have L:Nat.blt t 100000=true->AR w H γ s.toS.m (gtA s.t t).toV (a.tmps.getD t undef):=fun S=>by
     have h3:=hX.t t
     rw[G.tv_lo (show t<TB from agD S),show aY s.toS.t t=(gtA s.t t).toV from dl t s.t]at h3;exact h3
    split at h
    ·rename_i f S hf;split at h
     ·rename_i C U X;have O:=En.ok_get he U X
      have hv:a.eval (.tmp t)=.func (.func f) #[] #[]:=YM (L S) hf
      have hr:(execOp a.eval o).run e.P w=.ok (.enter f (args.map a.eval).toArray) w:=by
       grind [execOp,resolve,Deferred.ofValue,invoke,Cont.run]
      unfold Oper.wp;rw[hr];refine Calls.mono (O.call g e.pk s a w H γ F args _ hX j h) (fun e' w' hp=>?_);rcases hp with⟨r,s',av,H',γ',F',k1,k2,k3,k4⟩|⟨v,s',k1,k2,k4⟩
      ·subst k1;exact⟨_,k2,H',γ',F',bj (aI s' o.dst av) (k4.put hd k3)⟩
      ·subst k1;exact⟨_,M _ _ ⟨v,s',rfl,rfl,k2⟩,k4⟩
     grind
    ·rename_i S hf;split at h
     ·rename_i key V;split at h
      ·rename_i C U;obtain⟨f,ps,rfl,hv⟩:=U8 (L S) V;have ab:a.eval (.tmp t)=.func (.func f) #[] ps:=hv
       have O:=(En.ok_get' he U).2 kQ1
       ·have hr:(execOp a.eval o).run e.P w=.ok (.enter f ((args.map a.eval).toArray++ps)) w:=by
         have h5:=O.run
         grind [execOp,resolve,Deferred.ofValue,invoke]
        unfold Oper.wp;rw[hr];have h6:=O.call g e.pk s a w H γ F t args _ ps hX j (agD S) (by grind) h
        rw[Nat.add_sub_cancel]at h6;refine Calls.mono h6 (fun e' w' hp=>?_);rcases hp with⟨r,s',av,H',γ',F',k1,k2,k3,k4⟩|⟨v,s',k1,k2,k4⟩
        ·subst k1;exact⟨_,k2,H',γ',F',bj (aI s' o.dst av) (k4.put hd k3)⟩
        ·subst k1;exact⟨_,M _ _ ⟨v,s',rfl,rfl,k2⟩,k4⟩
      grind
     grind
    grind
   |_=>grind
  |invoke r n=>grind
 |makeMap t r=>
  rw[ho]at h j;have key:∀d,o.dst=some d->jj e.P e.E (il e.sh (4000000+t)).isSome s t d k->(∀v,r.map a.eval=some v->∃κ n,v=.int κ n)->o.wp e.P a w (fun a' w'=>∃s':St,k s'/\R g s'.toS a' w') (lift g Q):=by
   intro d A h hr;rw[A]at hd;obtain⟨t',y,w',γ',F',J,D,I⟩:=JA hX hd h hr;unfold Oper.wp;have:(execOp a.eval o).run e.P w=.ok (.value y) w':=by simp_all[execOp]
   rw[this];exact⟨t',D,H,γ',F',by grind⟩
  dsimp only at h;split at h
  ·grind
  ·rename_i d x A;split at h
   ·rename_i κ n hx;refine key d A h (fun v hv=>?_);have h3:=aJ hX (show aG x=true from j)
    rw[af j,hx]at h3;exact⟨κ,n,by rw[<- Option.some.inj hv];exact(mZ h3).1⟩
   grind
  grind
 |lookup t x i ok=>
  rw[ho]at h j;have h1:aG x=true/\aG i=true:=by grind
  have h2:=aJ hX h1.1
  have h3:=aJ hX h1.2
  rw[af h1.1]at h2;rw[af h1.2]at h3;dsimp only at h;split at h
  ·rename_i d _ A;rw[A]at hd;obtain⟨t',y,γ',F',J,D,I⟩:=JG hX hd h1.1 h1.2 h;unfold Oper.wp;have:(execOp a.eval o).run e.P w=.ok (.value y) w:=by simp_all[execOp]
   rw[this];exact⟨_,D,H,γ',F',by grind⟩
  ·obtain⟨z,v,J,D,I⟩:=MR hX h2 h3 h;unfold Oper.wp;have:(execOp a.eval o).run e.P w=.ok (.value z) w:=by simp_all[execOp]
   rw[this];exact⟨_,I,H,γ,F,bj (aI s o.dst v) (hX.put hd D)⟩
 |mapUpdate t m i v=>
  rw[ho]at h j;have h1:(aG m=true/\aG i=true)/\aG v=true:=by grind
  dsimp only at h;split at h
  ·have h2:=aJ hX h1.1.1
   have h3:=aJ hX h1.1.2
   have h4:=aJ hX h1.2
   rw[af h1.1.1]at h2;rw[af h1.1.2]at h3;rw[af h1.2]at h4;obtain⟨t',w',F',J,D,I⟩:=MT hX h2 h3 h4 h;unfold Oper.wp;have:(execOp a.eval o).run e.P w=.ok .skip w':=by simp_all[execOp]
   rw[this];exact⟨_,D,H,γ,F',bj (aI t' o.dst .any) (I.put hd trivial)⟩
  obtain⟨H1,F1,B⟩:=gE hX (evA s v);generalize gL s (evA s v)=s1 at h B;have h2:=aJ B h1.1.1
  have h3:=aJ B h1.1.2
  have h4:=aJ B h1.2
  rw[af h1.1.1]at h2;rw[af h1.1.2]at h3;rw[af h1.2]at h4;obtain⟨t',w',F',J,D,I⟩:=MU B h2 h3 h4 h;unfold Oper.wp;have:(execOp a.eval o).run e.P w=.ok .skip w':=by simp_all[execOp]
  rw[this];exact⟨_,D,H1,γ,F',bj (aI t' o.dst .any) (I.put hd trivial)⟩
 |makeSlice t n c=>
  rw[ho]at h j;have h1:aG n=true/\aG c=true:=by grind
  cases A:o.dst with
  |none=>grind
  |some d=>
   rw[A]at h hd;obtain⟨t',y,w',γ',F',J,D,I⟩:=B2 hX hd h1.1 h;unfold Oper.wp;have:(execOp a.eval o).run e.P w=.ok (.value y) w':=by simp_all[execOp]
   rw[this];exact⟨t',D,H,γ',F',by grind⟩
 |makeFunc fn first caps=>
  rw[ho]at h j;dsimp only at h;split at h
  ·rename_i f Z;obtain⟨t',H',J,D⟩:=ES hX hd j h;unfold Oper.wp;have hf0:first=#[]:=by grind
   have:(execOp a.eval o).run e.P w=.ok (.value (.func (.func f) #[] (caps.toList.map a.eval).toArray)) w:=by
    simp only[execOp,ho,hf0,Instr.makeFunc,Sem.run_bind,Sem.run_pure,Result.andThen_ok,Array.map_empty];simp[<- Array.toList_map]
   rw[this];exact⟨t',J,H',γ,F,D⟩
  grind
 |range t x=>
  rw[ho]at h j;cases A:o.dst with
  |none=>grind
  |some d=>
   rw[A]at h hd;obtain⟨t',y,w',H',γ',F',J,D,I⟩:=Sv hX hd j h;unfold Oper.wp;have:(execOp a.eval o).run e.P w=.ok (.value y) w':=by simp_all[execOp]
   rw[this];exact⟨t',D,H',γ',F',by grind⟩
 |next x b=>
  rw[ho]at h j;cases b with
  |true=>grind
  |false=>
   have h1:=aJ hX (show aG x=true from j)
   rw[af j]at h1;obtain⟨t',z,w',F',J,D,I⟩:=Wo hX hd h1 o.type h;unfold Oper.wp;have:(execOp a.eval o).run e.P w=.ok (.value z) w':=by simp only[execOp,ho];rw[Sem.run_bind,J];rfl
   rw[this];exact⟨t',D,H,γ,F',I⟩
 |entry x=>
  rw[ho]at h j;have h1:=aJ hX (show aG x=true from j)
  rw[af j]at h1;obtain⟨t',z,J,D,I⟩:=Q6 hX hd h1 h;unfold Oper.wp;have:(execOp a.eval o).run e.P w=.ok (.value z) w:=by simp only[execOp,ho];rw[Sem.run_bind,J];rfl
  rw[this];exact⟨t',D,H,γ,F,I⟩
 |_=>grind
theorem FN{e:En}(he:e.ok)(i:∀x s,PQ e.pk x s->Q x s){k:St->Prop}(hc:opC g.nt o=true)(h:E8 e o s k):AOt e.P g o k Q s:=by
 unfold E8 at h;split at h
 ·rename_i hq;intro a w ⟨H,γ,F,hX⟩;obtain⟨H1,F1,b⟩:=y8 hX o;obtain⟨z,d,B,_,c,j,f⟩:=A2 b hc (WO b hc h);obtain⟨l,rfl,hk⟩:=f;unfold Oper.wp;rw[c w (fun _ _=>rfl)];exact⟨_,hk,H1,γ,F1,bj (aI _ _ _) (b.put (fG hc) j)⟩
 grind [aa8]
theorem XB{e:En}(he:e.ok)(I:∀x s,PQ e.pk x s->Q x s){k:St->Prop}(hc:opC g.nt o=true)(h:opT e o s k):AOt e.P g o k Q s:=by
 unfold opT at h;split at h
 ·rename_i A;intro a w ⟨H,γ,F,hX⟩;unfold Kz at h;have b:=hc
  unfold opC at b;rw[afZ]at b;obtain⟨hd,b⟩:=b;split at h
  ·rename_i t x hi d ho f;rw[ho]at b;rw[f]at hd;simp only[afZ,Option.all_none,Option.all_some,and_true]at b;obtain⟨t',y,γ',F',E,j,D⟩:=Kj hX hd b.1 b.2 h;unfold Oper.wp;have:(execOp a.eval o).run e.P w=.ok (.value y) w:=by simp_all[execOp]
   rw[this];exact⟨t',j,H,γ',F',by grind⟩
  ·rename_i x d ho f;rw[ho]at b;rw[f]at hd;obtain⟨t',H',F',j,D⟩:=MQ hX hd b h;unfold Oper.wp;have:(execOp a.eval o).run e.P w=.ok (.value (a.eval x)) w:=by simp_all[execOp]
   rw[this];exact⟨t',j,H',γ,F',by grind⟩
  ·rename_i c d ho f;rw[ho]at b;rw[f]at hd;split at h
   ·rename_i x hx;obtain⟨t,kt,et,K,M,G⟩:=Wv ho f A;have r:aG x=true:=by
     grind
    have h1:=aJ hX r
    rw[af r]at h1;obtain⟨t',z,E,j,D⟩:=MS (tt:=o.type) hX hd h1 G h;unfold Oper.wp;have:(execOp a.eval o).run e.P w=.ok (.value z) w:=by
     obtain⟨C,⟨args⟩,⟨p⟩⟩:=c
     simp_all[builtin,execOp,resolve,invoke]
    rw[this];exact⟨t',j,H,γ,F,by grind⟩
   grind
  ·rename_i t x i d ho f;rw[ho]at b;simp only[afZ]at b;obtain⟨H1,n⟩:=p5 [evA s x] s H hX;dsimp only at h;generalize ro s [evA s x]=s1 at h n;split at h
   ·rename_i row u;split at h
    ·rename_i l hl;have E:=DP hl
     have hk:=rz (m:=s1.m) (P:=e.P) (t:=t) (x:=.one (.c (.ga .s l 0))) (i:=evA s1 i) (fun q hq=>by grind) h
     have j:(At.one (.c (.ga .s l 0))).toV=ev s1.toS x:=by
      rw[af b.1,u,E];show AV.one (.c (.el _ 0))=AV.one (.c (.el _ 0))
      rw[ag6];rfl
     rw[j,<- af b.2]at hk;have hq:qK e.P o s1.toS (up fun v=>k (s1.put (some d) v)):=by unfold qK;rw[ho];exact hk
     obtain⟨z,N,B,_,D,L,O,rfl,J⟩:=A2 n hc hq;unfold Oper.wp;rw[D w (fun _ _=>rfl)];exact⟨_,J,H1,γ,F,by rw[f];exact bj (aI _ _ _) (n.put (by grind) L)⟩
    grind
   grind
  grind
 grind [FN]
theorem S5{s s':S}(e:SEq s s')(h:AO P g o K Q s'):AO P g o K Q s:=fun a w b=>h a w (CM e b)
theorem KW{ops rest:List Oper}{s s':S}(e:SEq s s')(h:AL P g ops rest Q s'):AL P g ops rest Q s:=fun a w b=>h a w (CM e b)
theorem NV(h:AOt P g o (fun t=>K t.toS) Q s):AO P g o K Q s.toS:=fun a w c=>
 cu (fun a' w'⟨s',hk,b⟩=>⟨s'.toS,hk,b⟩) (fun _ _ _ h=>h) (h a w c)
theorem uw(s:St)(d:Nat)(b:Bool):SEq (s.toS.put (some d) (.one (.c (.d (.bool b))))) (s.put (some d) (sct (.bo b))).toS:=aI s (some d) (sct (.bo b))
theorem AX(s:St)(d:Nat)(b:Bool)(o:Option Tmp):SEq ((s.toS.put (some d) (.one (.c (.d (.bool b))))).put o (.tup [])) ((s.put (some d) (sct (.bo b))).put o (.tup [])).toS:=by
 have h1:=uw s d b
 have h2:=aI (s.put (some d) (sct (.bo b))) o (.tup [])
 refine⟨fun i=>?_,?_⟩
 ·rw[<- h2.1 i];cases o with
  |none=>exact h1.1 i
  |some o=>show aY (sP _ o _) i=aY (sP _ o _) i;rw[iI,iI,h1.1 i];rfl
 ·rw[<- h2.2];cases o<;>exact h1.2
theorem mY{e:En}(he:e.ok)(f:∀x s,PQ e.pk x s->Q x s){k:St->Prop}:∀{rest:List Oper}{s:St},Zp g.nt all rest=true->nT e all rest s k->(∀t:St,k t->Q .normal t.toS)->AL e.P g all rest Q s.toS
 |[],s,_,h,n=>S4 (n s h)
 |o::r,s,hc,h,n=>by
  simp only[Zp,afZ]at hc;obtain⟨⟨l,b⟩,i⟩:=hc;simp only[nT]at h;have run:∀{s:St},opT e o s (fun s'=>nT e all r s' k)->AO e.P g o (AL e.P g all r Q) Q s.toS:=fun{s}h=>
   NV (fun a w y=>cu (fun a' w'⟨s',hk,v⟩=>⟨s',mY he f i hk n,v⟩) (fun _ _ _ h=>h) (XB he f l h a w y))
  cases u:o.guard with
  |none=>
   grind [NU]
  |some q=>
   obtain⟨j,want⟩:=q;rw[u]at h b;dsimp only at h b;cases hj:(all[j]?).bind (·.dst)with
   |none=>grind
   |some d=>
    rw[hj]at h b;dsimp only at h b;split at h
    ·rename_i c m;have p:aY s.toS.t d=.one (.c (.d (.bool c))):=js m
     cases want with
     |true=>
      dsimp only at h;refine FM u hj p b (fG l) (fun hc=>?_) (fun hc=>?_)
      ·grind [S5,uw]
      ·subst hc;rw[if_neg (by simp)]at h;exact KW (AX s d _ _) (mY he f i h n)
     |false=>
      dsimp only at h;refine FM u hj p b (fG l) (fun hc=>?_) (fun hc=>?_)
      ·grind [S5,uw]
      ·subst hc;rw[if_pos (by rfl)]at h;exact KW (AX s d _ _) (mY he f i h n)
    ·rename_i m;exact KX u hj (js m) (fG l) (KW (aI s o.dst (.tup [])) (mY he f i h n))
    grind
theorem AG{e:En}(he:e.ok){k k':St->Prop}:∀{rest:List Oper}{s:St},(∀s',Ext s s'->k s'->k' s')->nT e all rest s k->nT e all rest s k'
 |[],s,hk,h=>hk s (Ext.refl s) h
 |o::r,s,hk,h=>by
  have run:∀{s1:St},Ext s s1->opT e o s1 (fun s'=>nT e all r s' k)->opT e o s1 (fun s'=>nT e all r s' k'):=fun{s1}h1 h=>
   Zo he (fun s' h2 b=>AG he (fun a h3=>hk a ((h1.trans h2).trans h3)) b) h
  have rest:∀{s1:St},Ext s s1->nT e all r s1 k->nT e all r s1 k':=fun{s1}h1 h=>AG he (fun a h3=>hk a (h1.trans h3)) h
  simp only[nT]at h⊢;split at h
  ·grind [Ext.refl]
  ·rename_i j want g;split at h
   ·rename_i d hj;split at h
    ·rename_i c f;cases want<;>cases c<;>simp only[agA,if_true,if_false]at h⊢
     ·grind [aA]
     ·exact rest ((aA _ _ _).trans (aA _ _ _)) h
     ·exact rest ((aA _ _ _).trans (aA _ _ _)) h
     grind [aA]
    all_goals grind [aA]
   omega
end
variable{fuel:Nat}{listed:Array Bool}{no:St->Prop}{ops:Array Oper}
section
variable {e:En} {g:G} {k:St->Prop} {Q:Exit->S->Prop}
theorem Rr(h:VN x=true):I1 x.toV=true:=by
 unfold VN at h;split at h
 ·rfl
 ·rfl
 grind
theorem L5{s:St}(hc:opC g.nt o=true)(h:ny s o=true):gu s.toS o:=by
 grind [ny,gu,opC,af,Rr]
theorem aaR{ops:List Oper}{s:St}{f:St->Prop}(h:gT ops o s f no):gK ops o s.toS (upS f) (upS no):=by
 unfold gT at h;unfold gK;cases b:o.guard with
 |none=>rw[b]at h;exact⟨s,⟨fun _=>rfl,rfl⟩,h⟩
 |some q=>
  obtain⟨j,want⟩:=q;rw[b]at h;dsimp only at h⊢;cases hj:(ops[j]?).bind (·.dst)with
  |none=>grind
  |some d=>
   rw[hj]at h;dsimp only at h⊢;split at h
   ·rename_i c a;rw[js a]
    grind [At.toV,A1.toV,Tt.toT,C.toD,gsel,uw,AX]
   ·rename_i a;rw[js a];exact⟨_,aI s o.dst (.tup []),h⟩
   grind
theorem Vx{ops:List Oper}{s:St}{f f' a:St->Prop}(hf:∀s',Ext s s'->f s'->f' s')(hn:∀s',Ext s s'->no s'->a s')(h:gT ops o s f no):gT ops o s f' a:=by
 unfold gT at h⊢;cases b:o.guard with
 |none=>grind [Ext.refl]
 |some q=>
  obtain⟨j,want⟩:=q;rw[b]at h;dsimp only at h⊢;cases hj:(ops[j]?).bind (·.dst)with
  |none=>grind
  |some d=>
   rw[hj]at h;dsimp only at h⊢;split at h
   ·rename_i c _;cases want<;>cases c<;>simp only[agA,if_true,if_false]at h⊢
    ·grind [aA]
    ·exact hn _ ((aA _ _ _).trans (aA _ _ _)) h
    ·exact hn _ ((aA _ _ _).trans (aA _ _ _)) h
    grind [aA]
   all_goals grind [aA]
theorem FL{A:List Nat}{fz:Bool}(E:lj g.nt ops=true)(hs:Region.noSelect ops=true)(hi:ops[i]? = some o)
  (r:Bo ops listed i A fz=true) {s:St} {D:St->Prop} (t:∀s:St,D s->AD e.P g ops Q K fuel (listed.setIfInBounds i true) s.toS)
  (h:gT ops.toList o s (fun s=>(fz=true->ny s o=true)/\qT e o s fun v=>D (s.put o.dst v)) D):AD e.P g ops Q K (fuel+1) listed s.toS:=by
 intro a w H γ F Pr hX m;simp only[Bo,afZ]at r;obtain⟨⟨⟨⟨q,I⟩,t3⟩,t4⟩,t5⟩:=r;obtain⟨p,c2⟩:=jh E hi;have c:=Region.ready_mem_of_contains I
 have k:behind .any ops i (fun j=>A.contains j) listed:=by
  intro j hj f;have:=agH.1 t4 j (by grind)
  rw[fJ.2 f]at this;cases ho:ops[j]?<;>grind [fJ]
 have n:∀j,(listed.setIfInBounds i true).getD j true=false->listed.getD j true=false:=fun j h=>(iH h).1
 rcases tV hX (aaR h) (fG p) c2 with⟨hw,s0,⟨s',e0,hf,hq⟩,hX0⟩|⟨hw,s0,⟨s',e0,hno⟩,hX0⟩
 ·have hX':=bj e0 hX0
  obtain⟨z,d,B,e0,y,u,J,x,hk⟩:=A2 hX' p (WO hX' p hq);subst x;refine jQ (tu g Q) (A:=fun j=>A.contains j) (B:=B) (v:=z) hi (Region.noSelect_spec hs) fuel listed Pr (fun j b=>Pr j b\/(A.contains j=false/\B b)) a w (fun j b h=>.inl h) (fun j b h1 h2=>.inr ⟨h1,h2⟩)
   (Region.free_spec hi q) k c (.inl ⟨hw,fun w2 hs2=>y w2 hs2⟩) (t _ hk (a.put o.dst z) w H γ F _ (bj (aI _ _ _) (hX'.put (fG p) u)) ?_)
  intro j C hj f;obtain⟨l,G⟩:=iH f;rcases m j C hj l with hp|hp
  all_goals grind [L5,fJ]
 ·have hX':=bj e0 hX0
  refine jQ (tu g Q) (A:=fun _=>false) (B:=fun _=>False) (v:=undef) hi (Region.noSelect_spec hs) fuel listed Pr Pr a w (fun j b h=>h) (fun j b _ h2=>h2.elim)
   (Region.free_spec hi q) (fun j h=>by cases h) c (.inr ⟨hw,rfl⟩) (t _ hno (a.put o.dst undef) w H γ F _ hX' (m.mono n (fun _ _ _ h=>h)))
theorem S3(he:e.ok)(A:∀x s,PQ e.pk x s->Q x s)(N:lj g.nt ops=true)(C:listed.getD i true=false)(hi:ops[i]? = some o){s:St}
  {D:St->Prop} (M:∀s:St,D s->AD e.P g ops Q K fuel (listed.setIfInBounds i true) s.toS) (h:gT ops.toList o s (fun s=>E8 e.cl o s D) D) {a:Act} {w:World} {H:FH} {γ:Gam} {F:Nm->Fp} {Pr:Nat->Bs} (hX:RX g s.toS a w H γ F) (k:P1 ops listed H Pr) :
  lOp e.P ops (Zx g Q) Pr i (fun a' w'=>∃r:Nat->Bs,(∀j b,Pr j b->r j b)/\sS e.P .any ops (Zx g Q) (fun a w=>∃s',K s'/\R g s' a w) fuel (listed.setIfInBounds i true) r a' w') a w:=by
 have f:∀j,(listed.setIfInBounds i true).getD j true=false->listed.getD j true=false:=fun j h=>(iH h).1
 unfold lOp;rw[hi];obtain⟨q,c2⟩:=jh N hi;dsimp only;rcases tV hX (aaR h) (fG q) c2 with⟨hw,s0,⟨s',e0,hop⟩,hX0⟩|⟨hw,s0,⟨s',e0,hno⟩,hX0⟩
 ·have hX':=bj e0 hX0
  rw[if_pos hw];by_cases hq:isQ o=true
  ·unfold E8 at hop;rw[hq]at hop;dsimp only at hop;obtain⟨H1,F1,p,I⟩:=GD hX' (fun g' H F hx=>y8 hx o);obtain⟨z,d,B,_,T,S,O⟩:=A2 p q (WO p q hop);obtain⟨U,rfl,hk⟩:=O;unfold Oper.wp;rw[T w (fun _ _=>rfl)];exact⟨fun _ _=>rfl,Pr,fun _ _ h=>h,M _ hk (a.put o.dst z) w H1 γ F1 Pr (bj (aI _ _ _) (p.put (fG q) S)) (k.mono f I)⟩
  ·have hp:∀b,Pr i b->∃x y,H b x=some y:=by
    rcases k i o hi C with h|h
    all_goals grind
   let g':G:=⟨g.nt,w,H,tot F s'.toS.m,g.out,g.ex,g.dfs⟩
   have E:RX g' s'.toS a w H γ F:=⟨hX'.mem,Fr.refl' rfl rfl rfl rfl (fun _ h=>h),hX'.nt,⟨hX'.df.1,hX'.df.2.1,j9 hX'⟩,hX'.t⟩
   refine cu ?_ (fun x a' w' h=>?_) (FN (g:=g') (e:=e.cl) (Q:=PQ e.cl.pk) he (fun _ _ h=>h) q hop a w ⟨H,γ,F,E⟩)
   ·intro a' w' ⟨s2,hs2,J,n,L,c⟩;have l:=c.fr
    refine⟨fun b hb=>?_,Pr,fun _ _ h=>h,?_⟩
    ·obtain⟨x,y,u⟩:=hp b hb;have hc:=hX'.mem.agree b x y u
     refine l.block b ?_ ?_
     ·exact hc.lt
     ·show tot F s'.toS.m b=0
      rcases agY (tot F s'.toS.m b)with h|h
      ·exact h
      ·have:=hX'.mem.nofz b kQ1 x
       grind
    ·exact M _ hs2 a' w' J n L Pr ⟨c.mem,hX'.fr.trans l,c.nt,⟨c.df.1,c.df.2.1,hX'.df.2.2⟩,c.t⟩ (k.mono f l.hold)
   ·obtain⟨s2,⟨v,t,rfl,rfl,hv⟩,J,n,L,c⟩:=h;exact⟨t.clr.toS,rfl,A _ _ ⟨v,t.clr,rfl,rfl,hv⟩,J,n,L,T8 ⟨c.mem,hX'.fr.trans c.fr,c.nt,⟨c.df.1,c.df.2.1,hX'.df.2.2⟩,c.t⟩ rfl rfl⟩
 ·have hX':=bj e0 hX0
  rw[if_neg (by grind)];exact⟨Pr,fun _ _ h=>h,M _ hno (a.put o.dst undef) w H γ F Pr hX' (k.mono f (fun _ _ _ h=>h))⟩
theorem kA{s:St}{A:List Nat}{fz:Bool}:∀{a:List Nat},AM ops listed s a=some (i,A,fz) ->
  ∃o,ops[i]? = some o/\Bo ops listed i A fz=true/\(fz=true->ny s o=true)/\isQ o=true
 |[],h=>by cases h
 |j::r,h=>by
  simp only[AM]at h;split at h
  ·exact kA h
  ·rename_i o ho;split at h
   ·exact kA h
   ·rename_i hq;split at h
    ·rename_i hf;split at h
     ·grind
     ·exact kA h
    ·split at h
     ·grind
     ·exact kA h
theorem GL{f:Nat->Prop}:∀{l:List Nat},Um f l->∀i∈l,f i
 |[i],h,j,hj=>by simp only[agI]at hj;subst hj;exact h
 |i::i'::r,h,j,hj=>by
  simp only[agC]at hj;rcases hj with rfl|hj
  ·exact h.1
  ·exact GL h.2 j (by grind)
theorem Sl{s:St}{x:Operand}(h:o.op=.load t x):JW s o=s:=by grind [JW]
theorem sT(he:e.ok)(c:∀x s,PQ e.pk x s->Q x s)(d:lj g.nt ops=true)(hs:Region.noSelect ops=true)(m:∀t:St,k t->K t.toS) :
  ∀(fuel:Nat)(listed:Array Bool)(s:St),jC e ops fuel listed s k->AD e.P g ops Q K fuel listed s.toS
 |0,listed,s,h=>by
  grind [jC,S2]
 |fuel+1,listed,s,h=>by
  simp only[jC]at h;split at h
  ·grind [S2]
  ·rename_i z y hr;split at h
   ·rename_i i A fz hp;obtain⟨o,hi,r,hf,hq⟩:=kA hp;rw[hi]at h;dsimp only at h;obtain⟨v,c2⟩:=jh d hi;split at h
    ·rename_i u;intro a w H γ F Pr hX f;obtain⟨H1,F1,n,p⟩:=GD hX (fun g' H F hx=>y8 hx o);refine FL (D:=fun s'=>jC e ops fuel (listed.setIfInBounds i true) s' k) d hs hi r (fun s' b=>sT he c d hs m fuel _ _ b) ?_ a w H1 γ F1 Pr n (f.mono (fun _ h=>h) p)
     grind [gT,Sl,ny]
    ·rename_i q u;refine FL (D:=fun s'=>jC e ops fuel (listed.setIfInBounds i true) s' k) d hs hi r (fun s' b=>sT he c d hs m fuel _ _ b) ?_
     grind
   ·intro a w H γ F Pr hX f;refine⟨fun h0=>absurd (hr ▸ h0) (by simp),fun i hi=>?_⟩;have l:listed.getD i true=false:=(mem_ready.1 hi).1
    have j:=GL h i (hr ▸ hi)
    cases ho:ops[i]? with
    |none=>grind
    |some o=>
     rw[ho]at j;exact S3 he c d l ho (fun s b=>sT he c d hs m fuel _ s b) j hX f
theorem Te{id:Nat}{l:List Oper}(he:e.ok)(c:∀x s,PQ e.pk x s->Q x s)(i:e.P.follows .mixedOrders=true)(m:lj g.nt l.toArray=true)(hs:Region.noSelect l.toArray=true){s:St}
  (f:∀t:St,k t->Q .normal t.toS) (h:jC e l.toArray l.toArray.size (Array.replicate l.toArray.size false) s k):AW e.P g (.region id l.toArray true) Q s.toS:=by
 intro a w d;refine wp_region_any i (om (Z:=Zx g Q) (Q:=fun a w=>∃s',Q .normal s'/\R g s' a w) (fun a w h=>h) (fun e a w h=>XV h) _ _ (fun _ _=>False) _ _ ?_);obtain⟨H,γ,F,hX⟩:=d;exact sT (Q:=Q) he c m hs f _ _ s h a _ H γ F _ (T4 hX _ rfl rfl rfl rfl) (fun j o _ _=>.inr fun b hb=>hb.elim)
theorem GK{f f':Nat->Prop}(h:∀i,f i->f' i):∀{l:List Nat},Um f l->Um f' l
 |[],_=>trivial
 |[i],a=>h i a
 |i::i'::r,a=>⟨h i a.1,GK h (l:=i'::r) a.2⟩
theorem jS(he:e.ok){k':St->Prop}:∀{fuel:Nat}{listed:Array Bool}{s:St},(∀s',Ext s s'->k s'->k' s')->jC e ops fuel listed s k->jC e ops fuel listed s k'
 |0,listed,s,hk,h=>by
  grind [jC,Ext.refl]
 |fuel+1,listed,s,hk,h=>by
  simp only[jC]at h⊢;split at h
  ·grind [Ext.refl]
  ·split at h
   ·split at h
    ·split at h
     ·exact Fb (fun v hv=>jS he (fun s' a=>hk s' (((FW _ _).trans (aA _ _ _)).trans a)) hv) h
     ·refine Vx (fun s1 h1 hs1=>?_) (fun s1 h1 hs1=>jS he (fun s' a=>hk s' (h1.trans a)) hs1) h;split at hs1
      ·exact Fb (fun v hv=>jS he (fun s' a=>hk s' ((h1.trans (aA _ _ _)).trans a)) hv) hs1
      omega
    omega
   ·refine GK (fun i hi=>?_) h;split at hi
    ·exact Vx (fun s1 h1 hs1=>JO (e:=e.cl) he (fun s2 h2 hs2=>jS he (fun s' a=>hk s' ((h1.trans h2).trans a)) hs2) hs1) (fun s1 h1 hs1=>jS he (fun s' a=>hk s' (h1.trans a)) hs1) hi
    omega
end
def q9(N:List Nm):T->Prop
 |.pl p=>p.root∈N
 |.rf p=>p.root∈N
 |_=>True
def yv(N:List Nm):AV1->Prop
 |.c t=>q9 N t
 |.agg ts=>∀t∈ts,q9 N t
def KZ(N:List Nm):AV->Prop
 |.one x=>yv N x
 |.tup xs=>∀x∈xs,yv N x
 |.any=>True
def lF(r:Root):Root:=⟨r.blk,r.cells.map T.canon⟩
def m0(r a:Root):Prop:=a.blk=r.blk/\a.cells.length=r.cells.length/\∀(i:Nat)t t',r.cells[i]? = some t->a.cells[i]? = some t'->t'=t\/t'=t.canon
theorem m0.refl(r:Root):m0 r r:=⟨rfl,rfl,fun i t t' h1 h2=>.inl (by grind)⟩
theorem m0.canon(r:Root):m0 r (lF r):=⟨rfl,by simp[lF],fun i t t' h1 h2=>.inr (by grind [lF])⟩
theorem m0.of{r r':Root}(h:r'=r\/r'=lF r):m0 r r':=by
 grind [m0.refl,m0.canon]
theorem sf:∀{m:Mm}{n:Nm}{r:Root},(m.map (·.1)).Nodup->(n,r)∈m->ae m n=some r
 |[],_,_,_,h=>by cases h
 |(k,x)::m,n,r,hn,h=>by
  simp only[af3,ahP]at hn;simp only[ae];rcases agC.1 h with h|h
  ·grind
  ·rw[if_neg (fun e=>hn.1 (by grind)),sf hn.2 h]
theorem KI{F:Nm->Fp}{b:Nat}:∀{m' m:Mm},(m'.map (·.1)).Nodup->(m.map (·.1)).Nodup->(∀x∈m',∃r,ae m x.1=some r)->tot F m' b<=tot F m b
 |[],_,_,_,_=>agW _
 |x::m',m,h1,h2,h=>by
  simp only[af3,ahP]at h1;obtain⟨r,hr⟩:=h x (by simp);have e:=pP (F:=F) hr b
  have ih:=KI (F:=F) (b:=b) (m':=m') (m:=cm m x.1) h1.2 (AA h2) (fun y hy=>by
   grind [mn])
  grind [tot]
section
variable {g:G} {a:Act} {w:World} {H:FH} {γ:Gam} {F:Nm->Fp}
theorem K8{R a:T->Fp->Value->Prop}:∀{ts:List T}{ts':List T}{f:Fp}{vs:List Value},ts'.length=ts.length->(∀(i:Nat)t t' f v,ts[i]? = some t->ts'[i]? = some t'->R t f v->a t' f v)->Ts R ts f vs->Ts a ts' f vs
 |[],[],_,_,_,_,h=>h
 |t::ts,t'::ts',f,vs,hl,hi,h=>by
  obtain⟨v,r,f1,d,b,c,h1,h2⟩:=h;exact⟨v,r,f1,d,b,c,hi 0 t t' _ _ rfl rfl h1,K8 (by grind) (fun i=>hi (i+1)) h2⟩
theorem Ua{s s':S}(hX:RX g s a w H γ F)(G:(s'.m.map (·.1)).Nodup)
  (M:∀x∈s'.m,∃r,ae s.m x.1=some r/\m0 r x.2/\∀t∈r.cells,q9 (s'.m.map (·.1)) t)
  (L:∀i,aY s'.t i=.any\/((aY s'.t i=aY s.t i\/aY s'.t i=(aY s.t i).map T.canon)/\KZ (s'.m.map (·.1)) (aY s.t i))):RX g s' a w H γ F:=by
 have hget:∀n,n∈s'.m.map (·.1)->∃r k,ae s.m n=some r/\ae s'.m n=some k/\m0 r k:=by
  grind [sf]
 have cell:∀{r k:Root},m0 r k->k.cells.length=r.cells.length/\∀(i:Nat)sub l,r.cells[i]? = some (.ow sub l)->k.cells[i]? = some (.ow sub l):=by
  rintro r k ⟨_,h2,h3⟩
  refine⟨h2,fun i sub l h=>?_⟩;have j:i<k.cells.length:=by grind
  rw[af1 j];rcases h3 i _ _ h (af1 j)with e|e
  ·rw[e]
  ·rw[e];rfl
 have pl:∀p,p.root∈s'.m.map (·.1)->bZ s.m p->bZ s'.m p:=by
  intro p hp h;obtain⟨r,k,u,B,q⟩:=hget _ hp;obtain⟨K,c2⟩:=cell q;unfold bZ at h⊢
  grind (splits:=20)
 have rf:∀p,p.root∈s'.m.map (·.1)->ip s.m p->ip s'.m p:=by
  intro p hp h;obtain⟨r,k,u,B,q⟩:=hget _ hp;obtain⟨K,c2⟩:=cell q;unfold ip at h⊢;rw[u]at h;rw[B];dsimp only at h⊢;split at h
  ·grind
  ·rename_i l hc A;have j:p.off<k.cells.length:=by grind
   have J:k.cells[p.off]? = some (.mp l):=by
    rw[af1 j];rcases q.2.2 p.off _ _ hc (af1 j)with e|e
    ·rw[e]
    ·rw[e];rfl
   grind
  ·rename_i cur l hc A;have j:p.off<k.cells.length:=by grind
   have J:∃E,k.cells[p.off]? = some (.it E l):=by
    rw[af1 j];rcases q.2.2 p.off _ _ hc (af1 j)with e|e
    ·grind
    ·exact⟨none,by rw[e];rfl⟩
   grind
  all_goals grind
 have tr:∀{t:T}{f:Fp}{v:Value},q9 (s'.m.map (·.1)) t->TR w H γ s.m t f v->TR w H γ s'.m t f v:=by
  intro t f v d h;cases t with
  |pl p=>exact⟨h.1,pl p d h.2.1,h.2.2⟩
  |rf p=>exact⟨h.1,rf p d h.2.1,h.2.2⟩
  |_=>exact h
 have N:∀{t:T}{f:Fp}{v:Value},q9 (s'.m.map (·.1)) t->TR w H γ s.m t f v->TR w H γ s'.m t.canon f v:=by
  intro t f v d h;have h':=tr d h
  cases t with
  |nil=>exact⟨h'.1,(fa (w:=w) (H:=H) (γ:=γ) (m:=s'.m) .nil v ⟨fun _=>rfl,h'.2⟩).2⟩
  |it cur rest=>exact aaG h'
  |_=>exact h'
 have C:∀b,tot F s'.m b<=tot F s.m b:=fun b=>KI G hX.mem.keys (fun x hx=>by grind)
 refine⟨⟨hX.mem.agree,fun x hx=>?_,G,fun b=>ahK (C b) (hX.mem.le1 b),fun b hb=>hX.mem.lt b (by grind),fun b hb=>hX.mem.nofz b (by grind)⟩,
  ⟨hX.fr.size,hX.fr.os,hX.fr.tape,hX.fr.output,hX.fr.block,hX.fr.hold,hX.fr.hnew,fun b hb=>hX.fr.tt b (by grind),hX.fr.nz⟩,hX.nt,hX.df,fun i=>?_⟩
 ·obtain⟨r,h1,h2,h3⟩:=M x hx;have I:=hX.mem.roots _ (aj h1)
  have o:=(cell h2).1
  have key:∀(i:Nat)t t' f v,r.cells[i]? = some t->x.2.cells[i]? = some t'->TR w H γ s.m t f v->TR w H γ s'.m t' f v:=by
   intro i t t' f v u B h;have d:=h3 t (ahA u)
   rcases h2.2.2 i t t' u B with e|e
   all_goals grind
  have D:x.2.blk=r.blk:=h2.1
  unfold bU at I⊢;rw[D];split at I
  ·rename_i hb;rw[if_pos hb];obtain⟨b,cs,ty,fz,g',k1,k2,k3,k4,k5,k6⟩:=I;exact⟨b,cs,ty,fz,g',k1,k2,k3,by grind,K8 o key k5,k6⟩
  ·rename_i hb;rw[if_neg hb];obtain⟨v,t,k1,k2,k3⟩:=I;dsimp only at k2;rw[k2]at o key
   match hc:x.2.cells,o with
   |[t'],_=>exact⟨v,t',k1,rfl,key 0 t t' _ _ rfl (by grind) k3⟩
 ·rcases L i with h|⟨h,d⟩
  ·rw[h];trivial
  ·have hv:=hX.t i
   have one:∀{x:AV1}{y:Value},yv (s'.m.map (·.1)) x->AR1 w H γ s.m x y->AR1 w H γ s'.m x y:=by
    intro x y d h;cases x with
    |c t=>exact tr d h
    |agg ts=>
     obtain⟨cs,u,B,q⟩:=h;refine⟨cs,u,B,K8 rfl (fun i t t' f v h1 h2 h=>?_) q⟩;rw[h1]at h2;obtain rfl:=Option.some.inj h2;exact tr (d t (ahA h1)) h
   have all:AR w H γ s'.m (aY s.t i) (g.tv a i):=by
    revert hv d
    cases aY s.t i with
    |one x=>exact fun d hv=>one d hv
    |tup xs=>
     rintro d ⟨l,e,hl⟩
     refine⟨l,e,?_⟩;have:∀(xs:List AV1)(ys:List Value),(∀x∈xs,yv (s'.m.map (·.1)) x)->ARs w H γ s.m xs ys->ARs w H γ s'.m xs ys:=by
      intro xs;induction xs with
      |nil=>intro ys _ h;cases ys<;>exact h
      |cons x xs ih=>
       intro ys d h;cases ys with
       |nil=>exact h.elim
       |cons y ys=>exact⟨one (d x (by simp)) h.1,ih ys (fun z hz=>d z (agM _ hz)) h.2⟩
     exact this xs _ d hl
    |any=>exact fun _ _=>trivial
   grind [iv,fa]
end
variable{rs:List Nm}{s0:St}{σ:Sg}{J:FSp σ.sp->Prop}
section
variable {g:G} {a:Act} {w:World}
theorem XR{s:S}{H:FH}{γ:Gam}{F:Nm->Fp}(h:RX g s a w H γ F):R g s a w:=⟨H,γ,F,h⟩
theorem zR(n:Nm):∀m:List (Nm×Nat×Rt),cq (fM m n) n=none
 |[]=>rfl
 |(k,j,v)::m=>by
  simp only[fM];by_cases h:k=n
  ·rw[if_pos h];exact zR n m
  ·rw[if_neg h];simp only[cq];rw[if_neg h];exact zR n m
theorem L8(s:St)(n:Nm):cq (s.fresh n).m n=none:=by
 unfold St.fresh;split
 ·omega
 ·show cq (cN _ _ (fM s.m n)) n=none
  rw[C8,zR];rfl
theorem PV(s:St)(k:Nat)(sh:List Sh)(u:U):Ext s (JP s k sh u):=by
 unfold JP;split
 ·refine(bT s (jM k)).trans ⟨agU _,u6 _ _ _ (af2 _),lW _ _ _ (af2 _)⟩
 ·split
  ·refine((s5 s _).trans (bT _ (jM k))).trans ⟨agU _,u6 _ _ _ (af2 _),lW _ _ _ (af2 _)⟩
  ·exact Ext.refl s
 ·exact Ext.refl s
theorem XS{s:St}(h:R g s.toS a w)(k:Nat)(sh:List Sh)(u:U):R g (JP s k sh u).toS a w:=by
 obtain⟨H,γ,F,hX⟩:=h;have hn:=gD hX
 unfold JP;split
 ·rename_i hv;obtain⟨γ',F',h'⟩:=OE hX k (jM k) sh;refine CM ?_ (XR h');unfold Si;rw[js hv];simp only[At.toV,A1.toV,Tt.toT];have e:ae (s.toS.fresh (jM k)).m (jM k)=none:=by
   rw[<- bw hn,show(s.fresh (jM k)).toS.m=toM (s.fresh (jM k)).m from rfl,tU,L8];rfl
  rw[e];show SEq ⟨sP (s.toS.fresh (jM k)).t k _,_⟩ _
  rw[<- bw hn];refine⟨fun i=>?_,rfl⟩;show aY (sP _ k _) i=aY ((k,_)::_) i
  rw[iI];rfl
 ·rename_i n hv;split
  ·rename_i b u' l' c hr;obtain⟨γ',F',h'⟩:=OE hX k (jM k) sh;refine CM ?_ (XR h');unfold Si;rw[js hv];simp only[At.toV,A1.toV,Tt.toT];rw[show ae s.toS.m n=some (⟨false,[.ow b u' l'],none⟩:Rt).toR from br hr];show SEq ⟨sP ((s.toS.drop n).fresh (jM k)).t k _,_⟩ _
   rw[<- bV hn,<- bw (Oz hn)];refine⟨fun i=>?_,rfl⟩;show aY (sP _ k _) i=aY ((k,_)::_) i
   rw[iI];rfl
  ·exact⟨H,γ,F,hX⟩
 ·exact⟨H,γ,F,hX⟩
theorem dE(n:Nm)(us:List U):∀(sh:List Sh)(off:Nat)(s:St),Ext s (bM s n us sh off)
 |[],_,s=>Ext.refl s
 |.ow sub::r,off,s=>by
  simp only[bM];split
  ·split
   ·rename_i cells hr _ _ u hc a;have h1:Ext s ⟨s.nx+1,s.t,eA s.m n s.nx ⟨true,cells.set off (.ow sub u []),none⟩⟩:=⟨agU _,fun _ _ _ h _=>h,dw _ _ (af2 _) _⟩
    exact h1.trans (dE n us r (off+1) _)
   ·exact dE n us r (off+1) s
  ·exact Ext.refl s
 |.fr::r,off,s=>by
  simp only[bM];split
  ·split
   ·exact(u7 s _).trans (dE n us r (off+1) _)
   ·exact dE n us r (off+1) s
  ·exact Ext.refl s
theorem OI{s:St}(h:R g s.toS a w)(q:Pl):R g (tT s q).toS a w:=by
 obtain⟨H,γ,F,hX⟩:=h;obtain⟨H',F',h'⟩:=ve hX q;exact⟨H',γ,F',h'⟩
theorem OH{s:St}(h:R g s.toS a w)(v:At):R g (gL s v).toS a w:=by
 obtain⟨H,γ,F,hX⟩:=h;obtain⟨H',F',h'⟩:=gE hX v;exact⟨H',γ,F',h'⟩
theorem dU(n:Nm)(us:List U):∀(sh:List Sh)(off:Nat){s:St},R g s.toS a w->R g (bM s n us sh off).toS a w
 |[],_,_,h=>h
 |.ow sub::r,off,s,h=>by
  simp only[bM];split
  ·rename_i cells hr;split
   ·rename_i u hc c;refine dU n us r (off+1) ?_;obtain⟨H,γ,F,hX⟩:=h;have h':=XQ hX n off sub
    have e:s.toS.ownR n off sub=(⟨s.nx+1,s.t,eA s.m n s.nx ⟨true,cells.set off (.ow sub u []),none⟩⟩:St).toS:=by
     unfold S.ownR;rw[show ae s.toS.m n=some (⟨true,cells,none⟩:Rt).toR from br hr];have b:(⟨true,cells,none⟩:Rt).toR.cells[off]? = some .nil:=by
      show(cells.map Tt.toT)[off]? = _
      rw[af5,hc];rfl
     show(match(⟨true,cells,none⟩:Rt).toR.cells[off]? with|some .nil=>_|_=>_)=_
     rw[b];refine bV.S_ext rfl ?_;show _=toM (eA s.m n s.nx _)
     rw[fj]
     congr 1
     grind [Rt.toR,holed,agR,Tt.toT]
    grind [XR]
   ·exact dU n us r (off+1) h
  omega
 |.fr::r,off,s,h=>by
  simp only[bM];split
  ·split
   ·exact dU n us r (off+1) (OI h _)
   ·exact dU n us r (off+1) h
  omega
theorem gR:∀(sp:List Sp)(s:St),Ext s (prep sp s)
 |[],s=>Ext.refl s
 |.sl k u::r,s=>(iy s _).trans (gR r _)
 |.ow k sh u::r,s=>(PV s k sh u).trans (gR r _)
 |.rt n sh u::r,s=>(dE n _ (unmark sh) 0 s).trans (gR r _)
 |.mp _ _ _::r,s=>gR r s
 |.mo _ _ _::r,s=>gR r s
 |.it _ _ _::r,s=>gR r s
 |.gw _ _ _::r,s=>gR r s
theorem m8:∀(sp:List Sp){s:St},R g s.toS a w->R g (prep sp s).toS a w
 |[],_,h=>h
 |.sl k u::r,_,h=>m8 r (OH h _)
 |.ow k sh u::r,_,h=>m8 r (XS h k sh u)
 |.rt n sh u::r,_,h=>m8 r (dU n _ (unmark sh) 0 h)
 |.mp _ _ _::r,_,h=>m8 r h
 |.mo _ _ _::r,_,h=>m8 r h
 |.it _ _ _::r,_,h=>m8 r h
 |.gw _ _ _::r,_,h=>m8 r h
mutual
theorem ZP:∀{a b:Sh},ae6 a b=true->a=b
 |.fr,.fr,_=>rfl
 |.ow a,.ow b,h=>by rw[mT (show pM a b=true from h)]
theorem mT:∀{a b:List Sh},pM a b=true->a=b
 |[],[],_=>rfl
 |a::r,b::q,h=>by
  simp only[pM,afZ]at h;rw[ZP h.1,mT h.2]
end
def CL:List Tt->List C->Prop
 |[],[]=>True
 |t::ts,c::cs=>((t=.d c\/t=.d .nm/\∃k v,c=.mp k v none)\/(t=.nil/\∃u',c=.li u' []))/\CL ts cs
 |_,_=>False
theorem OS{t:Tt}{x:El u}(h:BB u t=some x):(t=.d (am u x)\/t=.d .nm/\∃k v,am u x=.mp k v none)\/(t=.nil/\∃u',am u x=.li u' []):=by
 unfold BB at h;split at h
 ·split at h
  ·simp only[af0]at h;subst h;exact .inl (.inr ⟨rfl,_,_,rfl⟩)
  grind
 ·grind [dS]
 ·split at h
  ·simp only[af0]at h;subst h;exact .inr ⟨rfl,_,rfl⟩
  grind
 grind
theorem Ij:∀{us:List U}{ts:List Tt}{x:Fl us},la us ts=some x->CL ts (fb us x)
 |[],[],_,_=>trivial
 |u::r,c::cs,x,h=>by
  simp only[la]at h;cases h1:BB u c with
  |none=>grind
  |some y=>
   cases h2:la r cs with
   |none=>grind
   |some z=>
    rw[h1,h2]at h;simp only[af0]at h;subst h;rw[fb,tW,uO];exact⟨OS h1,Ij h2⟩
 |[],_::_,_,h=>by simp[la]at h
 |_::_,[],_,h=>by simp[la]at h
theorem nl{x:El u}(h:nk u ts=some x):CL ts (flat u x):=by
 cases u with
 |st n=>
  simp only[nk]at h;cases h1:la (sd n).fs ts with
  |none=>grind
  |some y=>
   rw[h1]at h;have:=Option.some.inj h
   subst this;show CL ts (fb (sd n).fs ((sd n).un ((sd n).mkF y)))
   rw[(sd n).l2];exact Ij h1
 |_=>
  cases ts with
  |nil=>cases h
  |cons t r=>cases r with
   |nil=>rw[jU rfl];exact⟨OS h,trivial⟩
   |cons _ _=>cases h
theorem yA:∀{ts:List Tt}{cs:List C},CL ts cs->(cs.map Tt.d).map Tt.toT=(ts.map Tt.toT).map T.canon/\∀N,∀t∈ts.map Tt.toT,q9 N t
 |[],[],_=>⟨rfl,fun _ _ h=>by simp at h⟩
 |t::ts,c::cs,h=>by
  obtain⟨h1,h2⟩:=h;obtain⟨k1,k2⟩:=yA h2;simp only[af3,k1];rcases h1 with(rfl|⟨rfl,k,v,rfl⟩)|⟨rfl,u',rfl⟩
  ·exact⟨rfl,fun N t a=>by
    rcases agC.1 a with rfl|a
    ·trivial
    grind⟩
  ·exact⟨rfl,fun N t a=>by
    rcases agC.1 a with rfl|a
    ·trivial
    grind⟩
  ·exact⟨rfl,fun N t a=>by
    rcases agC.1 a with rfl|a
    ·trivial
    grind⟩
 |[],_::_,h=>h.elim
 |_::_,[],h=>h.elim
theorem zy{x:El u}(h:oX u v=some x):(Bp u x).toV=v.toV.map T.canon/\∀N,KZ N v.toV:=by
 unfold oX at h;split at h
 ·rename_i y;unfold U1 at h;split at h
  ·rename_i t;split at h
   ·rename_i hl;have hc:=nl h
    rw[jU hl]at hc;obtain⟨k1,k2⟩:=yA hc;have e:(Bp u x)=sct (am u x):=by cases u<;>first|rfl|cases hl
    rw[e];refine⟨?_,fun N=>k2 N t.toT (by simp)⟩
    grind [At.toV,A1.toV,AV.map,AV1.map]
   grind
  ·rename_i ts;split at h
   ·cases h
   ·rename_i hl;obtain⟨k1,k2⟩:=yA (nl h);have e:(Bp u x)=.one (.agg ((flat u x).map Tt.d)):=by cases u<;>first|rfl|cases hl
    rw[e];exact⟨by grind [At.toV,A1.toV,AV.map,AV1.map],fun N=>k2 N⟩
 grind
theorem ym:∀{sh:List Sh}{cells ts:List Tt}{cs:List C},iq sh cells=some ts->CL ts cs->(bH sh cs).map Tt.toT=(cells.map Tt.toT).map T.canon/\∀N,∀t∈cells.map Tt.toT,q9 N t
 |[],[],ts,cs,h,hc=>by
  simp only[iq,af0]at h;subst h;cases cs with
  |nil=>exact⟨rfl,fun _ _ h=>by simp at h⟩
  |cons _ _=>exact hc.elim
 |.ow s::r,c::cells,ts,cs,h,hc=>by
  cases c with
  |ow s' u l=>
   simp only[iq]at h;split at h
   ·rename_i ts' hs hr;simp only[af0]at h;subst h;cases cs with
    |nil=>exact hc.elim
    |cons c cs=>
     obtain⟨h1,h2⟩:=hc;obtain⟨k1,k2⟩:=ym hr h2;rcases h1 with(h1|⟨h1,_⟩)|⟨h1,_⟩
     ·simp only[Tt.d.injEq]at h1;subst h1;rw[mT hs];simp only[bH,af3,k1];exact⟨rfl,fun N t a=>by
       rcases agC.1 a with rfl|a
       ·trivial
       grind⟩
     all_goals grind
   grind
  |_=>simp[iq]at h
 |.fr::r,c::cells,ts,cs,h,hc=>by
  have f:∀{t:Tt}{ts':List Tt},c=t->iq r cells=some ts'->ts=t::ts'->(∃x,t=.d x)\/t=.nil->(bH (.fr::r) cs).map Tt.toT=((c::cells).map Tt.toT).map T.canon/\∀N,∀t∈(c::cells).map Tt.toT,q9 N t:=by
   rintro t ts' rfl hr rfl hk
   cases cs with
   |nil=>exact hc.elim
   |cons b cs=>
    obtain⟨h1,h2⟩:=hc;obtain⟨k1,k2⟩:=ym hr h2;have e:bH (.fr::r) (b::cs)=.d b::bH r cs:=by rfl
    rw[e];simp only[af3,k1];rcases h1 with(rfl|⟨rfl,k,v,rfl⟩)|⟨rfl,u',rfl⟩
    ·exact⟨rfl,fun N t a=>by
      rcases agC.1 a with rfl|a
      ·trivial
      grind⟩
    ·exact⟨rfl,fun N t a=>by
      rcases agC.1 a with rfl|a
      ·trivial
      grind⟩
    ·exact⟨rfl,fun N t a=>by
      rcases agC.1 a with rfl|a
      ·trivial
      grind⟩
  cases c<;>grind [iq]
 |[],_::_,_,_,h,_=>by simp[iq]at h
 |.ow _::_,[],_,_,h,_=>by simp[iq]at h
 |.fr::_,[],_,_,h,_=>by simp[iq]at h
theorem Xn:∀{sh:List Sh}{cells ts:List Tt}{cs:List C},iu sh cells=some ts->CL ts cs ->
  (((dA sh cs).map Tt.toT).length=(cells.map Tt.toT).length/\∀(i:Nat)t t',(cells.map Tt.toT)[i]? = some t->((dA sh cs).map Tt.toT)[i]? = some t'->t'=t\/t'=t.canon)/\∀N,∀t∈cells.map Tt.toT,q9 N t:=by
 intro sh;induction sh with
 |nil=>
  intro cells ts cs h hc;cases cells with
  |nil=>
   simp only[iu,af0]at h;subst h;cases cs with
   |nil=>exact⟨⟨rfl,fun i t t' h=>by simp at h⟩,fun _ _ h=>by simp at h⟩
   |cons _ _=>exact hc.elim
  |cons _ _=>simp[iu]at h
 |cons s r ih=>
  intro cells ts cs h hc;cases cells with
  |nil=>grind [iu]
  |cons c cells=>
   have j:∀{t0:Tt}{g:C}{f:List C}{ts':List Tt},iu r cells=some ts'->CL ts' f->dA (s::r) (g::f)=t0::dA r f->(t0.toT=c.toT\/t0.toT=c.toT.canon)->(∀N,q9 N c.toT) ->
     (((dA (s::r) (g::f)).map Tt.toT).length=((c::cells).map Tt.toT).length/\∀(i:Nat)t t',((c::cells).map Tt.toT)[i]? = some t->((dA (s::r) (g::f)).map Tt.toT)[i]? = some t'->t'=t\/t'=t.canon)/\∀N,∀t∈(c::cells).map Tt.toT,q9 N t:=by
    grind
   cases s with
   |fr=>
    have m:∀{t:Tt}{ts':List Tt},c=t->iu r cells=some ts'->ts=t::ts'->(∃x,t=.d x)\/t=.nil->(((dA (.fr::r) cs).map Tt.toT).length=((c::cells).map Tt.toT).length/\∀(i:Nat)t t',((c::cells).map Tt.toT)[i]? = some t->((dA (.fr::r) cs).map Tt.toT)[i]? = some t'->t'=t\/t'=t.canon)/\∀N,∀t∈(c::cells).map Tt.toT,q9 N t:=by
     rintro t ts' rfl hr rfl hk
     cases cs with
     |nil=>exact hc.elim
     |cons g cs=>
      have e:dA (.fr::r) (g::cs)=.d g::dA r cs:=by rfl
      obtain⟨h1,h2⟩:=hc;refine j hr h2 e ?_ ?_
      ·rcases h1 with(h1|⟨h1,k,v,h1'⟩)|⟨h1,u',h1'⟩
       ·grind
       ·rw[h1,h1'];exact .inl rfl
       ·rw[h1,h1'];exact .inr rfl
      ·intro N;rcases hk with⟨x,hx⟩|hx
       ·rw[hx];trivial
       ·rw[hx];trivial
    cases c with
    |d x=>
     grind [iu]
    |nil=>
     grind [iu]
    |_=>simp[iu]at h
   |ow a=>
    cases a with
    |nil=>
     cases c with
     |nil=>
      simp only[iu]at h;split at h
      ·rename_i ts' hr;simp only[af0]at h;subst h;cases cs with
       |nil=>exact hc.elim
       |cons g cs=>exact j hr hc.2 rfl (.inl rfl) (fun N=>trivial)
      grind
     |_=>simp[iu]at h
    |cons a b=>
     cases c with
     |ow s' u l=>
      simp only[iu]at h;split at h
      ·rename_i ts' hs hr;simp only[af0]at h;subst h;cases cs with
       |nil=>exact hc.elim
       |cons g cs=>
        obtain⟨h1,h2⟩:=hc;rcases h1 with(h1|⟨h1,_⟩)|⟨h1,_⟩
        ·simp only[Tt.d.injEq]at h1;subst h1;refine j hr h2 rfl (.inl ?_) (fun N=>trivial)
         grind [mT]
        all_goals grind
      grind
     |_=>simp[iu]at h
theorem jW(k:Nat):∀t:List (Nat×Nat×At),gtA t k=match cw t k with|some (_,v)=>v|none=>.any
 |[]=>rfl
 |(i,j,v)::t=>by
  simp only[gtA,cw];cases Nat.beq i k with
  |true=>rfl
  |false=>exact jW k t
theorem EB{t:Tt}(h:t.inR rs=true):q9 rs t.toT:=by
 cases t with
 |pl p=>show p.root∈rs;grind [Tt.inR]
 |rf p=>show p.root∈rs;grind [Tt.inR]
 |_=>trivial
theorem VI{x:A1}(h:x.inR rs=true):yv rs x.toV:=by
 cases x with
 |c t=>exact EB h
 |agg ts=>
  intro t a;obtain⟨t',h1,rfl⟩:=agL.1 a;exact EB (agH.1 h t' h1)
theorem acU(h:x.inR rs=true):KZ rs x.toV:=by
 cases x with
 |one x=>exact VI h
 |tup xs=>
  intro t a;obtain⟨t',h1,rfl⟩:=agL.1 a;exact VI (agH.1 h t' h1)
 |any=>trivial
theorem O4{p:Nat->At->Prop}:∀{t:List (Nat×Nat×At)},(∀x∈t,p x.1 x.2.2)->∀i,gtA t i=.any\/p i (gtA t i)
 |[],_,_=>.inl rfl
 |(k,j,v)::t,h,i=>by
  simp only[gtA];cases hb:Nat.beq k i with
  |true=>simp_all
  |false=>exact O4 (fun x hx=>h x (agM _ hx)) i
theorem qF{t:List (Nat×Nat×At)}:∀{ks:List Nat}{x:Nat×Nat×At},x∈Dc t ks->x.1∈ks/\cw t x.1=some x.2
 |[],x,h=>by simp[Dc]at h
 |k::r,x,h=>by
  simp only[Dc]at h;split at h
  ·rename_i j v hl;rcases agC.1 h with rfl|h
   ·grind
   ·have:=qF h;grind
  ·have:=qF h;grind
theorem qE{t:List (Nm×Nat×Rt)}:∀{ks:List Nm}{x:Nm×Nat×Rt},x∈pu t ks->x.1∈ks/\cU t x.1=some x.2
 |[],x,h=>by simp[pu]at h
 |k::r,x,h=>by
  simp only[pu]at h;split at h
  ·rename_i j v hl;rcases agC.1 h with rfl|h
   ·grind
   ·have:=qE h;grind
  ·have:=qE h;grind
theorem ID{s:St}:∀{ks:List Nat},YJ s0 s rs ks=true->∀k∈ks,∃j v0 v,cw s0.t k=some (j,v0)/\cw s.t k=some (j,v)/\j<s0.nx/\v.inR rs=true
 |[],_,k,hk=>by grind
 |i::r,h,k,hk=>by
  simp only[YJ,afZ]at h;rcases agC.1 hk with rfl|hk
  ·have h1:=h.1
   split at h1
   ·rename_i j v0 j' v a b;simp only[afZ]at h1;have:=af8 h1.1.1
    simp_all
   grind
  ·exact ID h.2 k hk
theorem zI{s:St}:∀{ks:List Nm},Rb s0 s rs ks=true->∀k∈ks,∃j v0 v,cU s0.m k=some (j,v0)/\cU s.m k=some (j,v)/\j<s0.nx/\v.cells.all (·.inR rs)=true
 |[],_,k,hk=>by grind
 |i::r,h,k,hk=>by
  simp only[Rb,afZ]at h;rcases agC.1 hk with rfl|hk
  ·have h1:=h.1
   split at h1
   ·rename_i j v0 j' v a b;simp only[afZ]at h1;have:=af8 h1.1.1
    simp_all
   grind
  ·exact zI h.2 k hk
theorem IC{s:St}:∀{ps:List (Nat×Nm×Nat)},YI s rs ps=true->∀p∈ps,gtA s.t p.1=.one (.c (.pl ⟨p.2.1,p.2.2,[]⟩))/\p.2.1∈rs
 |[],_,p,hp=>by grind
 |(k,n,o)::r,h,p,hp=>by
  simp only[YI,afZ]at h;rcases agC.1 hp with rfl|hp
  ·grind [af8]
  ·exact IC h.2 p hp
theorem Ag{s:St}:∀{ks:List Nm},Rb s0 s rs ks=true->(pu s0.m ks).map (·.1)=ks
 |[],_=>rfl
 |k::r,h=>by
  have a:=h
  simp only[Rb,afZ]at h;obtain⟨j,v0,v,b,_⟩:=zI a k (by simp);simp only[pu,b,af3,Ag h.2]
theorem gM(nx:Nat):∀(sp:List Sp)(x:FSp sp),(eV nx sp x).map (·.1)=sp.flatMap Sp.rn
 |[],_=>rfl
 |.sl k u::r,x=>by simp only[eV,ag3,Sp.rn,agZ];exact gM nx r _
 |.ow k sh u::r,x=>by simp only[eV,ag3,Sp.rn,af3,ahR];rw[gM nx r]
 |.rt n sh u::r,x=>by simp only[eV,ag3,Sp.rn,af3,ahR];rw[gM nx r]
 |.mp n ku vu::r,x=>by simp only[eV,ag3,Sp.rn,af3,ahR];rw[gM nx r]
 |.mo n ku vu::r,x=>by simp only[eV,ag3,Sp.rn,af3,ahR];rw[gM nx r]
 |.it n ku vu::r,x=>by simp only[eV,ag3,Sp.rn,af3,ahR];rw[gM nx r]
 |.gw n sh u::r,x=>by simp only[eV,ag3,Sp.rn,af3,ahR];rw[gM nx r]
theorem Do:∀{l:List Nm},E1 l=true->l.Nodup
 |[],_=>List.nodup_nil
 |n::r,h=>by
  simp only[E1,afZ,agS,List.contains_eq_mem,decide_eq_false_iff_not]at h;exact ahP.2 ⟨h.1,Do h.2⟩
theorem zA{b a:U}{l:List (El ku×El vu)}{x:List (El b×El a)}(h:Il ku vu b a l=some x):∃(d:ku=b)(c:vu=a),x=d ▸ c ▸ l:=by
 grind [Il]
theorem V7{s:St}{nx:Nat}:∀{sp:List Sp}{x:FSp sp},unS s sp=some x ->
  (∀y∈lJ nx sp x,(y.2.2.toV=(gtA s.t y.1).toV\/y.2.2.toV=(gtA s.t y.1).toV.map T.canon)/\∀N,(∀n∈sp.flatMap Sp.rn,n∈N)->KZ N (gtA s.t y.1).toV) /\
  (∀y∈eV nx sp x,∃r,cq s.m y.1=some r/\m0 r.toR y.2.2.toR/\∀N,∀t∈r.toR.cells,q9 N t)
 |[],_,_=>⟨fun y h=>by simp[lJ]at h,fun y h=>by simp[eV]at h⟩
 |p::r,x,h=>by
  simp only[unS]at h;cases h1:KL s p with
  |none=>grind
  |some a=>
   cases h2:unS s r with
   |none=>grind
   |some b=>
    rw[h1,h2]at h;simp only[af0]at h;obtain⟨A,B⟩:=V7 (nx:=nx) h2;cases p with
    |sl k u=>
     have d:FSp.hd (.sl k u) r x=a:=by grind [rL]
     have hb:FSp.tl (.sl k u) r x=b:=by grind [rM]
     refine⟨fun y hy=>?_,fun y hy=>?_⟩
     ·simp only[lJ,d,hb,agC]at hy;rcases hy with rfl|hy
      ·obtain⟨k1,k2⟩:=zy (v:=gtA s.t k) h1
       grind
      grind
     grind [eV]
    |ow k sh u=>
     have d:FSp.hd (.ow k sh u) r x=a:=by grind [rL]
     have hb:FSp.tl (.ow k sh u) r x=b:=by grind [rM]
     simp only[KL]at h1;split at h1
     ·rename_i n j u' l hv hr;cases hn:decide (n=jM k)<;>cases f:pM sh j<;>rw[hn,f]at h1
      ·cases h1
      ·cases h1
      ·cases h1
      ·have hn':n=jM k:=by grind
       subst hn';obtain⟨e,rfl⟩:=mh h1;subst e;obtain rfl:=mT f;refine⟨fun y hy=>?_,fun y hy=>?_⟩
       ·simp only[lJ,hb,agC]at hy;rcases hy with rfl|hy
        ·refine⟨.inl (by rw[hv]),fun N hN=>?_⟩;rw[hv];exact hN _ (by grind [Sp.rn])
        grind
       ·simp only[eV,d,hb,agC]at hy;rcases hy with rfl|hy
        ·exact⟨_,hr,m0.refl _,fun N t c=>by simp only[Rt.toR,holed,af3,ag5,agI]at c;subst c;trivial⟩
        grind
     grind
    |mp n ku vu=>
     have d:FSp.hd (.mp n ku vu) r x=a:=by grind [rL]
     have hb:FSp.tl (.mp n ku vu) r x=b:=by grind [rM]
     simp only[KL]at h1;split at h1
     ·rename_i q w l hr;obtain⟨o,g,rfl⟩:=zA h1;subst o;subst g;refine⟨fun y hy=>?_,fun y hy=>?_⟩
      ·grind [lJ]
      ·simp only[eV,d,hb,agC]at hy;rcases hy with rfl|hy
       ·exact⟨_,hr,m0.refl _,fun N t c=>by simp only[Rt.toR,holed,af3,ag5,agI]at c;subst c;trivial⟩
       grind
     grind
    |it n ku vu=>
     have d:FSp.hd (.it n ku vu) r x=a:=by grind [rL]
     have hb:FSp.tl (.it n ku vu) r x=b:=by grind [rM]
     simp only[KL]at h1;split at h1
     ·rename_i q w cur l hr;obtain⟨o,g,rfl⟩:=zA h1;subst o;subst g;refine⟨fun y hy=>?_,fun y hy=>?_⟩
      ·grind [lJ]
      ·simp only[eV,d,hb,agC]at hy;rcases hy with rfl|hy
       ·exact⟨_,hr,⟨rfl,rfl,fun i t t' h1 h2=>by
         cases i with
         |zero=>
          have o:T.it (cur.map (rb _ _)) (l.map (rb _ _))=t:=Option.some.inj h1
          have g:T.it none (l.map (rb _ _))=t':=Option.some.inj h2
          subst o g;exact .inr rfl
         |succ i=>grind [Rt.toR,holed]⟩,fun N t c=>by simp only[Rt.toR,holed,af3,ag5,agI]at c;subst c;trivial⟩
       grind
     grind
    |gw n sh u=>
     have d:FSp.hd (.gw n sh u) r x=a:=by grind [rL]
     have hb:FSp.tl (.gw n sh u) r x=b:=by grind [rM]
     simp only[KL]at h1;split at h1
     ·rename_i j u' l hr;cases f:pM sh j with
      |false=>grind
      |true=>
      rw[f]at h1;obtain⟨e,rfl⟩:=mh h1;subst e;obtain rfl:=mT f;refine⟨fun y hy=>?_,fun y hy=>?_⟩
      ·grind [lJ]
      ·simp only[eV,d,hb,agC]at hy;rcases hy with rfl|hy
       ·exact⟨_,hr,m0.refl _,fun N t c=>by simp only[Rt.toR,holed,af3,ag5,agI]at c;subst c;trivial⟩
       grind
     grind
    |mo n ku vu=>
     have d:FSp.hd (.mo n ku vu) r x=a:=by grind [rL]
     have hb:FSp.tl (.mo n ku vu) r x=b:=by grind [rM]
     simp only[KL]at h1;split at h1
     ·rename_i q w l hr;obtain⟨o,g,rfl⟩:=zA h1;subst o;cases g;refine⟨fun y hy=>?_,fun y hy=>?_⟩
      ·grind [lJ]
      ·simp only[eV,d,hb,agC]at hy;rcases hy with rfl|hy
       ·exact⟨_,hr,m0.refl _,fun N t c=>by simp only[Rt.toR,holed,af3,ag5,agI]at c;subst c;trivial⟩
       grind
     grind
    |rt n sh u=>
     have d:FSp.hd (.rt n sh u) r x=a:=by grind [rL]
     have hb:FSp.tl (.rt n sh u) r x=b:=by grind [rM]
     simp only[KL]at h1;split at h1
     ·rename_i cells hr;split at h1
      ·rename_i ts z;obtain⟨k1,k2⟩:=Xn z (nl h1);refine⟨fun y hy=>?_,fun y hy=>?_⟩
       ·grind [lJ]
       ·simp only[eV,d,hb,agC]at hy;rcases hy with rfl|hy
        ·exact⟨_,hr,⟨rfl,k1.1,k1.2⟩,fun N t c=>k2 N t c⟩
        grind
      grind
     grind
def jn1(σ:Sg)(s0:St)(J:FSp σ.sp->Prop)(s:St):Prop:=σ.fit s0 s=true/\∃x,unS s σ.sp=some x/\J x
theorem VP{s1:St}(q:Ext s0 s1)(h:jn1 σ s0 J s1)(f:R g s1.toS a w):∃v,J v/\R g (σ.st s0 v).toS a w:=by
   obtain⟨hf,v,hv,h⟩:=h;refine⟨v,h,?_⟩;obtain⟨H,γ,F,hX⟩:=f;simp only[Sg.fit,afZ]at hf;obtain⟨⟨⟨f1,E⟩,f3⟩,s⟩:=hf;obtain⟨l1,l2⟩:=V7 (nx:=s0.nx) hv;have b:(σ.st s0 v).toS.m.map (·.1)=σ.rn:=by
    show(toM (pu s0.m σ.kr++eV s0.nx σ.sp v)).map (·.1)=_
    simp only[toM,ag6];show(pu s0.m σ.kr++eV s0.nx σ.sp v).map (·.1)=_
    rw[ahQ,Ag s,gM];rfl
   refine⟨H,γ,F,Ua hX (by grind [Do]) (fun x hx=>?_) (fun i=>?_)⟩
   ·rw[b];obtain⟨y,hy,rfl⟩:=agL.1 (show x∈toM (pu s0.m σ.kr++eV s0.nx σ.sp v)from hx);rcases agE.1 hy with hy|hy
    ·obtain⟨hk,hl⟩:=qE hy;obtain⟨j,v0,c,B,l,C,I⟩:=zI s y.1 hk;have z:=q.m _ _ _ l C
     rw[hl]at z;have G:=Option.some.inj z
     have D:cq s1.m y.1=some y.2.2:=by grind [nE]
     refine⟨y.2.2.toR,br D,m0.refl _,fun t A=>?_⟩;have k:y.2.2=c:=by rw[G]
     rw[k]at A;have u:=yQ c.cells c.hole
     obtain⟨i,hi,hit⟩:=List.getElem_of_mem A;have d:=u.len
     have o:i<c.cells.length:=by
      have:(c.toR.cells).length=c.cells.length:=d
      omega
     rcases u.nth i _ t (af1 o) (by rw[<- hit];exact af1 hi)with e|⟨_,_,_,_,_,e,_⟩
     ·grind [EB]
     ·rw[e];trivial
    ·obtain⟨r,k1,k2,k3⟩:=l2 y hy;exact⟨r.toR,br k1,k2,k3 _⟩
   ·rw[b];have key:∀y∈(σ.st s0 v).t,(y.2.2.toV=(gtA s1.t y.1).toV\/y.2.2.toV=(gtA s1.t y.1).toV.map T.canon)/\KZ σ.rn (gtA s1.t y.1).toV:=by
     intro y hy;rcases agE.1 hy with hy|hy
     ·obtain⟨hk,hl⟩:=qF hy
      grind [ID,Ext.t,jW,acU]
     ·rcases agE.1 hy with hy|hy
      ·obtain⟨p,hp,rfl⟩:=agL.1 hy;obtain⟨B,l⟩:=IC E p hp;dsimp only;rw[B];exact⟨.inl rfl,l⟩
      grind [Sg.rn]
    have hs1:aY s1.toS.t i=(gtA s1.t i).toV:=dl i s1.t
    have n:aY (σ.st s0 v).toS.t i=(gtA (σ.st s0 v).t i).toV:=dl i (σ.st s0 v).t
    rw[hs1,n];rcases O4 (p:=fun i v=>(v.toV=(gtA s1.t i).toV\/v.toV=(gtA s1.t i).toV.map T.canon)/\KZ σ.rn (gtA s1.t i).toV) key i with e|e
    ·rw[e];exact .inl rfl
    grind
theorem aaV{s:St}(d:Ext s0 s)(h:jn σ s0 J s)(e:R g s.toS a w):∃v,J v/\R g (σ.st s0 v).toS a w:=by
 unfold jn at h;dsimp only at h;have b:=m8 (g:=g) (a:=a) (w:=w) σ.sp e
 have c:=d.trans (gR σ.sp s)
 split at h
 ·rename_i hf;split at h
  ·rename_i v hv;exact VP c ⟨hf,v,hv,h⟩ b
  grind
 grind
theorem Dk{k:Nat}{y:Nat×At}:∀{t:List (Nat×Nat×At)},cw t k=some y->(k,y)∈t
 |[],h=>by cases h
 |(i,j,v)::t,h=>by
  simp only[cw]at h;split at h
  ·grind [af8]
  ·exact agM _ (Dk h)
theorem Di{k:Nm}{y:Nat×Rt}:∀{t:List (Nm×Nat×Rt)},cU t k=some y->(k,y)∈t
 |[],h=>by cases h
 |(i,j,v)::t,h=>by
  simp only[cU]at h;split at h
  ·grind
  ·exact agM _ (Di h)
theorem pv(nx:Nat):∀(sp:List Sp)(x:FSp sp),(∀y∈lJ nx sp x,y.2.1=nx)/\∀y∈eV nx sp x,y.2.1=nx
 |[],_=>⟨fun y h=>by simp[lJ]at h,fun y h=>by simp[eV]at h⟩
 |.sl k u::r,x=>by
  obtain⟨h1,h2⟩:=pv nx r (FSp.tl (.sl k u) r x);refine⟨fun y h=>?_,fun y h=>h2 y h⟩
  grind [lJ]
 |.ow k sh u::r,x=>by
  obtain⟨h1,h2⟩:=pv nx r (FSp.tl (.ow k sh u) r x)
  grind [lJ,eV]
 |.rt n sh u::r,x=>by
  obtain⟨h1,h2⟩:=pv nx r (FSp.tl (.rt n sh u) r x);refine⟨fun y h=>h1 y h,fun y h=>?_⟩
  grind [eV]
 |.mp n ku vu::r,x=>by
  obtain⟨h1,h2⟩:=pv nx r (FSp.tl (.mp n ku vu) r x);refine⟨fun y h=>h1 y h,fun y h=>?_⟩
  grind [eV]
 |.mo n ku vu::r,x=>by
  obtain⟨h1,h2⟩:=pv nx r (FSp.tl (.mo n ku vu) r x);refine⟨fun y h=>h1 y h,fun y h=>?_⟩
  grind [eV]
 |.it n ku vu::r,x=>by
  obtain⟨h1,h2⟩:=pv nx r (FSp.tl (.it n ku vu) r x);refine⟨fun y h=>h1 y h,fun y h=>?_⟩
  grind [eV]
 |.gw n sh u::r,x=>by
  obtain⟨h1,h2⟩:=pv nx r (FSp.tl (.gw n sh u) r x);refine⟨fun y h=>h1 y h,fun y h=>?_⟩
  grind [eV]
theorem yD(σ:Sg)(s:St)(x:FSp σ.sp):Ext s (σ.st s x):=by
 obtain⟨l1,l2⟩:=pv s.nx σ.sp x;refine⟨agU _,fun k j v h hj=>?_,fun n j r h hj=>?_⟩
 ·have a:=Dk h
  rcases agE.1 a with a|a
  ·exact(qF a).2
  grind
 ·have a:=Di h
  rcases agE.1 a with a|a
  ·exact(qE a).2
  grind
end
def jI(nt:Nat):Code->Bool
 |.region _ ops false=>Zp nt ops.toList ops.toList
 |.region _ ops true=>lj nt ops&&Region.noSelect ops
 |.seq a b=>jI nt a&&jI nt b
 |.cond (.tmp t) a b=>Nat.blt t 100000&&(jI nt a&&jI nt b)
 |.block _ a=>jI nt a
 |.loop a=>jI nt a
 |_=>true
def LQ(pk:PKt)(K:Kt):Exit->S->Prop
 |.normal,s=>∃t:St,s=t.toS/\K.n t
 |.exit i,s=>∃t:St,s=t.toS/\K.x i t
 |.ret,s=>∃t:St,s=t.toS/\K.r t
 |.panic c,s=>∃v,∃t:St,c=chn v/\s=t.toS/\pk v t
 |_,_=>False
theorem aaE{pk:PKt}{K:Kt}:∀x s,PQ pk x s->LQ pk K x s:=by
 rintro x s ⟨v,t,rfl,rfl,h2⟩
 exact⟨v,t,rfl,rfl,h2⟩
theorem Y2{s:St}{a:FSp σ.sp->Prop}(hj:∀v,J v->a v)(h:jn σ s0 J s):jn σ s0 a s:=by
 grind [jn]
theorem As{α:Type}{b b':(α->Prop)->α->Prop}(hb:∀R a:α->Prop,(∀v,R v->a v)->∀v,b R v->b' a v):∀n v,mG b n v->mG b' n v
 |0,_,h=>h.elim
 |n+1,v,h=>hb _ _ (As hb n) v h
theorem yp{e:En}(he:e.ok):∀(c:Code)(an:An)(s:St)(K K':Kt),(∀s',Ext s s'->K.n s'->K'.n s')->(∀i s',Ext s s'->K.x i s'->K'.x i s')->(∀s',Ext s s'->K.r s'->K'.r s')->wpT e an c s K->wpT e an c s K':=by
 intro c;induction c with
 |skip=>grind [wpT,Ext.refl]
 |exit i=>grind [wpT,Ext.refl]
 |ret=>grind [wpT,Ext.refl]
 |region id ops k=>
  intro an s K K' hn hx hr h;cases k<;>grind [wpT,AG,jS]
 |seq a b d f=>
  intro an s K K' hn hx hr h;cases an with
  |s p q=>
   simp only[wpT]at h⊢;exact d p s ⟨fun s'=>wpT e (q.pick s') b s' K,K.x,K.r⟩ ⟨fun s'=>wpT e (q.pick s') b s' K',K'.x,K'.r⟩ (fun s1 h1 hs1=>f (q.pick s1) s1 K K' (fun s2 h2=>hn s2 (h1.trans h2)) (fun i s2 h2=>hx i s2 (h1.trans h2)) (fun s2 h2=>hr s2 (h1.trans h2)) hs1) hx hr h
  |j σ p q=>
   simp only[wpT]at h⊢;intro J l;refine d p s ⟨jn σ s J,K.x,K.r⟩ ⟨jn σ s J,K'.x,K'.r⟩ (fun s1 _ h=>h) hx hr (h J (fun v hv=>l v ?_));exact f q _ K K' (fun s2 h2=>hn s2 ((yD σ s v).trans h2)) (fun i s2 h2=>hx i s2 ((yD σ s v).trans h2)) (fun s2 h2=>hr s2 ((yD σ s v).trans h2)) hv
  |_=>grind [wpT]
 |cond t a b d f=>
  intro an s K K' hn hx hr h;cases an with
  |c p q=>
   cases t<;>grind [wpT]
  |_=>grind [wpT]
 |block id a d=>
  intro an s K K' hn hx hr h;cases an<;>grind [wpT]
 |loop a d=>
  intro an s K K' hn hx hr h;cases an with
  |lp σ p=>
   simp only[wpT]at h⊢;have g:=gR σ.sp s
   generalize prep σ.sp s=s1 at h g;split at h
   ·split at h
    ·obtain⟨n,hl⟩:=h;refine⟨n,As (fun R o m v hv=>?_) n _ hl⟩
     grind [Ext.trans,yD,Y2]
    omega
   omega
  |un n p=>
   simp only[wpT]at h⊢;have key:∀n(s1:St),Ext s s1->Au (fun R s'=>wpT e p a s' ⟨R,K.x,K.r⟩) n s1->Au (fun R s'=>wpT e p a s' ⟨R,K'.x,K'.r⟩) n s1:=by
    intro n;induction n with
    |zero=>intro s1 _ h;exact h.elim
    |succ n ih=>
     intro s1 u h
     grind [Au,Ext.trans]
   grind [Ext.refl]
  |_=>grind [wpT]
 |_=>grind [wpT]
theorem yz{P:Program}{g:G}{c:Code}{Q Q':Exit->S->Prop}{s:S}(h:AW P g c Q s)(hq:∀e s' a w,Q e s'->R g s' a w->∃b,Q' e b/\R g b a w):AW P g c Q' s:=fun a w d=>
 Code.wp_mono (fun e a' w'⟨s',h1,h2⟩=>hq e s' a' w' h1 h2) (h a w d)
theorem oH{e:En}(he:e.ok)(O:e.P.follows .mixedOrders=true){g:G}:∀(c:Code)(an:An)(s:St)(K:Kt),jI g.nt c=true->wpT e an c s K->AW e.P g c (LQ e.pk K) s.toS:=by
 intro c;induction c with
 |skip=>intro an s K hc h;simp only[wpT]at h;exact N1 ⟨s,rfl,h⟩
 |exit i=>intro an s K hc h;simp only[wpT]at h;exact XF ⟨s,rfl,h⟩
 |ret=>intro an s K hc h;simp only[wpT]at h;exact abA ⟨s,rfl,h⟩
 |region id ops N=>
  intro an s K hc h;obtain⟨l⟩:=ops;cases N with
  |false=>
   simp only[wpT]at h;exact pU (mY he aaE hc h (fun t f=>⟨t,rfl,f⟩))
  |true=>
   simp only[wpT]at h;simp only[jI,afZ]at hc;exact Te he aaE O hc.1 hc.2 (fun t f=>⟨t,rfl,f⟩) h
 |seq a b k o=>
  intro an s K hc h;simp only[jI,afZ]at hc;cases an with
  |s p q=>
   simp only[wpT]at h;refine uZ (AW.mono (k p s _ hc.1 h) (fun e' s' h'=>?_));cases e' with
   |normal=>obtain⟨t,rfl,f⟩:=h';exact o (q.pick t) t K hc.2 f
   |exit i=>exact h'
   |ret=>exact h'
   |panic c=>exact h'
   |_=>exact h'
  |j σ p q=>
   simp only[wpT]at h;have h1:=h _ (fun v hv=>hv)
   have h2:=yp he a p s ⟨jn σ s (fun v=>wpT e q b (σ.st s v) K),K.x,K.r⟩ ⟨fun s'=>Ext s s'/\jn σ s (fun v=>wpT e q b (σ.st s v) K) s',K.x,K.r⟩ (fun s' m u=>⟨m,u⟩) (fun _ _ _ h=>h) (fun _ _ h=>h) h1
   refine uZ (AW.mono (k p s _ hc.1 h2) (fun e' s' h'=>?_));cases e' with
   |normal=>
    obtain⟨t,rfl,m,f⟩:=h';intro a' w' D;obtain⟨v,hv,d⟩:=aaV m f D;exact o q _ K hc.2 hv a' w' d
   |exit i=>exact h'
   |ret=>exact h'
   |panic c=>exact h'
   |_=>exact h'
  |_=>grind [wpT]
 |cond t a b k o=>
  intro an s K hc h;cases an with
  |c p q=>
   cases t with
   |tmp t=>
    simp only[jI,afZ]at hc;simp only[wpT]at h;split at h
    ·rename_i c E;refine DU (js E) (fun hb=>?_) (fun hb=>?_) (agD hc.1)
     all_goals grind
    grind
   |_=>grind [wpT]
  |_=>grind [wpT]
 |block id a k=>
  intro an s K hc h;cases an with
  |b p=>
   simp only[wpT]at h;refine Td (AW.mono (k p s _ hc h) (fun e' s' h'=>?_));cases e' with
   |normal=>exact h'
   |exit i=>
    obtain⟨t,rfl,f⟩:=h';simp only[LD];dsimp only at f;cases hb:Nat.beq i id with
    |true=>
     rw[hb]at f;rw[if_pos (af8 hb)];exact⟨t,rfl,f⟩
    |false=>
     rw[hb]at f;rw[if_neg (fun e=>by grind [Nat.beq_refl])];exact⟨t,rfl,f⟩
   |ret=>exact h'
   |_=>exact h'
  |_=>grind [wpT]
 |loop a k=>
  intro an s K hc h;cases an with
  |lp σ p=>
   simp only[wpT]at h;have y:∀a' w',R g s.toS a' w'->R g (prep σ.sp s).toS a' w':=fun a' w' D=>m8 σ.sp D
   generalize prep σ.sp s=s1 at h y;split at h
   ·rename_i hf;split at h
    ·rename_i J hx0;obtain⟨n,hl⟩:=h;intro a0 w0 H;have hj:jn1 σ s1 (fun v=>v=J) s1:=⟨hf,J,hx0,rfl⟩
     obtain⟨v,rfl,A⟩:=VP (Ext.refl s1) hj (y _ _ H);refine N0 (fun n z=>∃v,mG (fun R v=>wpT e p a (σ.st s1 v) ⟨jn σ s1 R,K.x,K.r⟩) n v/\z=(σ.st s1 v).toS) n ⟨v,hl,rfl⟩ (fun n z C=>?_) a0 w0 A
     ·obtain⟨v,hv,rfl⟩:=C;cases n with
      |zero=>exact hv.elim
      |succ n=>
       have h2:=yp he a p (σ.st s1 v) ⟨jn σ s1 (mG (fun R v=>wpT e p a (σ.st s1 v) ⟨jn σ s1 R,K.x,K.r⟩) n),K.x,K.r⟩ ⟨fun s'=>Ext (σ.st s1 v) s'/\jn σ s1 (mG (fun R v=>wpT e p a (σ.st s1 v) ⟨jn σ s1 R,K.x,K.r⟩) n) s',K.x,K.r⟩ (fun s' m u=>⟨m,u⟩) (fun _ _ _ h=>h) (fun _ _ h=>h) hv
       refine yz (k p _ _ hc h2) (fun e' s' a' w' h' d=>?_);cases e' with
       |normal=>
        obtain⟨t,rfl,m,f⟩:=h';obtain⟨L,B,F⟩:=aaV ((yD σ s1 v).trans m) f d;exact⟨_,⟨n,aiC n,L,B,rfl⟩,F⟩
       |exit i=>exact⟨s',h',d⟩
       |ret=>exact⟨s',h',d⟩
       |panic c=>exact⟨s',h',d⟩
       |_=>exact h'.elim
    grind
   grind
  |un n p=>
   simp only[wpT]at h;refine N0 (fun n z=>∃t:St,z=t.toS/\Au (fun R s'=>wpT e p a s' ⟨R,K.x,K.r⟩) n t) n ⟨s,rfl,h⟩ (fun n z C=>?_);obtain⟨t,rfl,f⟩:=C;cases n with
   |zero=>exact f.elim
   |succ n=>
    refine yz (k p t ⟨Au (fun R s'=>wpT e p a s' ⟨R,K.x,K.r⟩) n,K.x,K.r⟩ hc f) (fun e' s' a' w' h' d=>?_);cases e' with
    |normal=>
     obtain⟨M,rfl,I⟩:=h';exact⟨_,⟨n,aiC n,M,rfl,I⟩,d⟩
    |exit i=>exact⟨s',h',d⟩
    |ret=>exact⟨s',h',d⟩
    |panic c=>exact⟨s',h',d⟩
    |_=>exact h'.elim
  |_=>grind [wpT]
 |_=>grind [wpT]
def kS:(us:List U)->Fl us->List AV
 |[],_=>[]
 |u::r,x=>(Bp u (Fl.hd u r x)).toV::kS r (Fl.tl u r x)
def vj:(us:List U)->Fl us->List AV1
 |[],_=>[]
 |u::r,x=>(B8 u (Fl.hd u r x)).toV::vj r (Fl.tl u r x)
theorem uQ(u:U)(x:El u):Bp u x=.one (B8 u x):=by cases u<;>rfl
theorem rU{x:El u}(h:oX u v=some x):v.noRf=true/\v.toV.isFz=true:=by
 have cl:∀{ts:List Tt}{cs:List C},CL ts cs->ts.all Tt.noRf=true/\(ts.map Tt.toT).all T.isFz=true:=by
  intro ts;induction ts with
  |nil=>grind
  |cons t ts ih=>
   intro cs hc;cases cs with
   |nil=>exact hc.elim
   |cons c cs=>
    obtain⟨h1,h2⟩:=ih hc.2;rcases hc.1 with(rfl|⟨rfl,_⟩)|⟨rfl,_⟩
    ·exact⟨by simp only[agF,h1];rfl,by simp only[af3,agF,h2];rfl⟩
    ·exact⟨by simp only[agF,h1];rfl,by simp only[af3,agF,h2];rfl⟩
    ·exact⟨by simp only[agF,h1];rfl,by simp only[af3,agF,h2];rfl⟩
 unfold oX at h;split at h
 ·unfold U1 at h;split at h
  ·split at h
   ·obtain⟨h1,h2⟩:=cl (nl h);refine⟨?_,?_⟩
    ·rename_i t _ _;show t.noRf=true;grind
    ·rename_i t _ _;show t.toT.isFz=true;grind
   grind
  ·split at h
   ·cases h
   ·obtain⟨h1,h2⟩:=cl (nl h);exact⟨h1,h2⟩
 grind
theorem kg:∀{us:List U}{vs:List At}{x:Fl us},da us vs=some x->vs.all At.noRf=true/\(vs.map At.toV).all AV.isFz=true/\(vs.map At.toV).map (AV.map T.canon)=kS us x
 |[],[],_,_=>⟨rfl,rfl,rfl⟩
 |u::r,v::vs,x,h=>by
  simp only[da]at h;cases h1:oX u v with
  |none=>grind
  |some a=>
   cases h2:da r vs with
   |none=>grind
   |some b=>
    rw[h1,h2]at h;simp only[af0]at h;subst h;obtain⟨c,d,e⟩:=kg h2
    grind [rU,kS,tW,uO,zy]
 |[],_::_,_,h=>by simp[da]at h
 |_::_,[],_,h=>by simp[da]at h
section
variable {P:Program}
theorem Pj{s:St}{ops:List Operand}(h:ops.all aG=true):ops.map (ev s.toS)=(ops.map (evA s)).map At.toV:=by
 grind [agJ,af]
theorem dT{s:St}:∀{rs:List ResultVar}{k:List At->Prop},(∀vs,¬ k vs)->¬ eF P s rs k
 |[],k,hk,h=>hk _ h
 |r::rs,k,hk,h=>by
  have key:∀v,¬ eF P s rs (fun vs=>k (v::vs)):=fun v=>dT fun vs=>hk _
  simp only[eF]at h;unfold qQ at h;cases r with
  |tmp t=>simp_all
  |cell a t=>
   dsimp only at h;split at h
   ·split at h
    ·split at h
     ·exact loadT_false key h
     omega
    omega
   omega
where
 loadT_false {m:List (Nm×Nat×Rt)} {t:TypeId} {x:At} {k:At->Prop} (hk:∀v,¬ k v) (h:mE P m t x k):False:=by
  unfold mE at h
  grind
theorem lz{s:St}(hop:∀p i,gtA s.t i=.one (.c (.pl p))->okP (toM s.m) p):∀{rs:List ResultVar}{us:List U}{K:Fl us->Prop}{k:List At->Prop},(∀vs,k vs->∃x,da us vs=some x/\K x)->eF P s rs k ->
  fH P s.toS rs (fun xs=>∃x:Fl us,xs.map (·.map T.canon)=vj us x/\xs.all AV1.isFz=true/\K x)
 |[],us,K,k,hk,h=>by
  obtain⟨x,hx,d⟩:=hk _ h;cases us with
  |nil=>exact⟨x,rfl,rfl,d⟩
  |cons u us=>grind [da]
 |r::rs,us,K,k,hk,h=>by
  simp only[eF]at h;simp only[fH];have step:∀{v:At},eF P s rs (fun vs=>k (v::vs))->(match v.toV with
    |.one x=>fH P s.toS rs fun xs=>∃y:Fl us,(x::xs).map (·.map T.canon)=vj us y/\(x::xs).all AV1.isFz=true/\K y
    |_=>False):=by
   intro v hv;cases us with
   |nil=>grind [dT,da]
   |cons u us=>
    cases hc:oX u v with
    |none=>grind [dT,da]
    |some a=>
     obtain⟨g,_⟩:=zy hc;obtain⟨_,c3⟩:=rU hc;have ih:=lz hop (us:=us) (K:=fun y=>K (Fl.cons u us a y)) (fun vs w=>by
      grind [da]) hv
     rw[uQ]at g;cases v with
     |one x=>
      refine resGets_mono ?_ ih;rintro xs ⟨y,z,o,d⟩
      refine⟨_,?_,?_,d⟩
      ·grind [vj,tW,uO,At.toV,AV.map]
      ·simp only[agF,o,ahU];exact c3
     |tup _=>grind [oX]
     |any=>grind [oX]
  cases r with
  |tmp t=>
   simp only[qQ]at h;simp only[wo];rw[show aY s.toS.t t=(gtA s.t t).toV from dl t s.t]
   grind
  |cell a t=>
   simp only[qQ]at h;simp only[wo];split at h
   ·rename_i p hp;split at h
    ·split at h
     ·have hl:=Aq (m:=s.m) (x:=gtA s.t a) (fun q hq=>hop q a hq) h
      rw[show aY s.toS.t a=(gtA s.t a).toV from dl a s.t];refine loadK_mono ?_ hl
      grind
     grind
    grind
   grind
where
 loadK_mono {m:Mm} {t:TypeId} {x:AV} {k k':AV->Prop} (hk:∀v,k v->k' v) (h:uf P m t x k):uf P m t x k':=by
  unfold uf at h⊢;refine⟨h.1,?_⟩
  replace h:=h.2
  split at h
  ·grind
  ·split at h
   ·rename_i e;rw[if_pos e];exact atK_mono (fun ts b f=>hk _ (b f)) h
   ·rename_i e;rw[if_neg e];refine atK_mono (fun ts b=>?_) h
    grind
  omega
 atK_mono {m:Mm} {p:Pl} {n:Nat} {k k':List T->Prop} (hk:∀v,k v->k' v) (h:atK m p n k):atK m p n k':=by
  unfold atK at h⊢;split at h
  ·omega
  ·split at h
   ·grind
   ·exact inK_mono hk h
   omega
 inK_mono {k k':List T->Prop} (hk:∀v,k v->k' v):∀{path:List Step}{sub:List Sh}{l:List (List D)}{n:Nat},inK sub l n path k->inK sub l n path k'
  |[],_,_,_,h=>h.elim
  |[st],sub,l,n,h=>by
   grind [inK]
  |st::j::r,sub,l,n,h=>by
   simp only[inK]at h⊢;split at h
   ·split at h
    ·exact inK_mono hk h
    omega
   omega
 resGets_mono {s:S}:∀{rs:List ResultVar}{k k':List AV1->Prop},(∀v,k v->k' v)->fH P s rs k->fH P s rs k'
  |[],k,k',hk,h=>hk _ h
  |r::rs,k,k',hk,h=>by
   simp only[fH]at h⊢;have st:∀v:AV,(match v with|.one x=>fH P s rs fun xs=>k (x::xs)|_=>False)->(match v with|.one x=>fH P s rs fun xs=>k' (x::xs)|_=>False):=by
    intro v hv;cases v with
    |one x=>exact resGets_mono (fun xs=>hk _) hv
    |_=>exact hv
   cases r with
   |tmp t=>exact st _ h
   |cell a t=>exact loadK_mono st h
theorem Pz{s:S}{rs:List ResultVar}{us:List U}{K:AV->Prop}{Q:Fl us->Prop}(d:gY s rs=s)(f:∀x,Q x->K (gC us x).toV)(h:fH P s rs (fun xs=>∃x:Fl us,xs.map (·.map T.canon)=vj us x/\xs.all AV1.isFz=true/\Q x)):wq P s rs K:=by
 unfold wq;rw[d];refine lz.resGets_mono ?_ h;rintro xs ⟨x,b,e,hq⟩
 have c:=f x hq
 have a:∀(us:List U)(x:Fl us),(gC.resL us x).map A1.toV=vj us x:=by
  intro us;induction us with
  |nil=>intro _;rfl
  |cons u r ih=>grind [gC.resL,vj]
 match xs,e,us,x,b,c with
 |[],_,[],x,_,c=>exact⟨rfl,c⟩
 |[y],e,[u],x,b,c=>
  simp only[af3,ag5,vj,List.cons.injEq,and_true]at b;refine⟨by grind,?_⟩;rw[b];have:(gC [u] x).toV=.one (B8 u (Fl.hd u [] x)).toV:=by show(Bp u x).toV=_;rw[uQ];rfl
  grind
 |y::g::ys,e,u::v::r,x,b,c=>
  refine⟨e,?_⟩;rw[b,<- a];exact c
 |[],_,_::_,_,b,_=>grind [vj]
 |[_],_,[],_,b,_=>grind [vj]
 |[_],_,_::_::_,_,b,_=>grind [vj]
 |_::_::_,_,[],_,b,_=>grind [vj]
 |_::_::_,_,[_],_,b,_=>grind [vj]
end
section
variable {P:Program}
theorem Wf{k:At->Prop}(h:mE P m t x k):∃v,k v:=by
 grind [dT.loadT_false]
theorem Ww{t:Tt}(h:t.owned=false):∀sub l,t.toT≠.ow sub l:=by
 cases t with
 |ow _ _ _=>cases h
 |_=>intro _ _ h;cases h
theorem zO{s:St}{r:Rt}(hr:cq s.m n=some r)(a:r.hole=none)(hc:r.cells.all (fun t=>!t.owned)=true):∀i,nA s.toS n i=s.toS
 |0=>rfl
 |i+1=>by
  simp only[nA];rw[zO hr a hc i];unfold IL;have e:aW s.toS.m ⟨n,i,[]⟩=(r.cells.map Tt.toT)[i]? := by
   unfold aW;rw[show ae s.toS.m n=some r.toR from br hr];show(holed (r.cells.map Tt.toT) r.hole)[i]? = _
   rw[a];rfl
  grind [Ww]
theorem sb{s:St}:∀{rs:List ResultVar}{us:List U}{k:List At->Prop},(∀vs,k vs->∃x,da us vs=some x)->eF P s rs k->gY s.toS rs=s.toS
 |[],_,_,_,_=>rfl
 |r::rs,us,k,hk,h=>by
  simp only[eF]at h;have step:∀{v:At},eF P s rs (fun vs=>k (v::vs))->v.noRf=true/\gY s.toS rs=s.toS:=by
   intro v hv;cases us with
   |nil=>grind [dT,da]
   |cons u us=>
    cases hc:oX u v with
    |none=>grind [dT,da]
    |some a=>
     exact⟨(rU hc).1,sb (us:=us) (fun vs b=>by
      grind [da]) hv⟩
  simp only[gY];cases r with
  |tmp t=>
   simp only[qQ]at h;obtain⟨h1,h2⟩:=step h;have e:pc s.toS (.tmp t)=s.toS:=by
    simp only[pc];rw[show aY s.toS.t t=(gtA s.t t).toV from dl t s.t];exact vI h1
   grind
  |cell a t=>
   simp only[qQ]at h;split at h
   ·rename_i p hp;split at h
    ·rename_i r hr;split at h
     ·rename_i hb;simp only[afZ,Option.isNone_iff_eq_none]at hb;obtain⟨v,hv⟩:=Wf h;have e:pc s.toS (.cell a t)=s.toS:=by
       simp only[pc];rw[js hp]
       grind [At.toV,A1.toV,Tt.toT,zO]
      rw[e];exact(step hv).2
     grind
    grind
   grind
variable {g:G} {a:Act} {w:World}
theorem y9{s:St}(h:R g s.toS a w)(n:Nm):∀i,R g (zN s n i).toS a w
 |0=>h
 |i+1=>OI (y9 h n i) _
theorem Qc{s:St}(h:R g s.toS a w)(r:ResultVar):R g (Ew s r).toS a w:=by
 cases r with
 |tmp t=>exact OH h _
 |cell a' t=>
  grind [Ew,y9]
theorem rO:∀(rs:List ResultVar){s:St},R g s.toS a w->R g (pd s rs).toS a w
 |[],_,h=>h
 |r::rs,_,h=>rO rs (Qc h r)
theorem aaZ{s:St}(h:R g s.toS a w):∀p i,gtA s.t i=.one (.c (.pl p))->okP (toM s.m) p:=by
 intro p i e;obtain⟨H,γ,F,hX⟩:=h;have:=hX.t i
 rw[js e]at this;obtain⟨_,h1,_⟩:=this;exact M1 h1
theorem Fk{rs:List ResultVar}{us:List U}{KK:Fl us->Prop}{K:AV->Prop}{t:St}(d:∀r,KK r->K (gC us r).toV)(h:uD P rs us KK t)(e:R g t.toS a w):∃c,wq P c rs K/\R g c a w:=by
 unfold uD at h;have b:=rO rs e
 refine⟨_,Pz (us:=us) (Q:=KK) (sb (us:=us) ?_ h) d (lz (aaZ b) ?_ h),b⟩
 all_goals grind
theorem tR:∀(i:Nat)(us:List U)(x:Fl us),(Q5 i us x).map (fun y=>(y.1,y.2.2.toV))=dQ i (kS us x)
 |_,[],_=>rfl
 |i,u::r,x=>by simp only[Q5,af3,kS,dQ,tR (i+1) r]
theorem i9:∀(us:List U)(x:Fl us),(kS us x).length=us.length
 |[],_=>rfl
 |u::r,x=>by simp only[kS,af4,i9 r]
end
def adF(s:S)(rs:List ResultVar)(K:List Sh->List (List D)->Prop):Prop:=
 match rs with
 |[.tmp t]=>match aY s.t t with
  |.one (.c (.rf ⟨n,0,[]⟩))=>match ae s.m n with
   |some ⟨false,[.ow sub l]⟩=>K sub l
   |_=>False
  |_=>False
 |_=>False
def afP(rs:List ResultVar)(K:List Sh->List (List D)->Prop):Exit->S->Prop
 |.normal,s=>adF s rs K
 |.ret,s=>adF s rs K
 |_,_=>False
def afN(a:List AV->List Sh->List (List D)->(List (List D)->Prop)->Prop):CK1:=fun s ops k=>
 match ops with
 |[]=>False
 |o::os=>
  let s1:=pe s (os.map (ev s))
  match ev s1 o with
  |.one (.c (.rf ⟨r,0,[]⟩))=>match ae s1.m r with
   |some ⟨false,[.ow sub l]⟩=>(os.map (ev s1)).all AV.isFz=true /\
     a (os.map fun x=>(ev s1 x).map T.canon) sub l (fun l'=>k ⟨oz (bO r) s1.t,(r,⟨false,[.ow sub l']⟩)::aM (bO r) (cm s1.m r)⟩ (.one (.c (.rf ⟨r,0,[]⟩))))
   |_=>False
  |_=>False
section
variable {P:Program}
end
section
variable {α β γ' δ:Type} {P:Program} {f:Nat} {fn:Func} {co:Code}
def fo0(c:Rw α)(n:Nat)(pre:List α->Prop)(f:List α->List α):List AV->List Sh->List (List D)->(List (List D)->Prop)->Prop
 |[],sub,l,K=>match dy c l with
  |some s=>sub=List.replicate n .fr/\pre s/\K ((f s).map c.enc)
  |_=>False
 |_,_,_,_=>False
def fo1(c:Rw α)(n:Nat)(a:Cd β)(pre:List α->β->Prop)(f:List α->β->List α):List AV->List Sh->List (List D)->(List (List D)->Prop)->Prop
 |[.one x],sub,l,K=>match dy c l,a.dec x with
  |some s,some x=>sub=List.replicate n .fr/\pre s x/\K ((f s x).map c.enc)
  |_,_=>False
 |_,_,_,_=>False
def fo2(c:Rw α)(n:Nat)(a:Cd β)(b:Cd δ)(pre:List α->β->δ->Prop)(f:List α->β->δ->List α):List AV->List Sh->List (List D)->(List (List D)->Prop)->Prop
 |[.one x,.one y],sub,l,K=>match dy c l,a.dec x,b.dec y with
  |some s,some x,some y=>sub=List.replicate n .fr/\pre s x y/\K ((f s x y).map c.enc)
  |_,_,_=>False
 |_,_,_,_=>False
end
attribute [push_cast] afN fo0 fo1 fo2 adF afP
section
variable {P:Program} {g:G} {a:Act} {w:World} {H:FH} {γ:Gam} {F:Nm->Fp}
theorem D6{m:Mm}{t:T}{f:Fp}{v:Value}(h:TR w H γ m t f v):q9 (m.map (·.1)) t:=by
 have key:∀{n:Nm}{r:Root},ae m n=some r->n∈m.map (·.1):=fun h=>List.mem_map_of_mem (f:=(·.1)) (aj h)
 cases t with
 |pl p=>
  obtain⟨_,h1,_⟩:=h;unfold bZ at h1;split at h1
  ·grind
  ·rename_i hr;exact key hr
 |rf p=>
  obtain⟨_,h1,_⟩:=h;unfold ip at h1;split at h1
  ·grind
  ·rename_i hr;exact key hr
 |_=>trivial
theorem NW{m:Mm}{x:AV1}(h:AR1 w H γ m x y):yv (m.map (·.1)) x:=by
 cases x with
 |c t=>exact D6 h
 |agg ts=>
  obtain⟨cs,_,_,h1⟩:=h;intro t a;obtain⟨i,hi,e⟩:=List.getElem_of_mem a;obtain⟨v,g',_,h2,_⟩:=D7 h1 (i:=i) (t:=t) (by grind);exact D6 h2
theorem aa9{m:Mm}{x:AV}(h:AR w H γ m x y):KZ (m.map (·.1)) x:=by
 cases x with
 |one x=>exact NW h
 |tup xs=>
  obtain⟨l,_,h1⟩:=h;have:∀(xs:List AV1)(ys:List Value),ARs w H γ m xs ys->∀x∈xs,yv (m.map (·.1)) x:=by
   intro xs;induction xs with
   |nil=>grind
   |cons x xs ih=>
    intro ys h z hz;cases ys with
    |nil=>exact h.elim
    |cons y ys=>
     rcases agC.1 hz with rfl|hz
     ·exact NW h.1
     ·exact ih ys h.2 z hz
  exact this xs _ h1
 |any=>trivial
theorem Uf{m:Mm}{r:Root}{f:Fp}(h:bU w H γ m n r f):∀t∈r.cells,q9 (m.map (·.1)) t:=by
 intro t c;unfold bU at h;split at h
 ·obtain⟨b,cs,ty,fz,g',_,_,_,_,h1,_⟩:=h;obtain⟨i,hi,e⟩:=List.getElem_of_mem c;obtain⟨v,a,_,h2,_⟩:=D7 h1 (i:=i) (t:=t) (by grind);exact D6 h2
 grind [D6]
theorem CH{s:S}(hX:RX g s a w H γ F)(n:Nm):RX g ⟨s.t,s.m.map fun x=>(x.1,if x.1=n then lF x.2 else x.2)⟩ a w H γ F:=by
 have hk:(s.m.map fun x=>(x.1,if x.1=n then lF x.2 else x.2)).map (·.1)=s.m.map (·.1):=by simp_all
 refine Ua hX (by rw[hk];exact hX.mem.keys) (fun x hx=>?_) (fun i=>.inr ⟨.inl rfl,by rw[hk];exact aa9 (hX.t i)⟩);rw[hk];obtain⟨y,hy,rfl⟩:=agL.1 hx;refine⟨y.2,sf hX.mem.keys hy,?_,Uf (hX.mem.roots y hy)⟩
 grind [m0.canon,m0.refl]
theorem rW{sh:List Sh}{cells:List Tt}{j:Nm}(h:iq sh cells=some ts):(cells.map Tt.toT).all (T.self j)=true/\∀r:Nm,(cells.map Tt.toT).map (T.ren r j)=cells.map Tt.toT:=by
 induction cells generalizing sh ts with
 |nil=>grind
 |cons c cells ih=>
  cases sh with
  |nil=>simp[iq]at h
  |cons s sh=>
   have key:∀{ts'},iq sh cells=some ts'->(T.self j c.toT=true/\∀r,T.ren r j c.toT=c.toT)->((c::cells).map Tt.toT).all (T.self j)=true/\∀r:Nm,((c::cells).map Tt.toT).map (T.ren r j)=(c::cells).map Tt.toT:=by
    grind
   cases s with
   |fr=>
    cases c with
    |d x=>
     simp only[iq]at h;split at h
     ·rename_i hr;exact key hr ⟨rfl,fun _=>rfl⟩
     grind
    |nil=>
     simp only[iq]at h;split at h
     ·rename_i hr;exact key hr ⟨rfl,fun _=>rfl⟩
     grind
    |_=>simp[iq]at h
   |ow sub=>
    cases c with
    |ow s' u l=>
     simp only[iq]at h;split at h
     ·rename_i hr;exact key hr ⟨rfl,fun _=>rfl⟩
     grind
    |_=>simp[iq]at h
theorem DB{a b:Nm}:∀{ts:List T}{sh:List Sh}{cs:List C},ts.map T.canon=(bH sh cs).map Tt.toT->ts.map (T.ren a b)=ts
 |[],_,_,_=>rfl
 |t::ts,sh,cs,h=>by
  cases sh with
  |nil=>simp[bH]at h
  |cons s r=>cases cs with
   |nil=>grind [bH]
   |cons c cs=>
    have hd:∃t0:Tt,(∀p,t0≠.pl p)/\bH (s::r) (c::cs)=t0::bH r cs:=by
     cases s with
     |fr=>exact⟨.d c,(fun _ h=>by cases h),(by rfl)⟩
     |ow sub=>cases c with
      |li u l=>exact⟨.ow sub u l,(fun _ h=>by cases h),rfl⟩
      |_=>exact⟨.d _,(fun _ h=>by cases h),rfl⟩
    obtain⟨t0,h0,h1⟩:=hd;rw[h1]at h;simp only[af3,List.cons.injEq]at h;rw[af3,DB h.2]
    congr 1
    cases t with
    |pl p=>
     have:=h.1
     cases t0<;>grind [T.canon,Tt.toT]
    |_=>rfl
theorem ZF:∀(us:List U)(x:Fl us),(gC us x).toV.isFz=true:=by
 have one:∀(u:U)(x:El u),(B8 u x).toV.isFz=true:=by
  intro u x;cases u with
  |st n=>simp only[B8,A1.toV,AV1.isFz,ag6,List.all_map];exact agH.2 fun _ _=>rfl
  |_=>rfl
 have all:∀(us:List U)(x:Fl us),((gC.resL us x).map A1.toV).all AV1.isFz=true:=by
  intro us;induction us with
  |nil=>intro _;rfl
  |cons u r ih=>grind [gC.resL]
 intro us x
 match us,x with
 |[],_=>rfl
 |[u],x=>show(Bp u x).toV.isFz=true;rw[uQ];exact one u x
 |u::v::r,x=>exact all (u::v::r) x
end
theorem Uu(i k:Nat):Nat.beq (i+100000) (k+100000)=Nat.beq i k:=by
 cases h:Nat.beq i k<;>grind [af8,Nat.beq_refl]
theorem Jw(k:Nat)(t:List (Nat×Nat×At)):cw (shT t) (k+100000)=cw t k:=by
 induction t<;>grind [shT,cw,Uu]
theorem Jx{k:Nat}(hk:k < 100000)(t:List (Nat×Nat×At)):cw (shT t) k=none:=by
 induction t<;>grind [af8,shT,cw]
theorem Jy(k:Nat)(t:List (Nat×Nat×At)):cw (ri t) k=cw t (k+100000):=by
 induction t with
 |nil=>rfl
 |cons x r ih=>
  obtain⟨i,j,v⟩:=x;simp only[ri,cw];cases hb:Nat.ble 100000 i with
  |true=>
   have hi:100000<=i:=agD hb
   have e:Nat.beq (i - 100000) k=Nat.beq i (k+100000):=by
    have:=Uu (i - 100000) k
    rw[Nat.sub_add_cancel hi]at this;exact this.symm
   dsimp only;rw[cw,e];cases Nat.beq i (k+100000)with
   |true=>rfl
   |false=>exact ih
  |false=>
   have hi:¬ 100000<=i:=fun h=>by rw[Nat.ble_eq_true_of_le h]at hb;cases hb
   have e:Nat.beq i (k+100000)=false:=by
    cases h:Nat.beq i (k+100000)with
    |false=>rfl
    |true=>have:=af8 h;omega
   rw[e];exact ih
variable{b:List (Nat×Nat×At)}
theorem vU{nx k:Nat}:∀{l:List At}{i:Nat},i+l.length<=k->cw (BA nx i l++b) k=cw b k
 |[],_,_=>rfl
 |v::r,i,h=>by
  have e:Nat.beq i k=false:=by
   grind [af8]
  simp only[BA,ahS,cw,e];exact vU (by grind)
theorem xm{nx k:Nat}:∀{l:List At}{i:Nat}{v:At},i<=k->l[k-i]? = some v->cw (BA nx i l++b) k=some (nx,v)
 |[],_,_,_,h=>by simp at h
 |v::r,i,x,hi,h=>by
  simp only[BA,ahS,cw];rcases Nat.lt_or_eq_of_le hi with a|rfl
  ·have e:Nat.beq i k=false:=by
    grind [af8]
   rw[e];refine xm kQ1 ?_
   grind
  grind [Nat.beq_refl]
abbrev inS(s:St)(vs:List At):St:=⟨s.nx+1,BA s.nx 0 vs++shT s.t,s.m⟩
variable{vs:List At}
theorem abC{s:St}(hl:vs.length<=100000)(h:Ext (inS s vs) s'):Ext s ⟨s'.nx,ri s'.t,s'.m⟩:=by
 refine⟨ahK (agU _) h.nx,fun k j v hk hj=>?_,fun n j r hk hj=>h.m n j r hk (Nat.lt_succ_of_lt hj)⟩;rw[Jy]at hk;have:=h.t _ j v hk (Nat.lt_succ_of_lt hj)
 grind [vU,Jw]
theorem tX{P:Program}{s:St}{res:List ResultVar}{k k':St->At->Prop}(hl:vs.length<=100000)(hk:∀s' v,Ext s s'->k s' v->k' s' v)(a:Ext (inS s vs) s')(h:nH P res k s'):nH P res k' s':=by
 grind [nH,abC]
variable{nt:Nat}{w':World}
section
variable {g:G} {a:Act} {w:World} {H:FH} {γ:Gam} {F:Nm->Fp}
theorem OC{s:St}(hX:RX g s.toS a w H γ F){ys:List Value}(hl:ys.length=vs.length)(hv:∀(i:Nat) (v:At) (y:Value),vs[i]? = some v->ys[i]? = some y->AR w H γ s.toS.m v.toV y)(d:vs.length<=nt)(f:nt<=100000) :
  RX ⟨nt,g.w0,g.H0,g.own0,g.out,some (g.tv a),[]⟩ (inS s vs).toS ⟨ys.toArray++Array.replicate (nt-ys.toArray.size) undef,[]⟩ w H γ F:=by
 have b:(ys.toArray++Array.replicate (nt-ys.toArray.size) undef).size=nt:=by grind
 refine⟨hX.mem,hX.fr,b,⟨rfl,hX.df.2⟩,fun i=>?_⟩;rw[show aY (inS s vs).toS.t i=(gtA (BA s.nx 0 vs++shT s.t) i).toV from dl i _,jW];rcases ahN i vs.length with hi|hi
 ·rw[xm (agW i) (v:=vs[i]) (by grind)];have c:i<ys.length:=by omega
  rw[G.tv_lt (by grind)];have e:(ys.toArray++Array.replicate (nt-ys.toArray.size) undef).getD i undef=ys[i]:=by
   simp_all[ahF]
  rw[e];exact hv i _ _ (af1 hi) (af1 c)
 ·rw[vU kQ1];rcases ahN i 100000 with hb|hb
  ·rw[Jx hb];trivial
  ·obtain⟨j,rfl⟩:∃j,i=j+100000:=⟨i - 100000,by omega⟩
   rw[Jw,<- jW];have e:G.tv ⟨nt,g.w0,g.H0,g.own0,g.out,some (g.tv a),[]⟩ ⟨ys.toArray++Array.replicate (nt-ys.toArray.size) undef,[]⟩ (j+100000)=g.tv a j:=by
    unfold G.tv;dsimp only;rw[if_neg (by grind [TB])]
    simp_all[TB]
   rw[e,<- dl];exact hX.t j
theorem abH{s:St}(hX:RX g s.toS a w H γ F){ops:List Operand}(b:ops.all aG=true)(d:ops.length<=nt)(c:nt<=100000) :
  RX ⟨nt,g.w0,g.H0,g.own0,g.out,some (g.tv a),[]⟩ (inS s (ops.map (evA s))).toS ⟨(ops.map a.eval).toArray++Array.replicate (nt - (ops.map a.eval).toArray.size) undef,[]⟩ w H γ F:=by
 refine OC hX (by simp) (fun i v y hv hy=>?_) (by grind) c;rw[af5]at hv hy;obtain⟨x,hx,rfl⟩:=agG.1 hv;rw[hx]at hy;obtain rfl:=Option.some.inj hy;have hop:=agH.1 b x (ahA hx)
 have:=aJ hX hop
 grind [af]
theorem tc{s0:S}(hX:RX g s0 a w H γ F)(b:nt<=100000){a':Act}{H':FH}{γ':Gam}{F':Nm->Fp}(h:RX ⟨nt,g.w0,g.H0,g.own0,g.out,some (g.tv a),[]⟩ s'.toS a' w' H' γ' F') :
  RX g (⟨s'.nx,ri s'.t,s'.m⟩:St).toS a w' H' γ' F':=by
 refine⟨h.mem,h.fr,hX.nt,⟨hX.df.1,h.df.2⟩,fun i=>?_⟩;rw[show aY (⟨s'.nx,ri s'.t,s'.m⟩:St).toS.t i=(gtA (ri s'.t) i).toV from dl i _,jW,Jy,<- jW,<- dl];have:=h.t (i+100000)
 have e:G.tv ⟨nt,g.w0,g.H0,g.own0,g.out,some (g.tv a),[]⟩ a' (i+100000)=g.tv a i:=by
  have hs:a'.tmps.size=nt:=h.nt
  unfold G.tv;dsimp only;rw[if_neg (by grind [TB])]
  simp_all[TB]
 rw[e]at this;exact this
theorem We{P:Program}{v:A1}(h:Wc P m t x=some v):mE P m t x (fun w=>w=.one v):=by
 unfold Wc at h;grind [mE]
theorem Fi{P:Program}{s:St}(h:RX g s.toS a w H γ F):∀{rs:List ResultVar}{xs:List A1},Nt P s rs=some xs->∃ys,(rs.mapM (lN a.tmps)).run P w=.ok ys w/\ARs w H γ (toM s.m) (xs.map A1.toV) ys/\ys.length=rs.length/\xs.length=rs.length
 |[],xs,e=>by
  simp only[Nt,af0]at e;subst e;exact⟨[],rfl,trivial,rfl,rfl⟩
 |.tmp t::r,xs,e=>by
  simp only[Nt]at e;split at e
  ·rename_i x j h1 h2 h3;simp only[af0]at e;subst e;obtain⟨ys,k1,k2,k3,k4⟩:=Fi (P:=P) h h2;have b:=h.t t
   rw[show aY s.toS.t t=(gtA s.t t).toV from dl t s.t,h1,G.tv_lo (show t<TB from agD h3)]at b;have i:((r.mapM (lN a.tmps)).run P w)=.ok ys w:=k1
   refine⟨a.tmps.getD t undef::ys,?_,⟨b,k2⟩,by simp[k3],by simp[k4]⟩
   simp_all[lN]
  grind
 |.cell c t::r,xs,e=>by
  simp only[Nt]at e;split at e
  ·rename_i x j h1 h2 h3;simp only[af0]at e;subst e;obtain⟨ys,k1,k2,k3,k4⟩:=Fi (P:=P) h h2;have b:=h.t c
   rw[show aY s.toS.t c=(gtA s.t c).toV from dl c s.t,G.tv_lo (show c<TB from agD h3)]at b;have hl:mE P s.m t (gtA s.t c) (fun v=>v=.one x):=We h1
   obtain⟨z,d,B,_,f,l,n,rfl,rfl⟩:=Ap (P:=P) h.mem (Aq (fun q hq=>by
    rw[hq]at b;exact M1 b.2.1) hl) b
   replace f:=f w (fun _ _=>rfl)
   have i:((r.mapM (lN a.tmps)).run P w)=.ok ys w:=k1
   have k:(lN a.tmps (.cell c t)).run P w=.ok z w:=by
    simp only[lN];simp only[Instr.loadAt]at f;generalize a.tmps.getD c undef=u at f;cases u with
    |pointer ad=>
     cases ad with
     |some ad=>grind [asAddr,Instr.sureAddr]
     |none=>simp[Instr.sureAddr]at f
    |_=>simp[Instr.sureAddr]at f
   refine⟨z::ys,?_,⟨l,k2⟩,by simp[k3],by simp[k4]⟩
   simp_all
  grind
theorem O6{P:Program}{fn:Func}{s:St}{k:St->At->Prop}(h:RX g s.toS a w H γ F)(hk:nH P fn.results.toList k s) :
  ∃y v,(results fn a.tmps).run P w=.ok y w/\AR w H γ (toM s.m) v.toV y/\k ⟨s.nx,ri s.t,s.m⟩ v:=by
 unfold nH at hk;split at hk
 ·rename_i xs hx;obtain⟨ys,k1,k2,k3,k4⟩:=Fi (P:=P) h hx;have b:(results fn a.tmps).run P w=.ok (if h:ys.toArray.size=1 then ys.toArray[0]else .tuple ys.toArray) w:=by
   simp_all[kI,Array.mapM_eq_mapM_toList]
  refine⟨_,_,b,?_,hk⟩
  match xs,ys,k2 with
  |[],[],_=>exact⟨#[],by simp,trivial⟩
  |[x],[y],k2=>exact k2.1
  |f::e::xs,c::d::ys,k2=>exact⟨(c::d::ys).toArray,by simp,by omega⟩
 grind
end
theorem Ba{P:Program}{f:Nat}{fn:Func}(hf:P.funcs[f]? = some fn) (a:(fn.name == "runtime.NumGoroutine")=false) (hb:fn.body.isSome=true):∀args w,(callFunc f args).run P w=.ok (.enter f args) w:=by
 intro args w;have h1:fn.name ≠ "runtime.NumGoroutine" := by grind
 obtain⟨c,h⟩:=Option.isSome_iff_exists.1 hb
 simp_all[callFunc]
variable{an:An}
theorem Ti{e:En}(he:e.ok)(A:e.P.follows .mixedOrders=true){f:Nat}{fn:Func}(hf:e.P.funcs[f]? = some fn) (j:(fn.name == "runtime.NumGoroutine")=false) (hb:fn.body.isSome=true) 
  (hc:jI fn.ntmps (fn.body.getD .skip)=true) (z:Nat.ble fn.ntmps 100000=true):Cont e.P f (YV e fn an):=by
 have r:fn.body=some (fn.body.getD .skip):=by cases h:fn.body<;>grind
 have d:=agD z
 refine⟨Ba hf j hb,fun pk s ops k k' hk b=>?_,fun g pk s a w H γ F ops k hX p b=>?_⟩
 ·unfold YV at b⊢;split at b
  ·rename_i l;have hl:(ops.map (evA s)).length<=100000:=by rw[af7];exact ahK (agD l) d
   exact yp (e:=⟨e.P,e.E,e.cs,e.sh,fun v s=>pk v ⟨s.nx,ri s.t,s.m⟩⟩) he _ an _ ⟨nH e.P fn.results.toList k,fun _ _=>False,nH e.P fn.results.toList k⟩ ⟨nH e.P fn.results.toList k',fun _ _=>False,nH e.P fn.results.toList k'⟩ (fun s' u h=>tX hl hk u h) (fun _ _ _ h=>h) (fun s' u h=>tX hl hk u h) b
  omega
 ·unfold YV at b;split at b
  ·rename_i l;have o:=agD l
   refine calls_of_wp hf r (Code.wp_mono (fun x a' w' hl=>?_) (oH (e:=⟨e.P,e.E,e.cs,e.sh,fun v s=>pk v ⟨s.nx,ri s.t,s.m⟩⟩) he A (g:=⟨fn.ntmps,g.w0,g.H0,g.own0,g.out,some (g.tv a),[]⟩) _ an _ _ hc b _ w ⟨H,γ,F,abH hX p o d⟩));obtain⟨s',hq,H',γ',F',hX'⟩:=hl;have fin:∀t:St,s'=t.toS->nH e.P fn.results.toList k t->a'.defers=[]/\∃v,(results fn a'.tmps).run e.P w'=.ok v w'/\mg g a pk k (.returned v) w':=by
    rintro t rfl n
    obtain⟨y,v,k1,k2,k3⟩:=O6 (P:=e.P) hX' n;exact⟨hX'.df.1,y,k1,.inl ⟨y,_,v,H',γ',F',rfl,k3,k2,tc hX d hX'⟩⟩
   cases x with
   |normal=>obtain⟨t,q,n⟩:=hq;exact fin t q n
   |ret=>obtain⟨t,q,n⟩:=hq;exact fin t q n
   |exit i=>obtain⟨t,q,n⟩:=hq;grind
   |panic c=>
    obtain⟨v,t,rfl,rfl,hv⟩:=hq;exact⟨hX'.df.1,.inr ⟨v,_,rfl,hv,H',γ',F',tc hX d hX'⟩⟩
   |_=>exact hq.elim
  grind
theorem Th{e:En}(he:e.ok)(N:e.P.follows .mixedOrders=true){f:Nat}{fn:Func}(hf:e.P.funcs[f]? = some fn) (I:(fn.name == "runtime.NumGoroutine")=false) (hb:fn.body.isSome=true) 
  (hc:jI fn.ntmps (fn.body.getD .skip)=true) (K:Nat.ble fn.ntmps 100000=true):ContC e.P (f+1000000) (YU e fn an):=by
 have D:fn.body=some (fn.body.getD .skip):=by cases h:fn.body<;>grind
 have j:=agD K
 refine⟨by omega,by grind [Ba],fun pk s ops k k' hk d=>?_,fun g pk s a w H γ F t ops k ps hX u n l d=>?_⟩
 ·unfold YU at d⊢;split at d
  ·rename_i _ os;split at d
   ·rename_i c M;split at d
    ·rename_i q;have hl:(os.map (evA s)++c.caps.map Yw).length<=100000:=by rw[af6,af7,af7];exact ahK (agD q) j
     exact yp (e:=⟨e.P,e.E,e.cs,e.sh,fun v s=>pk v ⟨s.nx,ri s.t,s.m⟩⟩) he _ an _ ⟨nH e.P fn.results.toList k,fun _ _=>False,nH e.P fn.results.toList k⟩ ⟨nH e.P fn.results.toList k',fun _ _=>False,nH e.P fn.results.toList k'⟩ (fun s' J h=>tX hl hk J h) (fun _ _ _ h=>h) (fun s' J h=>tX hl hk J h) d
    omega
   omega
  omega
 ·rw[Nat.add_sub_cancel]at l⊢;unfold YU at d;dsimp only at d;split at d
  ·rename_i c M;split at d
   ·rename_i q;have L:=agD q
    have h3:=hX.t t
    rw[G.tv_lo n,show aY s.toS.t t=(gtA s.t t).toV from dl t s.t,M,l]at h3;obtain⟨_,m,h3⟩:=h3;cases m with
    |zero=>exact h3.elim
    |succ m=>
    obtain⟨r,h4,h5,h6⟩:=h3;obtain rfl:ps=r.toArray:=by grind
    rw[af7]at h5;have z:(ops.map a.eval++r).length=(ops.map (evA s)++c.caps.map Yw).length:=by simp[h5]
    have B:=OC hX (vs:=ops.map (evA s)++c.caps.map Yw) (ys:=ops.map a.eval++r) z (fun i v y hv hy=>by
     rcases ahN i ops.length with hi|hi
     ·rw[List.getElem?_append_left (by grind),af5]at hv hy;obtain⟨x,hx,rfl⟩:=agG.1 hv;rw[hx]at hy;obtain rfl:=Option.some.inj hy;have hop:=agH.1 u x (ahA hx)
      have:=aJ hX hop
      grind [af]
     ·rw[List.getElem?_append_right (by grind)]at hv hy;simp only[af7]at hv hy;rw[af5]at hv;obtain⟨x,hx,rfl⟩:=agG.1 hv;obtain⟨b,o,k1,k2⟩:=h6 _ x.enc y (by grind) hy;refine⟨fun _=>rfl,b,o,m,by omega,?_⟩;have e:(flat (.st (Ej x).1) (Ej x).2).map C.toD=x.enc:=by rw[bX];exact U2 x
      rw[e];exact k2) (by grind) j
    have p:(ops.map a.eval).toArray++r.toArray=(ops.map a.eval++r).toArray:=by simp
    rw[p];refine calls_of_wp hf D (Code.wp_mono (fun x a' w' hl=>?_) (oH (e:=⟨e.P,e.E,e.cs,e.sh,fun v s=>pk v ⟨s.nx,ri s.t,s.m⟩⟩) he N (g:=⟨fn.ntmps,g.w0,g.H0,g.own0,g.out,some (g.tv a),[]⟩) _ an _ _ hc d _ w ⟨H,γ,F,B⟩));obtain⟨s',hq,H',γ',F',hX'⟩:=hl;have fin:∀t:St,s'=t.toS->nH e.P fn.results.toList k t->a'.defers=[]/\∃v,(results fn a'.tmps).run e.P w'=.ok v w'/\mg g a pk k (.returned v) w':=by
     rintro t rfl n
     obtain⟨y,v,k1,k2,k3⟩:=O6 (P:=e.P) hX' n;exact⟨hX'.df.1,y,k1,.inl ⟨y,_,v,H',γ',F',rfl,k3,k2,tc hX j hX'⟩⟩
    cases x with
    |normal=>obtain⟨t,A,n⟩:=hq;exact fin t A n
    |ret=>obtain⟨t,A,n⟩:=hq;exact fin t A n
    |exit i=>obtain⟨t,A,n⟩:=hq;grind
    |panic c=>
     obtain⟨v,t,rfl,rfl,hv⟩:=hq;exact⟨hX'.df.1,.inr ⟨v,_,rfl,hv,H',γ',F',tc hX j hX'⟩⟩
    |_=>exact hq.elim
   grind
  grind
theorem Tl{P:Program}{f t:Nat}{C D:CKt}(h1:Cont P f C)(h2:Cont P f D):Cont P f (ZN t C D):=by
 refine⟨h1.run,fun pk s ops k k' hk hc=>?_,fun g pk s a w H γ F ops k hX b hc=>?_⟩
 ·unfold ZN at hc⊢;split at hc
  ·split at hc
   ·exact h1.ext pk s _ k k' hk hc
   ·exact h2.ext pk s _ k k' hk hc
  ·exact h2.ext pk s _ k k' hk hc
 ·unfold ZN at hc
  grind [Cont.call,Cont.call]
variable{ps:List U}
section
variable {g:G} {s1:S} {a:Act} {w:World} {H1:FH} {γ:Gam} {F1:Nm->Fp}
theorem XN(h1:RX g s1 a w H1 γ F1){w':World}{e:FH}{tt:Fp}(c:Fr w H1 (fun _=>0) w' e tt)(l:∀b o y,e b o=some y->RdV w' b o y):RX g s1 a w' e γ F1:=by
 have hold:∀b,b<w.heap.size->w'.heap[b]? = w.heap[b]? := fun b hb=>c.block b hb rfl
 have hnew:∀b,b<w.heap.size->H1 b=e b:=by
  intro b hb
  funext o
  cases hc:H1 b o with
  |some y=>rw[c.hold b o y hc]
  |none=>
   cases n:e b o with
   |none=>rfl
   |some y=>
    rcases c.hnew b o (by grind) hc with h'|h'
    all_goals omega
 have d:∀b,tot F1 s1.m b≠0->w'.heap[b]? = w.heap[b]? := fun b hb=>hold b (h1.mem.lt b hb)
 have f:=gl (w':=w') h1.mem d
 have j:Mem w' e γ s1.m F1:=by
  refine⟨l,fun x hx=>be f c.hold rfl (fun b hb=>d b (by grind [bR])) (h1.mem.roots x hx),h1.mem.keys,h1.mem.le1,fun b hb=>by have:=h1.mem.lt b hb;grind,fun b hb o=>?_⟩;rw[<- hnew b (h1.mem.lt b hb)];exact h1.mem.nofz b hb o
 have k:Fr w H1 (tot F1 s1.m) w' e (tot F1 s1.m):=
  ⟨c.size,c.os,c.tape,c.output,fun b hb _=>hold b hb,c.hold,fun b o h2 h3=>by
   grind,fun b hb=>.inl hb,c.nz⟩
 exact jE h1 j k (fun i=>dv f c.hold (h1.t i)) (fun _=>rfl)
theorem Gz(a:∀b o y,H1 b o=some y->RdV w b o y)(c:Globs H1){args:List Value}{x:Fl ps}(hl:args.length=ps.length)(d:∀(i:Nat) v,(kS ps x)[i]? = some v->∃y,args[i]? = some y/\AR w H1 γ [] v y)(f:ps.length<=nt) :
  RX ⟨nt,w,H1,fun _=>0,fun _=>none,none,[]⟩ (LZ ps x).toS ⟨args.toArray++Array.replicate (nt-args.toArray.size) undef,[]⟩ w H1 γ F1:=by
 rw[show(LZ ps x).toS=⟨dQ 0 (kS ps x),[]⟩from bV.S_ext (tR 0 ps x) rfl];refine⟨⟨a,fun x hx=>(by cases hx),by simp,fun b=>agW _,fun b hb=>absurd rfl hb,fun b hb=>absurd rfl hb⟩,⟨af2 _,rfl,rfl,rfl,fun _ _ _=>rfl,fun _ _ _ h=>h,fun b o h2 h3=>absurd h3 h2,fun b hb=>absurd rfl hb,qH⟩,by simp;omega,⟨rfl,fun j b e=>by simp at e,c⟩,fun i=>?_⟩;show AR w H1 γ [] (aY (dQ 0 (kS ps x)) i) (Array.getD _ i undef)
 rw[jg];simp only[agW,if_true,Nat.sub_zero];cases hi:(kS ps x)[i]? with
 |none=>trivial
 |some v=>
  obtain⟨y,h1,h2⟩:=d i v hi;have e:(args.toArray++Array.replicate (nt-args.toArray.size) undef).getD i undef=y:=by
   rw[ahM,ahF (by simpa using bY h1)];simp[h1]
  rw[e];exact h2
end
def Mo{α β γ:Type}(a:α->(β->Prop)->γ->Prop):Prop:=∀x K K' P,(∀y,K y->K' y)->a x K P->a x K' P
theorem DW{P:Program}{f:Nat}{rs:List U}{p:Fl ps->(Fl rs->Prop)->(Value->Prop)->Prop}(mo:Mo p)(j:∀args w,(callFunc f args).run P w=.ok (.enter f args) w)
  (c:∀(x:Fl ps)K KP(args:List Value)(w:World)(H:FH)(γ:Gam),p x K KP->args.length=ps.length->(∀(i:Nat)v,(kS ps x)[i]? = some v->∃y,args[i]? = some y/\AR w H γ [] v y)->Globs H->(∀b o y,H b o=some y->RdV w b o y) ->
   Calls P f args.toArray w (fun e w'=>∃d tt,Fr w H (fun _=>0) w' d tt/\(∀b o y,d b o=some y->RdV w' b o y)/\((∃r y,e=.returned r/\K y/\AR w' d γ [] (gC rs y).toV r)\/∃v,e=.panicked (chn v)/\KP v))):Cont P f (phT ps rs p):=by
 refine⟨j,fun pk s ops k k' hk hc=>?_,fun g pk s a w H γ F1 ops k hX l hc=>?_⟩
 ·unfold phT at hc⊢;dsimp only at hc⊢;split at hc
  ·exact mo _ _ _ _ (fun y hy=>hk _ _ (eX _ _) hy) hc
  ·exact hc.elim
 ·unfold phT at hc;dsimp only at hc;obtain⟨H1,q,h1⟩:=ka (ops.map (evA s)) s H F1 hX;generalize eL s (ops.map (evA s))=s1 at hc h1;split at hc
  ·rename_i x hx;obtain⟨t,c2,c3⟩:=kg hx;have hl:ops.length=ps.length:=by
    have:=congrArg List.length c3
    grind [i9]
   refine(c x _ _ (ops.map a.eval) w H1 γ hc (by simpa using hl) (fun i v hi=>?_) (j9 h1) h1.mem.agree).mono ?_
   ·rw[<- c3,af5,af5,af5]at hi;cases ho:ops[i]? with
    |none=>simp[ho]at hi
    |some y=>
     have hop:=agH.1 l y (ahA ho)
     have hy:=aJ h1 hop
     rw[af hop]at hy;have hz:(evA s1 y).toV.isFz=true:=by grind
     rw[ho]at hi;obtain rfl:=Option.some.inj hi;exact⟨a.eval y,by simp[ho],iv fa (yy (fun _ _ _ h=>h) hz hy)⟩
   ·rintro e w' ⟨d,tt,n,m,h⟩
    have hb:=XN h1 n m
    rcases h with⟨r,y,rfl,hk,har⟩|⟨v,rfl,hk⟩
    ·exact .inl ⟨r,s1,_,d,γ,q,rfl,hk,yy (fun _ _ _ h=>h) (ZF _ _) har,hb⟩
    ·exact .inr ⟨v,s1,rfl,hk,d,γ,q,hb⟩
  ·exact hc.elim
theorem FU{P:Program}{f:Nat}{rs:List U}{d b:Fl ps->(Fl rs->Prop)->(Value->Prop)->Prop}(mo:Mo b)(hi:∀x K KP,b x K KP->d x K KP)(h:Cont P f (phT ps rs d)):Cont P f (phT ps rs b):=by
 have key:∀pk s ops k,phT ps rs b pk s ops k->phT ps rs d pk s ops k:=by
  intro pk s ops k hc;unfold phT at hc⊢;dsimp only at hc⊢;split at hc
  ·exact hi _ _ _ hc
  ·exact hc
 refine⟨h.run,fun pk s ops k k' hk hc=>?_,fun g pk s a w H γ F1 ops k hX c hc=>h.call g pk s a w H γ F1 ops k hX c (key _ _ _ _ hc)⟩;unfold phT at hc⊢;dsimp only at hc⊢;split at hc
 ·exact mo _ _ _ _ (fun y hy=>hk _ _ (eX _ _) hy) hc
 ·exact hc.elim
theorem PC{g:G}{P:Program}{fn:Func}{rs:List U}{K:Fl rs->Prop}{t:St}{a':Act}(m:uD P fn.results.toList rs K t)(j:R g t.toS a' w')(h0:g.ex=none) :
  ∃v c tt y,(results fn a'.tmps).run P w'=.ok v w'/\Fr g.w0 g.H0 g.own0 w' c tt/\(∀b o y,c b o=some y->RdV w' b o y)/\K y/\(∀γ,AR w' c γ [] (gC rs y).toV v)/\a'.defers=g.dfs:=by
 obtain⟨s2,e,c,q,A,d⟩:=Fk (K:=fun r=>∃y,r=(gC rs y).toV/\K y) (fun r hr=>⟨r,rfl,hr⟩) m j;obtain⟨y,v,x,k,z,s,f,n,l,u,p,i⟩:=Fh d h0 e;refine⟨y,k,_,u,s,f.fr,f.mem.agree,i,fun γ=>?_,f.df.1⟩;rw[<- p];exact iv fa (yy (fun _ _ _ h=>h) l n)
theorem Tk{e:En}(he:e.ok)(O:e.P.follows .mixedOrders=true){f:Nat}{fn:Func}(hf:e.P.funcs[f]? = some fn) (g:(fn.name == "runtime.NumGoroutine")=false) (hb:fn.body.isSome=true)  {rs:List U} {z:Fl ps->(Fl rs->Prop)->(Value->Prop)->Prop} (mo:Mo z)
  (m:Nat.ble ps.length fn.ntmps=true) (hc:jI fn.ntmps (fn.body.getD .skip)=true) (q:∀x K KP,z x K KP->∃K' d,(∀y,K' y->K y)/\(∀v,d v->KP v)/\vm e fn an ps rs x K' d):Cont e.P f (phT ps rs z):=by
 have A:fn.body=some (fn.body.getD .skip):=by cases h:fn.body<;>grind
 refine DW mo (Ba hf g hb) fun x K KP args w H γ hp hl D J p=>?_
 have hX0:=Gz (F1:=fun _ _=>0) p J hl D (nt:=fn.ntmps) (agD m)
 obtain⟨K',d,C,n,h⟩:=q x K KP hp;refine calls_of_wp hf A (Code.wp_mono (fun ex a' w' hl=>?_) (oH (e:=⟨e.P,e.E,e.cs,e.sh,fun v _=>d v⟩) he O _ an _ _ hc h _ w ⟨H,γ,_,hX0⟩));obtain⟨s',hq,B⟩:=hl;have fin:∀t:St,s'=t.toS->uD e.P fn.results.toList rs K' t->a'.defers=[]/\∃v,(results fn a'.tmps).run e.P w'=.ok v w'/\∃l tt,Fr w H (fun _=>0) w' l tt/\(∀b o y,l b o=some y->RdV w' b o y)/\((∃r y,Ending.returned v=.returned r/\K y/\AR w' l γ [] (gC rs y).toV r)\/∃u,Ending.returned v=.panicked (chn u)/\KP u):=by
  rintro t rfl j
  obtain⟨v,l,tt,y,k,L,I,N,G,M⟩:=PC j B rfl;exact⟨M,v,k,l,tt,L,I,.inl ⟨v,y,rfl,C y N,G γ⟩⟩
 cases ex with
 |normal=>obtain⟨t,k,j⟩:=hq;exact fin t k j
 |ret=>obtain⟨t,k,j⟩:=hq;exact fin t k j
 |exit i=>obtain⟨t,k,j⟩:=hq;exact j.elim
 |panic c=>
  obtain⟨v,t,rfl,rfl,hv⟩:=hq;obtain⟨H',γ',F',hX'⟩:=B;exact⟨hX'.df.1,H',_,hX'.fr,hX'.mem.agree,.inr ⟨v,rfl,n v hv⟩⟩
 |_=>exact hq.elim
theorem sY{e:En}(he:e.ok)(g:e.P.follows .mixedOrders=true){f:Nat}{fn:Func}(hf:e.P.funcs[f]? = some fn) (a:(fn.name == "runtime.NumGoroutine")=false) (hb:fn.body.isSome=true)  {rs:List U} {d:Fl ps->(Fl rs->Prop)->(Value->Prop)->Prop} (mo:Mo d)
  (b:Nat.ble ps.length fn.ntmps=true) (hc:jI fn.ntmps (fn.body.getD .skip)=true) (c:∀x KK KP,d x KK KP->vm e fn an ps rs x KK KP):Cont e.P f (phT ps rs d):=
 Tk he g hf a hb mo b hc fun x K KP h=>⟨K,KP,fun _ h=>h,fun _ h=>h,c x K KP h⟩
theorem DV{P:Program}{f:Nat}{rs:List U}{F:Fl ps->Fl rs}(h:Cont P f (xr ps rs (fun _=>True) F)):Cont P f (AU ps rs F):=FU (fun _ _ _ _ h h'=>h _ h') (fun _ _ _ h=>⟨trivial,h⟩) h
end Go.Am
end

section
namespace Go.Am
open Go Go.RowKit Go.Proofs
variable{H:FH}{f:Nat}{l:List UInt8}{ps rs:List U}{w:World}{γ:Gam}{pre:Fl ps->Prop}
section
variable {P:Program}
theorem TV{w':World}{a:FH}(hb:Below w.heap.size w w')(e:∀b o y,H b o=some y->a b o=some y)(hn:∀b o,a b o≠none->H b o=none->w.heap.size<=b)(d:∀b o x l c,a b o=some (.c (.slice x l c))->H b o=none->Thawed w' b):Fr w H (fun _=>0) w' a (fun _=>0):=
 ⟨hb.size,hb.os,hb.tape,hb.output,fun b h _=>hb.block b h,e,fun b o h2 h3=>.inr (hn b o h2 h3),fun b hb=>absurd rfl hb,fun b h0=>h0.of_block (hb.block b h0.lt),d⟩
theorem wG{post:Fl ps->Fl rs->Prop}(g:∀args w,(callFunc f args).run P w=.ok (.enter f args) w)
  (d:∀(x:Fl ps)(args:List Value)(w:World)(H:FH)(γ:Gam),pre x->args.length=(kS ps x).length->(∀(i:Nat)v,(kS ps x)[i]? = some v->∃y,args[i]? = some y/\AR w H γ [] v y)->Globs H ->
   (∀b o y,H b o=some y->RdV w b o y) ->
   Calls P f args.toArray w (fun e w'=>∃r a y,e=.returned r/\post x y/\Below w.heap.size w w'/\(∀b o y,H b o=some y->a b o=some y)/\(∀b o,a b o≠none->H b o=none->w.heap.size<=b)/\(∀b o x l c,a b o=some (.c (.slice x l c))->H b o=none->Thawed w' b) /\
    (∀b o y,a b o=some y->RdV w' b o y)/\AR w' a γ [] (gC rs y).toV r)):Cont P f (phT ps rs fun x K _=>pre x/\∀y,post x y->K y):=
 DW (fun _ _ _ _ h h'=>⟨h'.1,fun y hy=>h y (h'.2 y hy)⟩) g fun x K KP args w H γ hp hl k m j=>(d x args w H γ hp.1 (hl.trans (i9 ps x).symm) k m j).mono fun e w'⟨r,a,y,h1,hy,h2,h3,h4,hz,h5,h6⟩=>⟨a,_,TV h2 h3 h4 hz,h5,.inl ⟨r,y,h1,hp.2 y hy,h6⟩⟩
theorem iw{F:Fl ps->Fl rs}(g:∀args w,(callFunc f args).run P w=.ok (.enter f args) w)
  (d:∀(x:Fl ps)(args:List Value)(w:World)(H:FH)(γ:Gam),pre x->args.length=(kS ps x).length->(∀(i:Nat)v,(kS ps x)[i]? = some v->∃y,args[i]? = some y/\AR w H γ [] v y)->Globs H ->
   (∀b o y,H b o=some y->RdV w b o y) ->
   Calls P f args.toArray w (fun e w'=>∃r a,e=.returned r/\Below w.heap.size w w'/\(∀b o y,H b o=some y->a b o=some y)/\(∀b o,a b o≠none->H b o=none->w.heap.size<=b)/\(∀b o x l c,a b o=some (.c (.slice x l c))->H b o=none->Thawed w' b) /\
    (∀b o y,a b o=some y->RdV w' b o y)/\AR w' a γ [] (gC rs (F x)).toV r)):Cont P f (xr ps rs pre F):=
 FU (fun _ _ _ _ h h'=>⟨h'.1,h _ h'.2⟩) (fun x K KP h=>⟨h.1,fun y e=>e ▸ h.2⟩) (wG (post:=fun x y=>y=F x) g fun x args w H γ hp hl k m j=>(d x args w H γ hp hl k m j).mono fun e w'⟨r,a,h1,h⟩=>⟨r,a,_,h1,rfl,h⟩)
theorem gf{fn:Func}(hf:P.funcs[f]? = some fn) (a:(fn.name == "runtime.NumGoroutine")=false) (hb:fn.body.isSome=true) (args:Array Value) (w:World):(callFunc f args).run P w=.ok (.enter f args) w:=by
 have h1:fn.name ≠ "runtime.NumGoroutine" := by grind
 cases hc:fn.body with
 |none=>grind
 |some c=>simp_all[callFunc]
theorem kV{y:Value}(h:AR w H γ [] (.one (.c (.d (.str l)))) y):y=.string ⟨l.toArray⟩/\l.length<=BIG:=by
 obtain⟨_,m,h⟩:=h;cases m<;>exact h
theorem FP{m:Mm}(h:l.length<=BIG):AR w H γ m (.one (.c (.d (.str l)))) (.string ⟨l.toArray⟩):=⟨fun _=>rfl,0,rfl,h⟩
theorem qe(l:List UInt8):(⟨l.toArray⟩:ByteArray).data.toList=l:=by simp
theorem tD(l:List UInt8):(⟨l.toArray⟩:ByteArray).size=l.length:=by rfl
theorem ON{args:List Value}{x y:AV}(hl:args.length=2)(a:∀(i:Nat) v,[x,y][i]? = some v->∃y,args[i]? = some y/\AR w H γ [] v y):∃u v,args=[u,v]/\AR w H γ [] x u/\AR w H γ [] y v:=by
 match args,hl with
 |[u,v],_=>
  obtain⟨u',h1,h2⟩:=a 0 x rfl;obtain⟨b,h3,h4⟩:=a 1 y rfl
  grind
theorem GV(B:Nat)(w:World)(n:Nat):Below B w (w.drewN n):=⟨rfl,rfl,rfl,af2 _,fun _ _=>rfl⟩
theorem Da(c:Globs H)(a:∀b o y,H b o=some y->RdV w b o y){k:Nat}(hk:Zh=some k):∃n,w.cell? ⟨k,0,none⟩=some (.int .i64 n):=by
 obtain⟨n,m,h⟩:=c.2 k hk;obtain⟨y,h1,h2⟩:=h 0 (by simp);have h2:FD H m (.int .i64 n) y:=h2
 have:y=.int .i64 n:=by cases m<;>exact h2.1
 subst this;exact⟨n,a k 0 _ h1⟩
end
end Go.Am
end
