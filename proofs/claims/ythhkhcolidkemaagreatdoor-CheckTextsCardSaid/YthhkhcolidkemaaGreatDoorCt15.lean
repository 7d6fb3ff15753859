/-
  Part 15: AmIt · AmE3i · AmE5 · AmE6 · AmE7 · AmE8 · AmE9 · AmE10 · AmE11 · AmOwnCon · AmE12 · AmE14 · AmLib.
-/
import Derived.Test.YthhkhcolidkemaaGreatDoorCt14
import Derived.Maps.RangeRun
set_option linter.unusedSimpArgs false
set_option linter.unusedVariables false
set_option linter.unusedSectionVars false
set_option linter.unnecessarySimpa false
section
namespace Go.Am
open MapKept
open Go.ChangeMaps (setBlock)
theorem PY{H:FH}:∀{l:List (D×D)}{es:List MapEntry},ItL H l es->l.length=es.length
 |[],[],_=>rfl
 |_::_,_::_,h=>by simp[PY h.2]
 |[],_::_,h=>h.elim
 |_::_,[],h=>h.elim
theorem PX{H:FH}:∀{l:List (D×D)}{es:List MapEntry},ItL H l es->∀{i:Nat}{e:MapEntry},es[i]? = some e->∃x,l[i]? = some x/\x.1.isKey=true/\FDx H x.1 e.key/\FDx H x.2 e.val
 |x::l,e0::es,h,i,e,a=>by
  cases i with
  |zero=>
   obtain rfl:e0=e:=by grind
   exact⟨x,rfl,h.1⟩
  |succ i=>exact PX h.2 (by grind)
 |[],[],_,i,e,a=>by grind
 |[],_::_,h,_,_,_=>h.elim
 |_::_,[],h,_,_,_=>h.elim
theorem C2{H:FH}:∀{l:List (D×D)}{es:List MapEntry},ItL H l es->∀i,ItL H (l.eraseIdx i) (es.eraseIdx i)
 |[],[],_,i=>by grind
 |x::l,e::es,h,i=>by
  cases i with
  |zero=>exact h.2
  |succ i=>exact⟨h.1,C2 h.2 i⟩
 |[],_::_,h,_=>h.elim
 |_::_,[],h,_=>h.elim
theorem zZ:∀{L:List MapEntry}{i:Nat}{e:MapEntry},(L.map (·.born)).Nodup->L[i]? = some e->L.filter (λx=>!(x.born==e.born))=L.eraseIdx i
 |[],i,e,_,h=>by rfl
 |x::L,i,e,hn,h=>by
  simp only[akM,al2]at hn;cases i with
  |zero=>grind [List.filter_eq_self]
  |succ i=>
   have h:L[i]? = some e:=by grind
   have a:x.born≠e.born:=λb=>hn.1 (b ▸ List.mem_map_of_mem (alL h))
   simp only[List.filter_cons,List.eraseIdx_cons_succ];rw[if_pos (by grind),zZ hn.2 h]
theorem We{H:FH}{m:Nat}:∀{l:List (D×D)}{es:List MapEntry},es.length=l.length->(∀(i:Nat)(x:D×D)(y:MapEntry),l[i]? = some x->es[i]? = some y->FD H m x.1 y.key/\FD H m x.2 y.val)->(∀e∈l,e.1.isKey=true)->ItL H l es
 |[],[],_,_,_=>trivial
 |x::l,e::es,hl,h,hk=>by
  have h0:=h 0 x e rfl rfl
  exact⟨⟨hk x (by simp),⟨m,h0.1⟩,m,h0.2⟩,We (by grind) (λi a b c hb=>h (i+1) a b (by grind) (by grind)) (λa c=>hk a (by simp[c]))⟩
 |[],_::_,h,_,_=>by simp at h
 |_::_,[],h,_,_=>by simp at h
variable{cur:Option (D×D)}{n:Nm}{rest:List (D×D)}
section
variable {P:Program} {g:G} {s:S} {a:Act} {w:World} {H:FH} {γ:Gam} {F:Nm->Fp}
theorem Wo(h:RX g s a w H γ F){z:Option (List (D×D))}{v:Value}(hv:FDx H (.mp z) v)(hk:∀e∈z.getD [],e.1.isKey=true)(hno:n.isOut=false)(hn:ah s.m n=none){t kt et:TypeId}(i:P.underlying t=some (.map kt et)) :
  ∃w' γ' F',(Instr.range t v).run P w=.ok (.pointer (some ⟨w.heap.size,0,none⟩)) w'/\RX g ⟨s.t,(n,⟨false,[.it none (z.getD [])]⟩)::s.m⟩ a w' H γ' F'/\γ' n=.gh (.pointer (some ⟨w.heap.size,0,none⟩)):=by
 have d:∀o:Obj,(∃q a c,o=.mapIter q a #[] c/\ItR H none (z.getD []) q a #[] c)->∃γ' F',RX g ⟨s.t,(n,⟨false,[.it none (z.getD [])]⟩)::s.m⟩ a (w.alloc o) H γ' F'/\γ' n=.gh (.pointer (some ⟨w.heap.size,0,none⟩)):=by
  rintro o ⟨q,a',c,rfl,hi⟩
  have hold:∀k,k<w.heap.size->(w.alloc (.mapIter q a' #[] c)).heap[k]? = w.heap[k]? := λk hk=>dl hk
  have h1:=pQ h (w':=w.alloc (.mapIter q a' #[] c)) (by simp) rfl rfl rfl (λb hb=>.inl (hold b hb))
  have hz:tot F s.m w.heap.size=0:=by
   rcases alI (tot F s.m w.heap.size)with h'|h'
   .exact h'
   have:=h.mem.lt w.heap.size kQ1;omega
  refine eE h1 hno hn (v:=.pointer (some ⟨w.heap.size,0,none⟩)) (t:=.it none (z.getD [])) (f:=λb=>if b=w.heap.size then 1 else 0) ⟨w.heap.size,q,a',#[],c,rfl,bL,hi,λ_=>rfl⟩ (λb=>?_) (λb hb=>?_) (λb hb=>?_)
  .by_cases e:b=w.heap.size
   .grind
   rw[if_neg e];have:=h.mem.le1 b;omega
  .have e:b=w.heap.size:=by grind
   subst e;refine⟨by simp,λo=>?_⟩;cases hc:H w.heap.size o with
   |none=>rfl
   |some y=>have:=(h.mem.agree _ _ _ hc).lt;omega
  right
  have e:b=w.heap.size:=by grind
  have:=h.fr.size
  omega
 cases z with
 |none=>
  have hv:v=.map none:=by obtain⟨m,hv⟩:=hv;cases m<;>exact hv
  subst hv;obtain⟨γ',F',h1,h2⟩:=d (.mapIter none 0 #[] 0) ⟨_,_,_,rfl,rfl,rfl⟩;exact⟨_,γ',F',by simp_all[Instr.range,run_underlying],h1,h2⟩
 |some l=>
  obtain⟨m,hv⟩:=hv;cases m with
  |zero=>exact hv.elim
  |succ m=>obtain⟨b,es,ck,rfl,k2,k3,k4⟩:=hv;obtain⟨k5,k6⟩:=h.mem.agree b 0 _ k2;obtain⟨γ',F',h1,h2⟩:=d (.mapIter (some b) ck #[] ck) ⟨_,_,_,rfl,es,ck,k2,rfl,rfl,by rw[List.filter_eq_self.2 (λe _=>by simp)];exact We k3 k4 hk,trivial⟩;exact⟨_,γ',F',by simp_all[Instr.range,run_underlying,getObj,Sem.run],h1,h2⟩
theorem afD(h:Mem w H γ s.m F)(hr:ah s.m n=some ⟨false,[.it cur rest]⟩) :
  ∃r q x y c,γ n=.gh (.pointer (some ⟨r,0,none⟩))/\w.heap[r]? = some (.mapIter q x y c)/\ItR H cur rest q x y c/\∀k,F n k=if k=r then 1 else 0:=by
 have a:=h.roots _ (al hr)
 unfold cz at a;dsimp only at a;rw[if_neg (by simp)]at a;obtain⟨v,t,h1,h2,h3⟩:=a;obtain rfl:t=.it cur rest:=by grind
 obtain⟨r,q,x,y,c,rfl,k2,k3,k4⟩:=h3
 grind
theorem RJ(h:RX g s a w H γ F)(hr:ah s.m n=some ⟨false,[.it cur rest]⟩)(ty:TypeId) :
  ∃v,γ n=.gh v/\((rest=[]/\(Instr.next v false ty).run P w=.ok (.tuple #[.bool false]) w) \/
   ∃i x ky vl w' F',i<rest.length/\rest[i]? = some x/\(Instr.next v false ty).run P w=.ok (.tuple #[.bool true,ky,vl]) w'/\FDx H x.1 ky/\FDx H x.2 vl /\
    RX g ⟨s.t,cY s.m n ⟨false,[.it (some x) (rest.eraseIdx i)]⟩⟩ a w' H γ F'):=by
 obtain⟨r,q,x,y,c,h1,h2,h3,h4⟩:=afD h.mem hr;refine⟨_,h1,?_⟩;cases q with
 |none=>obtain⟨rfl,rfl⟩:=h3;exact .inl ⟨rfl,by simp[Instr.next,getObj,Sem.run_bind,Sem.run,h2,Result.andThen]⟩
 |some b=>
  obtain⟨es,ck,k1,k2,k3,k4,k5⟩:=h3;obtain⟨k6,k7⟩:=h.mem.agree b 0 _ k1;have B:=(stamped_iff es ck).1 k7
  have L:(leftOf es y).toList=es.toList.filter λe=>!y.contains e.born:=by simp[leftOf]
  rcases run_next_at (P:=P) w ty r b x c y es ck h2 k6 (λe u=>by grind) kQ1 with⟨h5,h6⟩|⟨e,u,w1,hw1,h6⟩
  .grind [PY]
  refine .inr ?_;rw[L]at u;obtain⟨i,hi⟩:=List.getElem?_of_mem u;obtain⟨z,I,M,z3,z4⟩:=PX k4 hi;have C:i<rest.length:=(al3.1 I).1
  have D:w1.heap=w.heap/\w1.os=w.os/\w1.tape=w.tape/\w1.output=w.output:=by rcases hw1 with rfl|rfl<;>exact⟨rfl,rfl,rfl,rfl⟩
  obtain⟨O,K,N,R⟩:=D;have j:=heap_set (o':=.mapIter (some b) x (y.push e.born) ck) h2
  have E:tot F s.m r≠0:=by have:=bV (F:=F) (al hr) r;grind
  have J:b≠r:=λe=>by grind
  have A:((es.toList.filter λe=>!y.contains e.born).map (·.born)).Nodup:=(B.2.1.sublist ((List.filter_sublist (p:=λe:MapEntry=>!y.contains e.born) (l:=es.toList)).map _))
  have k:e∈es.toList:=(List.mem_filter.1 u).1
  have G:es.toList.filter (λx=>!(y.push e.born).contains x.born)=(es.toList.filter λe=>!y.contains e.born).eraseIdx i:=by
   rw[<- zZ A hi,List.filter_filter]
   grind
  refine⟨i,z,e.key,e.val,setBlock w1 r (.mapIter (some b) x (y.push e.born) ck),upd F n (F n),C,I,h6,z3,z4,?_⟩;have d:(setBlock w1 r (.mapIter (some b) x (y.push e.born) ck)).heap=w.heap.setIfInBounds r (.mapIter (some b) x (y.push e.born) ck):=by show w1.heap.setIfInBounds _ _=_;rw[O]
  refine Wn h rfl rfl hr h1 (f':=F n) ⟨r,some b,x,y.push e.born,ck,rfl,by grind,⟨es,ck,k1,k2,rfl,by grind [C2],y,e,rfl,k,M,z3,z4⟩,h4⟩ (λc=>by have:=h.mem.le1 c;omega) (λc hc=>?_) (by grind) K N R (λc hc=>?_) (λ_ _ _ h=>h) (λb' o Q hy=>(h.mem.agree b' o Q hy).frame ?_) (λb o h1 h2=>absurd h2 h1) ⟨λb' h'=>h'.of_block ?_,λc o x y z h1 h2=>by grind⟩
  .have:tot F s.m c≠0:=by grind
   exact⟨h.mem.lt c this,h.mem.nofz c this,h.fr.tt c this⟩
  .grind
  .rw[d];exact j.2 b' λe=>by subst e;rw[h.mem.nofz _ E o]at hy;cases hy
  rw[d];refine j.2 b' λe=>?_
  subst e;obtain⟨cs,ty,e⟩:=h'
  grind
theorem Mc(h:RX g s a w H γ F){x:D×D}(hr:ah s.m n=some ⟨false,[.it (some x) rest]⟩) :
  ∃v ky vl,γ n=.gh v/\(Instr.entry v).run P w=.ok (.tuple #[ky,vl]) w/\x.1.isKey=true/\FDx H x.1 ky/\FDx H x.2 vl:=by
 obtain⟨r,q,a',y,c,h1,h2,h3,h4⟩:=afD h.mem hr;cases q with
 |none=>obtain⟨h3,_⟩:=h3;cases h3
 |some b=>
  obtain⟨es,ck,k1,k2,k3,k4,i,e,rfl,k5,k8,j,d⟩:=h3;obtain⟨k6,k7⟩:=h.mem.agree b 0 _ k1;have f:=(stamped_iff es ck).1 k7
  subst k3;exact⟨_,e.key,e.val,h1,run_entry_at w r b a' i es c e h2 k6 k5 f.2.1,k8,j,d⟩
theorem Vg{m:Mm}{v:Value}(hn:ah m n=some ⟨false,[.it cur rest]⟩)(a:γ n=.gh v):AR w H γ m (.one (.c (.rf ⟨n,0,[]⟩))) v:=by
 refine⟨λ_=>rfl,?_,?_⟩
 .rw[cr];exact⟨_,hn,trivial⟩
 unfold plV;dsimp only;rw[a];rfl
end
end Go.Am
end

section
namespace Go.Am
variable{caps:List Operand}{d:Tmp}{et kt t tt:TypeId}{ku vu:U}{n:Nm}{row:List C}{x:At}{y:Value}
section
variable {P:Program} {g:G} {a:Act} {w:World} {H:FH} {γ:Gam} {F:Nm->Fp} {s:St} {k k':St->Prop}
theorem OF{x:Operand}(hk:∀s',Ext s s'->k s'->k' s')(h:wY P s t x d k):wY P s t x d k':=by
 unfold wY at h|-;dsimp only at h|-
 (repeat' split at h)<;>first|exact h.elim|exact hk _ ((((jd _ _).trans (cg _ _)).trans (dB _ _ _)).trans (aC _ _ _)) h
theorem Uj{d:Option Tmp}(hk:∀s',Ext s s'->k s'->k' s')(h:DG s x d k):DG s x d k':=by
 unfold DG at h|-;split at h
 .exact⟨λe=>hk _ (aC _ _ _) (h.1 e),λi hi=>hk _ ((ui _ _ _).trans (aC _ _ _)) (h.2 i hi)⟩
 omega
theorem MQ{d:Option Tmp}(hk:∀s',Ext s s'->k s'->k' s')(h:rk s x d k):rk s x d k':=by grind [rk,aC]
theorem KB(hk:∀s',Ext s s'->k s'->k' s')(h:rK s x d k):rK s x d k':=by
 unfold rK at h|-
 grind [aC]
theorem RU:∀{t:Tt},t.hit (bJ n)=false->t.frB n row=t:=by
 intro t h;cases t with
 |pl p=>
  have h:decide (p.root=n)=false:=h
  grind [Tt.frB,Tt.kill,bJ]
 |rf p=>
  have h:decide (p.root=n)=false:=h
  grind [Tt.frB,Tt.kill,bJ]
 |_=>rfl
theorem Rq(s:St)(n:Nm):Ext s (Ji s n):=by
 unfold Ji;split
 .split
  .exact⟨alD _,ug (·.hit (bJ n)) (·.map (Tt.frB n _)) (λ_ h=>vV RU h) (akK _),(mV n).trans (eD (akK _))⟩
  exact Ext.refl s
 exact Ext.refl s
theorem qR:∀(vs:List At)(s:St),Ext s (uN s vs)
 |[],s=>Ext.refl s
 |v::vs,s0=>by
  unfold uN;split
  .grind
  .rename_i h;cases h;exact(Rq _ _).trans (qR _ _)
  rename_i h;cases h;exact qR _ _
theorem Cj{f:Nat}{d:Option Tmp}(hk:∀s',Ext s s'->k s'->k' s')(h:kS s f caps d k):kS s f caps d k':=by
 unfold kS at h|-;dsimp only at h|-;split at h
 .exact hk _ ((qR _ _).trans (aC _ _ _)) h
 omega
theorem ab9(h1:leaf ku=true)(h2:leaf vu=true)(z:Option (List (El ku×El vu))):(C.mp ku vu z).toD=.mp (z.map λl=>l.map (yf ku vu)):=by
 show D.mp _=D.mp _
 congr 1
 cases z with
 |none=>rfl
 |some l=>
  show some _=some _
  congr 1
  refine ak2 λx _=>?_
  rw[p6 h1,p6 h2];rfl
theorem UB{x:Operand}(r:RX g s.toS a w H γ F)(hd:okD g.nt (some d)=true)(hx:aH x=true)(h:wY P s t x d k) :
  ∃t' y w' H' γ' F',(Instr.range t (a.eval x)).run P w=.ok y w'/\k t'/\RX g t'.toS (a.put (some d) y) w' H' γ' F':=by
 unfold wY at h;dsimp only at h;obtain⟨H1,F1,h1⟩:=io r (evA s x);generalize ja s (evA s x)=s1 at h h1;split at h
 .rename_i kt et p;split at h
  .rename_i ku vu z hv;split at h
   .rename_i hc;simp only[akI]at hc;obtain⟨_,td,_,q,b,_⟩:=bh p (by simp);obtain rfl:=sK b;have h2:=dv h1 (.gh d)
    rw[<- bN (gB h1)]at h2;have h3:=aJ h2 hx
    rw[aj hx,hv]at h3;have h4:FDx H1 (.mp (z.map λl=>l.map (yf ku vu))) (a.eval x):=by rw[<- ab9 (AX hc.1) hc.2];exact h3.2
    have hn:=cE h1 (.gh d)
    rw[<- bN (gB h1)]at hn;obtain⟨w',γ',F',j,i,o⟩:=Wo (P:=P) h2 h4 (λe f=>by
     cases z with
     |none=>cases f
     |some l=>obtain⟨y,_,rfl⟩:=ak5.1 (show e∈l.map (yf ku vu)from f);exact oU (gD hc.1 y.1)) (n:=.gh d) rfl hn q
    refine⟨_,_,w',H1,γ',F',j,h,?_⟩;have m:(z.map λl=>l.map (yf ku vu)).getD []=(z.getD []).map (yf ku vu):=by cases z<;>rfl
    rw[m]at i;refine bH (aM _ (some d) (.one (.c (.rf ⟨.gh d,0,[]⟩)))) (i.put hd ?_);exact Vg (cur:=none) (rest:=(z.getD []).map (yf ku vu)) (by grind [ah]) o
   grind
  grind
 grind
theorem QF{cur:Option (El ku×El vu)}{rest:List (El ku×El vu)}(h:acZ s.m x=some (n,⟨ku,vu,cur,rest⟩)) :
  x=.one (.c (.rf ⟨n,0,[]⟩))/\ah s.toS.m n=some ⟨false,[.it (cur.map (yf ku vu)) (rest.map (yf ku vu))]⟩:=by
 unfold acZ at h;split at h
 .split at h
  .rename_i hr;cases h;exact⟨rfl,bz hr⟩
  grind
 grind
theorem afE{v:Value}{m:Mm}(a:γ n=.gh v)(h:AR w H γ m (.one (.c (.rf ⟨n,0,[]⟩))) y):y=v:=by obtain⟨_,_,hv⟩:=h;unfold plV at hv;rw[a]at hv;exact(Option.some.inj hv).symm
theorem Y0{d:Option Tmp}(j:RX g s.toS a w H γ F)(hd:okD g.nt d=true)(hy:AR w H γ s.toS.m x.toV y)(ty:TypeId)(h:DG s x d k) :
  ∃t' z w' F',(Instr.next y false ty).run P w=.ok z w'/\k t'/\RX g t'.toS (a.put d z) w' H γ F':=by
 unfold DG at h;split at h
 .rename_i n ku vu cur rest hi;obtain⟨rfl,hr⟩:=QF hi;obtain⟨v,o,c⟩:=RJ (P:=P) j hr ty;obtain rfl:=afE o hy;rcases c with⟨h1,h2⟩|⟨i,e,ky,vl,w',F',h1,h2,h3,h4,h5,h6⟩
  .refine⟨_,_,w,F,h2,h.1 (List.map_eq_nil_iff.1 h1),bH (aM _ _ _) (j.put hd ?_)⟩;exact⟨_,rfl,⟨λ_=>rfl,0,rfl⟩,trivial⟩
  have b:i<rest.length:=by grind
  refine⟨_,_,w',F',h3,h.2 i b,?_⟩;have f:e=yf ku vu (rest.getD i (dflt ku,dflt vu)):=by grind
  have l:(⟨s.nx+1,s.t,fp s.m n s.nx ⟨false,[.it ku vu (some (rest.getD i (dflt ku,dflt vu))) (rest.eraseIdx i)],none⟩⟩:St).toS=⟨s.toS.t,cY s.toS.m n ⟨false,[.it (some e) ((rest.map (yf ku vu)).eraseIdx i)]⟩⟩:=by
   rw[f,<- Go.ChangeMaps.map_eraseIdx];show(⟨_,toM (fp s.m n s.nx _)⟩:S)=_
   rw[fV];rfl
  rw[<- l]at h6;refine bH (aM _ _ _) (h6.put hd ?_);rw[f]at h4 h5;exact⟨_,rfl,⟨λ_=>rfl,0,rfl⟩,⟨λ_=>rfl,h4⟩,⟨λ_=>rfl,h5⟩,trivial⟩
 grind
theorem S8{d:Option Tmp}(b:RX g s.toS a w H γ F)(hd:okD g.nt d=true)(hy:AR w H γ s.toS.m x.toV y)(h:rk s x d k) :
  ∃t' z,(Instr.entry y).run P w=.ok z w/\k t'/\RX g t'.toS (a.put d z) w H γ F:=by
 unfold rk at h;split at h
 .rename_i n ku vu e rest hi;obtain⟨rfl,hr⟩:=QF hi;obtain⟨v,ky,vl,c,h1,_,h2,h3⟩:=Mc (P:=P) b hr;obtain rfl:=afE c hy;exact⟨_,_,h1,h,bH (aM _ _ _) (b.put hd ⟨_,rfl,⟨λ_=>rfl,h2⟩,⟨λ_=>rfl,h3⟩,trivial⟩)⟩
 grind
theorem Bt{b:Nat}{es:Array MapEntry}{ck:Nat}(a:P.underlying t=some (.map kt et))(hb:w.heap[b]? = some (.map es ck)) :
  (Builtin.len_ #[t] tt #[.map (some b)]).run P w=.ok (.int .i64 (es.size:Int)) w:=by
 simp_all[Builtin.len_,run_underlying,getObj,Sem.run,goInt]
theorem Ld(a:P.underlying t=some (.map kt et)) :
  (Builtin.len_ #[t] tt #[.map none]).run P w=.ok (.int .i64 0) w:=by
 simp_all[Builtin.len_,run_underlying,goInt]
theorem P1{w:World}{H:FH}:∀{l:List (D×Sh×D)}{es:List MapEntry}{f:Fp},MpO w H l es f->l.length=es.length
 |[],[],_,_=>rfl
 |_::_,_::_,_,h=>by obtain⟨_,f1,a,k,_,_,h⟩:=h;simp[P1 h]
 |[],_::_,_,h=>h.elim
 |_::_,[],_,h=>h.elim
theorem N4(i:RX g s.toS a w H γ F)(hd:okD g.nt (some d)=true)(hy:AR w H γ s.toS.m x.toV y)(r:(ty P t).k=.mp kt et)(h:rK s x d k) :
  ∃t' z,(Builtin.len_ #[t] tt #[y]).run P w=.ok z w/\k t'/\RX g t'.toS (a.put (some d) z) w H γ F:=by
 obtain⟨_,td,_,p,j,_⟩:=bh r (by simp);obtain rfl:=sK j;have big:∀n:Nat,n<=4611686018427387904->(Lit.int .i64 (n:Int)).wf=true:=λn h=>BO (by grind [BIG])
 unfold rK at h;split at h
 .rename_i ku vu z;have c:=hy.2
  cases z with
  |none=>
   have o:y=.map none:=by obtain⟨m,c⟩:=c;cases m<;>exact c
   subst o;exact⟨_,_,Ld p,h.2,bH (aM _ _ _) (i.put hd ⟨λ_=>rfl,0,rfl,big 0 kQ1⟩)⟩
  |some l=>
   obtain⟨m,c⟩:=c;cases m with
   |zero=>exact c.elim
   |succ m=>obtain⟨b,es,ck,rfl,k2,k3,k4⟩:=c;obtain⟨k5,k6⟩:=i.mem.agree b 0 _ k2;exact⟨_,_,Bt p k5,h.2,bH (aM _ _ _) (i.put hd ⟨λ_=>rfl,0,by grind,big _ h.1⟩)⟩
 .split at h
  .rename_i ku vu l hm;obtain⟨n,rfl,hr⟩:=rF hm;obtain⟨b,es,ck,f,rfl,_,q,c3,u,_⟩:=tQ i hr hy;have e:es.size=l.length:=by have:=P1 u;grind
   exact⟨_,_,Bt p q,h.2,bH (aM _ _ _) (i.put hd ⟨λ_=>rfl,0,by rw[e],big _ h.1⟩)⟩
  grind
 grind
theorem ZU:∀{cells:List Tt}{row:List C},tdC cells=some row->(cells.map Tt.toT).all T.isD=true/\(cells.map Tt.toT).map T.toD=row.map C.toD
 |[],row,h=>by cases h;grind
 |t::ts,row,h=>by
  cases t with
  |d c=>
   have h':∃r,tdC ts=some r/\row=c::r:=by
    cases c with
    |any=>cases h
    |_=>obtain⟨r,h1,h2⟩:=ak0.1 h;grind
   obtain⟨r,h1,rfl⟩:=h';obtain⟨k1,k2⟩:=ZU h1;exact⟨by simp only[akM,akW,k1];rfl,by simp only[akM,k2];rfl⟩
  |_=>simp[tdC]at h
theorem Mg(n:Nm)(row:List C)(t:Tt):(t.frB n row).toT=t.toT.frB n (row.map C.toD):=by
 cases t with
 |pl p=>
  obtain⟨r,o,path⟩:=p;cases path with
  |nil=>
   show(if r=n then Tt.el row o else Tt.pl ⟨r,o,[]⟩).toT=if r=n then T.el (row.map C.toD) o else T.pl ⟨r,o,[]⟩
   by_cases e:r=n
   .rw[if_pos e,if_pos e];rfl
   rw[if_neg e,if_neg e];rfl
  |cons st u=>exact eX (bJ n) (.pl ⟨r,o,st::u⟩)
 |rf p=>exact eX (bJ n) (.rf p)
 |_=>rfl
theorem RQ(h:RX g s.toS a w H γ F)(n:Nm):∃H',RX g (Ji s n).toS a w H' γ F:=by
 unfold Ji;split
 .rename_i cells hr;split
  .rename_i row b;obtain⟨h1,h2⟩:=ZU b;obtain⟨H',h'⟩:=aaS h n;have c:ah s.toS.m n=some ⟨true,cells.map Tt.toT⟩:=bz hr
   have e:s.toS.frzB n=(⟨s.nx+1,s.t.map λx=>(x.1,stp (x.2.2.hit (bJ n)) s.nx x.2.1,x.2.2.map (Tt.frB n row)),cO (bJ n) s.nx (fN s.m n)⟩:St).toS:=by
    unfold S.frzB;rw[c];dsimp only;rw[if_pos h1,h2];refine bT.S_ext ?_ ?_
    .simp only[St.toS,u7,alW]
     grind [ak2,sN,Mg]
    have h3:=fh (bJ n) s.nx (fN s.m n)
    rw[nh n s.m (gB h)]at h3;exact h3.symm
   grind
  grind
 grind
theorem qW:∀(vs:List At)(s:St)(H:FH),RX g s.toS a w H γ F->∃H',RX g (uN s vs).toS a w H' γ F
 |[],s,H,h=>⟨H,h⟩
 |v::vs,s0,H,h=>by
  unfold uN;split
  .grind
  .rename_i e;cases e;obtain⟨H1,h1⟩:=RQ h _;exact qW _ _ H1 h1
  rename_i e;cases e;exact qW _ _ H h
theorem zT{c:Lt.Cap}:∀{l:List U},IT row l=some c->row=flat (EP c).1 (EP c).2/\c.enc=row.map C.toD
 |[],h=>by cases h
 |n::r,h=>by
  unfold IT at h;split at h
  .rename_i x hx;split at h
   .rename_i a hc;cases h;obtain⟨h1,h2⟩:=ab2 hc;have h3:=xj hx
    refine⟨by grind,?_⟩;rw[h2,h3,cj]
   exact zT h
  exact zT h
theorem Dd(q:RX g s.toS a w H γ F):∀{ops:List Operand}{cs:List Lt.Cap},ops.all aH=true->EQ s ops=some cs->cs.length=ops.length/\∃m,∀(i:Nat)(row:List D)(y:Value),(cs.map Lt.Cap.enc)[i]? = some row->(ops.map a.eval)[i]? = some y ->
   ∃b o,y=.pointer (some ⟨b,o,none⟩)/\(row.length=1->o=0)/\∀j,j<row.length->∃z:Value,H b (o+j)=some z/\FD H m (row.getD j default) z
 |[],cs,_,h=>by cases h;simp_all
 |x::ops,cs,ho,h=>by
  simp only[akW,akI]at ho;unfold EQ at h;split at h
  .rename_i row hv;split at h
   .rename_i c r f hc l;cases h;have f:row.length≠1:=λe=>by rw[e]at f;cases f
    obtain⟨h1,n,h2⟩:=Dd q ho.2 l;have h3:=aJ q ho.1
    rw[aj ho.1,hv]at h3;obtain⟨_,b,o,p,h4,h5⟩:=h3;obtain⟨_,h6⟩:=zT hc;refine⟨by simp[h1],n+p,λi k y hi hy=>?_⟩;have mono:=λ{m:Nat}(hm:m<=n+p){d:D}{v:Value}(h:FD H m d v)=>gN (λ_ _ _ h=>h) m (n+p) d v hm h
    cases i with
    |zero=>
     have hi:c.enc=k:=by grind
     have hy:a.eval x=y:=by grind
     subst hi hy;rw[h6];refine⟨b,o,h4,λe=>absurd (by rwa [akT]at e) f,λj hj=>?_⟩;obtain⟨z,hz,hf⟩:=h5 j hj
     grind
    |succ i=>grind
   grind
  grind
theorem Fw{f:Nat}{d:Option Tmp}(c:RX g s.toS a w H γ F)(hd:okD g.nt d=true)(hc:caps.all aH=true)(h:kS s f caps d k) :
  ∃t' H',k t'/\RX g t'.toS (a.put d (.func (.func f) #[] (caps.map a.eval).toArray)) w H' γ F:=by
 unfold kS at h;dsimp only at h;obtain⟨H1,h1⟩:=qW (caps.map (evA s)) s H c;split at h
 .rename_i cs b;obtain⟨k1,m,k2⟩:=Dd h1 hc b;refine⟨_,H1,h,bH (aM _ _ _) (h1.put hd ⟨λ_=>rfl,m+1,caps.map a.eval,rfl,?_,k2⟩)⟩;simp[k1]
 grind
end
abbrev chn(v:Value):List PanicEntry:=[{ v,recovered:=false }]
def ng(g:G)(a:Act)(pk:PKt)(k:St->At->Prop)(e:Ending)(w':World):Prop:=
 (∃r s' av H' γ' F',e=.returned r/\k s' av/\AR w' H' γ' (toM s'.m) av.toV r/\RX g s'.toS a w' H' γ' F') \/
 ∃v s',e=.panicked (chn v)/\pk v s'/\R g s'.toS a w'
structure Cont (P:Program) (f:Nat) (C:CKt):Prop where
 run:∀args w,(callFunc f args).run P w=.ok (.enter f args) w
 ext:∀(pk:PKt)(s:St)(ops:List Operand)(k k':St->At->Prop),(∀s' v,Ext s s'->k s' v->k' s' v)->C pk s ops k->C pk s ops k'
 call:∀(g:G)(pk:PKt)(s:St)(a:Act)(w:World)(H:FH)(γ:Gam)(F:Nm->Fp)(ops:List Operand)(k:St->At->Prop),RX g s.toS a w H γ F->ops.all aH=true->C pk s ops k ->
  Calls P f (ops.map a.eval).toArray w (ng g a pk k)
structure ContC (P:Program) (key:Nat) (C:CKt):Prop where
 big:1000000<=key
 run:∀args w,(callFunc (key - 1000000) args).run P w=.ok (.enter (key - 1000000) args) w
 ext:∀(pk:PKt)(s:St)(ops:List Operand)(k k':St->At->Prop),(∀s' v,Ext s s'->k s' v->k' s' v)->C pk s ops k->C pk s ops k'
 call:∀(g:G)(pk:PKt)(s:St)(a:Act)(w:World)(H:FH)(γ:Gam)(F:Nm->Fp)(t:Tmp)(ops:List Operand)(k:St->At->Prop)(ps:Array Value),RX g s.toS a w H γ F->ops.all aH=true->t<TB->a.tmps.getD t undef=.func (.func (key - 1000000)) #[] ps->C pk s (.tmp t::ops) k ->
  Calls P (key - 1000000) ((ops.map a.eval).toArray++ps) w (ng g a pk k)
def En.ok(e:En):Prop:=∀x∈e.cs,(Nat.blt x.1 1000000=true->Cont e.P x.1 x.2)/\(1000000<=x.1->ContC e.P x.1 x.2)
theorem En.ok_get'{e:En}(h:e.ok){f:Nat}{C:CKt}(hg:e.cs.get f=some C):(Nat.blt f 1000000=true->Cont e.P f C)/\(1000000<=f->ContC e.P f C):=by
 have:∀cs:CTt,(∀x∈cs,(Nat.blt x.1 1000000=true->Cont e.P x.1 x.2)/\(1000000<=x.1->ContC e.P x.1 x.2))->cs.get f=some C->(Nat.blt f 1000000=true->Cont e.P f C)/\(1000000<=f->ContC e.P f C):=by
  intro cs;induction cs with
  |nil=>intro _ h;cases h
  |cons x cs ih=>
   intro h hg2;simp only[CTt.get]at hg2;split at hg2
   all_goals simp_all
 exact this e.cs h hg
theorem En.ok_get{e:En}(h:e.ok){f:Nat}{C:CKt}(hg:e.cs.get f=some C)(hf:Nat.blt f 1000000=true):Cont e.P f C:=(En.ok_get' h hg).1 hf
variable{v:At}
theorem S3{key:Nat}(h:IW v=some key):1000000<=key:=by
 unfold IW at h
 grind
variable{K':C->Prop}{i:Nat}{m:List (Nm×Nat×Rt)}{o:Oper}{op:BinOp}
section
variable {k k':At->Prop}
theorem Ot{c y:At}(hk:∀v,k v->k' v)(h:DU c x y k):DU c x y k':=by
 unfold DU at h|-
 grind
theorem Um{κ:IntKind}{a b:Int}{K:C->Prop}(hk:∀v,K v->K' v)(h:Y2 op κ a b K):Y2 op κ a b K':=by unfold Y2 at h|-;cases op<;>first|exact hk _ h|grind
theorem Se{x y:C}{K:C->Prop}(hk:∀v,K v->K' v)(h:Iw op x y K):Iw op x y K':=by
 unfold Iw at h|-;split at h
 .split at h<;>first|exact h.elim|exact hk _ h|grind
 grind [Um]
theorem Si{P:Program}{y:At}(hk:∀v,k v->k' v)(h:Sf P op t x y k):Sf P op t x y k':=by
 unfold Sf at h|-
 (repeat' split at h)<;>first|exact h.elim|exact hk _ h|exact⟨h.1,hk _ h.2⟩|grind [Se]|(simp_all;done)
theorem Z0{op:UnOp}(hk:∀v,k v->k' v)(h:unT op x k):unT op x k':=by
 unfold unT at h|-
 grind
theorem BZ(hk:∀v,k v->k' v)(h:nk x i k):nk x i k':=by
 unfold nk at h|-
 grind
theorem Ls{i:At}(hk:∀v,k v->k' v)(h:xi x i k):xi x i k':=by
 unfold xi at h|-
 grind
theorem jK{y:Option At}{d:Nat}{k1 k2:Nat->Prop}(hk:∀n,k1 n->k2 n)(hb:iJ y d k1):iJ y d k2:=by
 unfold iJ at hb|-
 grind
theorem Lm{P:Program}{lo hi:Option At}(hk:∀v,k v->k' v)(h:xe P t x lo hi k):xe P t x lo hi k':=by
 unfold xe at h|-;split at h
 .split at h
  .exact jK (λa c=>jK (λb hb=>⟨hb.1,hk _ hb.2⟩) c) h
  omega
 .split at h
  .split at h
   .exact jK (λa c=>jK (λb hb=>⟨hb.1,hk _ hb.2⟩) c) h
   omega
  omega
 all_goals grind (splits:=20) [jK]
theorem yg{P:Program}(hk:∀v,k v->k' v)(h:jm P m t x i k):jm P m t x i k':=by
 unfold jm at h|-;split at h
 .split at h
  all_goals grind
 omega
theorem pG{P:Program}{i:At}(hk:∀v,k v->k' v)(h:gZ P m t x i k):gZ P m t x i k':=by
 unfold gZ at h|-;split at h
 .split at h
  .split at h
   all_goals grind
  all_goals grind
 omega
theorem N0{P:Program}(hk:∀v,k v->k' v)(h:pH P m t x k):pH P m t x k':=by
 unfold pH at h|-;split at h
 .split at h
  all_goals grind
 omega
theorem I5{P:Program}(hk:∀v,k v->k' v)(h:wA P t x i k):wA P t x i k':=by
 unfold wA at h|-;split at h
 all_goals grind
theorem AS(hk:∀v,k v->k' v)(h:kU x k):kU x k':=by
 unfold kU at h|-
 grind
theorem IA{P:Program}{ps:List (Nat×At)}(hk:∀v,k v->k' v)(h:wq P t ps k):wq P t ps k':=by grind [wq]
theorem MM{P:Program}{b a:TypeId}(hk:∀v,k v->k' v)(h:De P b a x k):De P b a x k':=by
 unfold De at h|-;split at h
 all_goals grind
theorem FQ{e:En}{s:St}(hk:∀v,k v->k' v)(h:qT e o s k):qT e o s k':=by
 unfold qT at h|-;cases ho:o.op with
 |pick c x y=>grind [Ot]
 |binOp op t x y z=>grind [Si]
 |unOp op t x=>grind [Z0]
 |load t x=>grind [N0]
 |field t x i=>grind [I5]
 |fieldAddr t x i=>grind [yg]
 |indexAddr t x i=>grind [pG]
 |index t x i=>grind [Ls]
 |extract x i=>grind [BZ]
 |convert d b x=>grind [MM]
 |slice t x lo hi a=>cases a<;>grind [Lm]
 |nilCheck x=>grind [AS]
 |build t ps=>grind [IA]
 |call c=>grind [Dx]
 |_=>grind
end
variable{E:Ut}{s':St}{sub:List Sh}{ts:List Tt}{u:U}
section
variable {k k':St->Prop} {s:St}
theorem Mj{P:Program}(hk:∀s',Ext s s'->k s'->k' s')(h:we P s t d k):we P s t d k':=by
 unfold we at h|-;split at h
 .split at h
  .exact hk _ (((cg _ _).trans (dB _ _ _)).trans (aC _ _ _)) h
  omega
 omega
theorem WO{x:Operand}(hk:∀s',Ext s s'->k s'->k' s')(h:Sl s x d k):Sl s x d k':=by
 unfold Sl at h|-;split at h
 .split at h
  .exact hk _ (((cg _ _).trans (dB _ _ _)).trans (aC _ _ _)) h
  omega
 omega
theorem ye{P:Program}{n:Nat}{ps:Array (Nat×Operand)}(hk:∀s',Ext s s'->k s'->k' s')(h:ir P E s t n ps d k):ir P E s t n ps d k':=by
 unfold ir at h|-;split at h
 .split at h
  .split at h
   .dsimp only at h|-;split at h
    .split at h
     .exact hk _ ((((fa _ _).trans (cg _ _)).trans (dB _ _ _)).trans (aC _ _ _)) h
     omega
    omega
   omega
  omega
 omega
theorem Bf{p:Pl}{t:Tt}(hk:∀s',Ext s s'->k s'->k' s')(h:K2 s p t k):K2 s p t k':=by
 unfold K2 at h|-;split at h
 .omega
 split at h
 .split at h
  .exact hk _ ⟨alD _,λ_ _ _ h _=>h,dL _ _ (akK _) _⟩ h
  omega
 .split at h
  .exact rQ (hk _ ⟨alD _,λ_ _ _ h _=>h,dL _ _ (akK _) _⟩) h
  omega
 .split at h
  .split at h
   .exact rQ (xA (hk _ ⟨alD _,λ_ _ _ h _=>h,dL _ _ (akK _) _⟩)) h
   omega
  omega
 omega
theorem my:∀{ts:List Tt}{s:St}{p:Pl},(∀s',Ext s s'->k s'->k' s')->kE s p ts k->kE s p ts k'
 |[],s,p,hk,h=>hk _ (Ext.refl s) h
 |t::ts,s,p,hk,h=>by
  cases t with
  |rf q=>
   simp only[kE]at h|-;split at h
   .split at h
    .exact Bf (λs' f b=>my (λe a=>hk e (((uh _ _).trans f).trans a)) b) h
    omega
   omega
  |any=>exact h.elim
  |d c=>cases c with
   |any=>exact h.elim
   |_=>exact Bf (λs' f b=>my (λe a=>hk e (f.trans a)) b) h
  |_=>exact Bf (λs' f b=>my (λe a=>hk e (f.trans a)) b) h
theorem K0{p:Pl}(hk:∀s',Ext s s'->k s'->k' s')(h:rW s p ts k):rW s p ts k':=by
 unfold rW at h|-;split at h
 .omega
 split at h
 .split at h
  .exact rQ (hk _ ⟨alD _,λ_ _ _ h _=>h,dL _ _ (akK _) _⟩) h
  omega
 omega
theorem OX{P:Program}(hk:∀s',Ext s s'->k s'->k' s')(h:xg P s t x v k):xg P s t x v k':=by
 unfold xg at h|-
 grind (splits:=20) [K0,my]
theorem jh{l:List (El u)}(h:pX s u v=some (s',sub,l)):Ext s s':=by
 unfold pX at h;split at h
 .grind [Ext.refl]
 .split at h
  .split at h
   .rename_i a;obtain⟨rfl,_⟩:=h;unfold ZT at a;split at a
    .grind
    split at a
    .simp only[akJ]at a;rw[<- a];exact⟨alD _,ik (akK _),(dL _ _ (akK _) s.m).trans (eD (akK _))⟩
    .simp only[akJ]at a;rw[<- a];exact⟨alD _,ik (akK _),(dL _ _ (akK _) s.m).trans (eD (akK _))⟩
    grind
   grind
  grind
 grind
theorem Ir{P:Program}{u:TypeId}{x y:Operand}(hk:∀s',Ext s s'->k s'->k' s')(h:q8 P E s t u x y d k):q8 P E s t u x y d k':=by
 unfold q8 at h|-;dsimp only at h|-;split at h
 .split at h
  .split at h
   .split at h
    .rename_i h3 h4;split at h
     .exact⟨h.1,hk _ (((((jd _ _).trans (jh h4)).trans (cg _ _)).trans (dB _ _ _)).trans (aC _ _ _)) h.2⟩
     omega
    omega
   omega
  omega
 omega
theorem wm{P:Program}{n:Nat}{ps:Array (Nat×Operand)}(hk:∀s',Ext s s'->k s'->k' s')(h:fZ P E sub s t n ps d k):fZ P E sub s t n ps d k':=by
 unfold fZ at h|-;split at h
 .split at h
  .split at h
   .dsimp only at h|-;split at h
    .split at h
     .exact hk _ ((((fa _ _).trans (cg _ _)).trans (dB _ _ _)).trans (aC _ _ _)) h
     omega
    omega
   omega
  omega
 omega
theorem wo{P:Program}{n:Nat}{ps:Array (Nat×Operand)}(hk:∀s',Ext s s'->k s'->k' s')(h:gf P E sub s t n ps d k):gf P E sub s t n ps d k':=by
 unfold gf at h|-
 (repeat' split at h)<;>first|exact h.elim|skip
 exact hk _ ((((jh (by assumption)).trans (cg _ _)).trans (dB _ _ _)).trans (aC _ _ _)) h
theorem EI{P:Program}{u:TypeId}{x y:Operand}(hk:∀s',Ext s s'->k s'->k' s')(h:mZ P E s t u x y d k):mZ P E s t u x y d k':=by
 unfold mZ at h|-;split at h
 .split at h
  .split at h
   .split at h
    .rename_i h3;split at h
     .rename_i h4;split at h
      .exact⟨h.1,hk _ (((((jh h3).trans (jh h4)).trans (cg _ _)).trans (dB _ _ _)).trans (aC _ _ _)) h.2⟩
      omega
     omega
    omega
   omega
  omega
 omega
theorem lc(a:Nat):∀(sh:List Sh)(j:Nat)(s:St),Ext s (AQ a sh j s)
 |[],_,s=>Ext.refl s
 |.fr::r,j,s=>lc a r (j+1) s
 |.ow _::r,j,s=>by
  simp only[AQ];split
  .split
   .split
    .split
     .split
      .exact((((jh (by assumption)).trans (cg _ _)).trans (dB _ _ _)).trans (aC _ _ _)).trans (lc a r (j+1) _)
      exact(((jh (by assumption)).trans (cg _ _)).trans (dB _ _ _)).trans (lc a r (j+1) _)
     exact lc a r (j+1) s
    exact lc a r (j+1) s
   exact lc a r (j+1) s
  exact Ext.refl s
theorem Vz(sh:List (TypeId×List Sh))(s:St)(t:TypeId)(v:Operand):Ext s (N8 sh s t v):=by
 unfold N8
 grind [lc,Ext.refl]
theorem FX{e:En}{x hi:Operand}(hk:∀s',Ext s s'->k s'->k' s')(h:nR e s t x hi d k):nR e s t x hi d k':=by
 unfold nR at h|-;split at h
 .split at h
  .split at h
   .split at h
    .rename_i hb;exact⟨h.1,hk _ ((((jh hb).trans (cg _ _)).trans (dB _ _ _)).trans (aC _ _ _)) h.2⟩
    omega
   omega
  omega
 omega
theorem UR{e:En}(hk:∀s',Ext s s'->k s'->k' s')(h:Ln e o s k):Ln e o s k':=by
 unfold Ln at h|-;split at h
 .exact FX hk h
 .exact KA hk h
 .grind [KB]
 .dsimp only at h|-;split at h
  .split at h
   .exact pG (λv hv=>hk _ ((qR _ _).trans (aC _ _ _)) hv) h
   omega
  omega
 omega
theorem Em:∀{row:List C}{l:List (List UInt8)},BF row=some l->row=l.map C.s
 |[],_,h=>by cases h;rfl
 |c::r,l,h=>by
  cases c with
  |s x=>
   simp only[BF]at h;split at h
   .rename_i l' hr;cases h;rw[Em hr];rfl
   grind
  |_=>simp[BF]at h
theorem ahM{e:En}(j:e.ok)(hk:∀s',Ext s s'->k s'->k' s')(h:lT e o s k):lT e o s k':=by
 unfold lT at h|-;cases ho:o.op with
 |store t x v=>rw[ho]at h;exact OX (λs' j a=>hk _ ((((Vz _ _ _ _).trans (Rr _ _ _)).trans j).trans (aC _ _ _)) a) h
 |alloc t=>grind [Mj]
 |box t x=>grind [WO]
 |buildSlice t n ps=>
  rw[ho]at h;cases hd:o.dst with
  |none=>grind
  |some d=>
   rw[hd]at h;dsimp only at h|-;split at h
   all_goals grind [ye,wo,wm]
 |call c=>
  rw[ho]at h;dsimp only at h|-;split at h
  .grind (splits:=20) [Ir,EI]
  .exact Kz (λs' f a=>hk _ (f.trans (aC _ _ _)) a) h
  .split at h
   .rename_i C l hf;exact(En.ok_get j l hf).ext _ _ _ _ _ (λs' v f a=>hk _ (f.trans (aC _ _ _)) a) h
   omega
  .split at h
   .split at h
    .rename_i C l hf;exact(En.ok_get j l hf).ext _ _ _ _ _ (λs' v f a=>hk _ (f.trans (aC _ _ _)) a) h
    omega
   .split at h
    .split at h
     .rename_i g _ C l;exact((En.ok_get' j l).2 (S3 g)).ext _ _ _ _ _ (λs' v f a=>hk _ (f.trans (aC _ _ _)) a) h
     omega
    omega
   omega
  omega
 |makeMap t r=>
  rw[ho]at h
  grind [Fx]
 |lookup t x i ok=>grind [Fz,Fy,aC]
 |mapUpdate t m i v=>
  rw[ho]at h;dsimp only at h|-;split at h
  .exact KC (λs' f a=>hk _ (f.trans (aC _ _ _)) a) h
  exact KD (λs' f a=>hk _ (((jd _ _).trans f).trans (aC _ _ _)) a) h
 |makeSlice t n c=>grind [AM]
 |makeFunc fn first caps=>grind [Cj]
 |range t x=>grind [OF]
 |next x b=>cases b<;>grind [Uj]
 |entry x=>grind [MQ]
 |_=>grind
theorem KM{e:En}(a:e.ok)(hk:∀s',Ext s s'->k s'->k' s')(h:FN e o s k):FN e o s k':=by
 unfold FN at h|-;split at h
 .exact FQ (λv hv=>hk _ ((Gw _ _).trans (aC _ _ _)) hv) h
 grind [ahM]
theorem adP{e:En}(a:e.ok)(hk:∀s',Ext s s'->k s'->k' s')(h:opT e o s k):opT e o s k':=by grind [opT,UR,KM]
end
variable{K:S->Prop}{all:List Oper}
section
variable {P:Program} {g:G} {Q:Exit->S->Prop} {s:St}
def AOt(P:Program)(g:G)(o:Oper)(k:St->Prop)(Q:Exit->S->Prop)(s:St):Prop:=∀a w,R g s.toS a w->o.wp P a w (λa' w'=>∃s':St,k s'/\R g s'.toS a' w') (lift g Q)
def PQ(pk:PKt):Exit->S->Prop:=λx s=>∃v,∃t:St,x=.panic (chn v)/\s=t.toS/\pk v t
section
variable {g:G} {a:Act} {w:World} {H:FH}
theorem jr{s:St}(h:gtA s.t i=v):bB s.toS.t i=v.toV:=by rw[<- h];exact dy i s.t
theorem WE{γ:Gam}{F:Nm->Fp}{s:St}(e:RX g s.toS a w H γ F){c j:Nat}{t:Tt}(d:gtA s.t c=.one (.agg ts))(hj:ts[j]? = some t) :
  ∃vs v,g.tv a c=.agg vs/\vs.toList[j]? = some v/\TR w H γ s.toS.m t.toT (λ_=>0) v:=by
 have h:=e.t c
 rw[jr d]at h;obtain⟨vs,h1,_,h3⟩:=h;obtain⟨_,v,g',_,h4,h5,h6⟩:=sP h3 (k:=j) (x:=t.toT) (by grind);have:g'=λ_=>0:=funext λb=>by grind
 grind
theorem lf(k:Nat):∀(sh:List Sh)(j:Nat)(s:St)(γ:Gam)(F:Nm->Fp),RX g s.toS a w H γ F->∃γ' F',RX g (AQ k sh j s).toS a w H γ' F'
 |[],_,s,γ,F,e=>⟨γ,F,e⟩
 |.fr::r,j,s,γ,F,e=>lf k r (j+1) s γ F e
 |.ow _::r,j,s,γ,F,e=>by
  simp only[AQ];split
  .rename_i ts I;split
   .rename_i q hj;split
    .rename_i u N _ _ _;split
     .rename_i s1 sub l hb;obtain⟨vs,v,C,G,B⟩:=WE e I hj;have hy:AR w H γ s.toS.m (.one (.c (.rf q))) v:=B
      obtain⟨b1,b2,_⟩:=m8 (size:=nc u) rfl (gB e) (λL z=>by cases z;exact qq B.2.1) hb
      obtain⟨E,f,F1,k1,k2,k3,k4,k5⟩:=m9 e hy b1;have y:=dv k2 (.gh (700000+j))
      have A:∀b,tot F1 (s1.toS.fresh (.gh (700000+j))).m b<=tot F1 s1.toS.m b:=by
       intro b;unfold S.fresh;split
       .omega
       show tot F1 (aP _ _) b<=_
       rw[bC];exact gL
      obtain⟨γ',F',d,p⟩:=eE y (n:=.gh (700000+j)) rfl (cE k2 (.gh (700000+j))) (v:=v) (t:=.ow sub (l.map (aw u))) (f:=f) ⟨E,k1⟩
       (λb=>by have h1:=A b;have h2:=k4 b;have h3:=e.mem.le1 b;omega) (λb hb=>⟨(k5 b hb).1,(k5 b hb).2.1⟩) (λb hb=>(k5 b hb).2.2)
      have D:((s1.fresh (.gh (700000+j))).root (.gh (700000+j)) ⟨false,[.ow sub u l],none⟩).toS=⟨(s1.toS.fresh (.gh (700000+j))).t,(.gh (700000+j),⟨false,[.ow sub (l.map (aw u))]⟩)::(s1.toS.fresh (.gh (700000+j))).m⟩:=by rw[<- bN b2];rfl
      rw[<- D]at d;generalize hs2:(s1.fresh (.gh (700000+j))).root (.gh (700000+j)) ⟨false,[.ow sub u l],none⟩=s2 at d D;split
      .rename_i o x;refine lf k r (j+1) _ γ' F' ⟨d.mem,d.fr,d.nt,d.df,λi=>?_⟩;show AR w H γ' s2.toS.m (bB ((k,At.toV (.one (.agg (o.set j (.rf ⟨.gh (700000+j),0,[]⟩)))))::s2.toS.t) i) _
       simp only[bB];split
       .rename_i hi;subst hi;have h:=d.t k
        rw[jr x,C]at h;obtain⟨cs,h1,h2,h3⟩:=h;obtain rfl:=Value.agg.inj h1;rw[C];refine⟨vs,rfl,by grind,?_⟩;by_cases J:j<o.length
        .obtain⟨_,_,_,M,fr,_,_,_,a4,_,K,_⟩:=dq _ _ _ _ j h3 (by grind);have hr:=(iE (H:=H) (w:=w) (sub:=sub) (l:=l.map (aw u)) (by grind [ah]) p:AR w H γ' s2.toS.m (.one (.c (.rf ⟨.gh (700000+j),0,[]⟩))) v)
         have:=K (λ_=>TR w H γ' s2.toS.m) (.rf ⟨.gh (700000+j),0,[]⟩) v (λ_=>0) (λ_ _ _ _ _ h=>h) hr
         rw[qJ G]at this;unfold Ts;rw[akT]at this|-;rw[amL,alB];exact pL (λb=>by grind) this
        grind
       exact d.t i
      exact lf k r (j+1) _ γ' F' d
     exact lf k r (j+1) s γ F e
    exact lf k r (j+1) s γ F e
   exact lf k r (j+1) s γ F e
  grind
theorem Wu(sh:List (TypeId×List Sh)){s:St}{γ:Gam}{F:Nm->Fp}(t:TypeId)(v:Operand)(b:RX g s.toS a w H γ F):∃γ' F',RX g (N8 sh s t v).toS a w H γ' F':=by
 unfold N8;split
 .exact lf _ _ _ _ _ _ b
 grind
end
theorem acH{w:World}{H:FH}{γ:Gam}{m:Mm}(h:AR w H γ m v.toV y){f:Nat}(hf:ag7 v=some f):y=.func (.func f) #[] #[]:=by
 unfold ag7 at hf;split at hf
 .rename_i f' x z;split at hf
  .obtain⟨_,m,h3⟩:=h;have a:y=.func (.func f') x z:=by cases m<;>exact h3.1
   grind
  grind
 .split at hf
  .obtain⟨_,m,h3⟩:=h;cases m with
   |zero=>exact h3.elim
   |succ m=>
    obtain⟨ps,h4,h5,_⟩:=h3
    grind
  grind
 grind
theorem XE{w:World}{H:FH}{γ:Gam}{m:Mm}(h:AR w H γ m v.toV y){key:Nat}(hf:IW v=some key):∃f ps,key=f+1000000/\y=.func (.func f) #[] ps:=by
 unfold IW at hf;split at hf
 .obtain⟨_,m,h3⟩:=h;cases m with
  |zero=>exact h3.elim
  |succ m=>
   obtain⟨ps,h4,_⟩:=h3
   grind
 grind
theorem Y8{e:En}{c:Call}(ho:o.op=.call c)(hd:o.dst=some d)(h:ahV e o=true):∃t kt et,c.callee=.builtin .len/\c.argTypes.toList=[t]/\(ty e.P t).k=.mp kt et:=by grind [ahV]
theorem afQ{e:En}(Z:e.ok)(N:∀x s,PQ e.pk x s->Q x s){k:St->Prop}(hc:opC g.nt o=true)(hq:isQ o=false)(h:lT e o s k):AOt e.P g o k Q s:=by
 intro a w hR;obtain⟨H,γ,F,p⟩:=hR;have hn:=gB p
 have V:∀{s1:St},(∃H' F',RX g s1.toS a w H' γ F')->opK e.P [] o s1.toS (upS k)->o.wp e.P a w (λa' w'=>∃s':St,k s'/\R g s'.toS a' w') (lift g Q):=by intro s1 ⟨H',F',D⟩ hop;exact cD (λa' w'⟨s',⟨t,e,hk⟩,O⟩=>⟨t,hk,C5 e O⟩) (λ_ _ _ h=>h) (LL (Q:=Q) CT.ok0 hc hop a w ⟨H',γ,F',D⟩)
 have j:=hc
 unfold opC at j;rw[akI]at j;obtain⟨hd,j⟩:=j;unfold lT at h;cases ho:o.op with
 |store t x v=>rw[ho]at h j;simp only[akI]at j;obtain⟨X,F0,h0⟩:=Wu e.sh t v p;obtain⟨H1,F1,h1⟩:=RR h0 (evA (N8 e.sh s t v) x) (evA (N8 e.sh s t v) v);refine cD (λa' w'⟨s',⟨t,e,hk⟩,O⟩=>⟨t,hk,C5 e O⟩) (λ_ _ _ h=>h) (LL (Q:=Q) CT.ok0 hc (?_:opK e.P [] o _ (upS k)) a w ⟨H1,X,F1,h1⟩);unfold opK;rw[ho];dsimp only;rw[aj j.1,aj j.2];exact UX (λt' hk=>⟨_,aM t' o.dst .any,hk⟩) (gB h1) h
 |alloc t=>grind [opK,R0]
 |box t x=>grind [opK,aa8]
 |buildSlice t n ps=>
  rw[ho]at h j;cases B:o.dst with
  |none=>grind
  |some d=>
   rw[B]at h hd;have D:=je (ps.toList.map λx=>evA s x.2) s H F p
   dsimp only at h;split at h
   .grind [opK,zC,gB]
   split at h
   .obtain⟨t',y,w',γ',F',K,hk,J⟩:=yd p hd j h;unfold Oper.wp;have:(execOp a.eval o).run e.P w=.ok (.value y) w':=by simp_all[execOp]
    rw[this];exact⟨t',hk,_,γ',F',by rw[B];exact J⟩
   obtain⟨H1,F1,h1⟩:=D;obtain⟨s',y,w',H',γ',F',K,⟨t',et,hk⟩,J⟩:=yb (P:=e.P) h1 hd j (yc j (gB h1) h);unfold Oper.wp;have:(execOp a.eval o).run e.P w=.ok (.value y) w':=by simp_all[execOp]
   rw[this];exact⟨t',hk,H',γ',F',bH et (by grind)⟩
 |call c=>
  rw[ho]at h j;obtain⟨L,args,A⟩:=c;obtain⟨args⟩:=args;obtain⟨A⟩:=A;dsimp only at h j;cases L with
  |builtin b=>
   cases b with
   |append=>
    match args,A,h with
    |[x,y],[t,u],h=>
     have h1:aH x=true/\aH y=true:=by grind
     cases B:o.dst with
     |none=>grind
     |some d=>
      rw[B]at h hd;dsimp only at h;split at h
      rotate_left
      .obtain⟨s',y',w',H',γ',F',K,⟨t',et,hk⟩,J⟩:=Ip (P:=e.P) (tt:=o.type) p hd h1.1 h1.2 (Iq h1.1 h1.2 hn (λq hq=>by
         have h3:=aJ p h1.2
         rw[aj h1.2,hq]at h3;obtain⟨_,h4,_⟩:=h3;exact qq h4) (λsize s1 sub l q aa hb hq=>by
         have hy:=aJ p h1.2
         rw[aj h1.2]at hy;obtain⟨_,_,F1,_,D,_⟩:=m9 p hy hb;have h3:=aJ D h1.1
         rw[aj h1.1,hq]at h3;obtain⟨_,h4,_⟩:=h3;exact qq h4) h)
       unfold Oper.wp;have:(execOp a.eval o).run e.P w=.ok (.value y') w':=by simp_all[execOp,resolve,invoke,builtin]
       rw[this];exact⟨t',hk,H',γ',F',bH et (by grind)⟩
      have D:=io p (evA s y)
      refine V D ?_;unfold opK;rw[ho,B];obtain⟨H1,F1,h2⟩:=D;exact Ml h1.1 h1.2 (gB h2) (λq hq=>by
       have h3:=aJ h2 h1.1
       rw[aj h1.1,hq]at h3;obtain⟨_,h4,_⟩:=h3;exact qq h4) h
   |delete=>
    match args,A,h with
    |[x,i],t::ts,h=>
     have h1:aH x=true/\aH i=true:=by grind
     have h2:=aJ p h1.1
     have h3:=aJ p h1.2
     rw[aj h1.1]at h2;rw[aj h1.2]at h3;obtain⟨t',w',F',K,I,J⟩:=N1 (tt:=o.type) p h2 h3 h;unfold Oper.wp;have:(execOp a.eval o).run e.P w=.ok (.value (.tuple #[])) w':=by simp only[execOp,ho,resolve,invoke,builtin,Sem.run_bind,Sem.run_pure,Result.andThen_ok,List.map_toArray,akM,alN];rw[K];rfl
     rw[this];exact⟨_,I,H,γ,F',bH (aM t' o.dst (.tup [])) (J.put hd ⟨#[],rfl,trivial⟩)⟩
   |_=>grind
  |value v=>
   cases v with
   |func f=>
    dsimp only at h;split at h
    .rename_i C U hf;have T:=En.ok_get Z U hf
     have hr:(execOp a.eval o).run e.P w=.ok (.enter f (args.map a.eval).toArray) w:=by grind [execOp,resolve,Act.eval,Deferred.ofValue,invoke,Cont.run]
     unfold Oper.wp;rw[hr];refine Calls.mono (T.call g e.pk s a w H γ F args _ p j h) (λe' w' hp=>?_);rcases hp with⟨r,s',av,H',γ',F',k1,k2,k3,k4⟩|⟨v,s',k1,k2,k4⟩
     .subst k1;exact⟨_,k2,H',γ',F',bH (aM s' o.dst av) (k4.put hd k3)⟩
     subst k1;exact⟨_,N _ _ ⟨v,s',rfl,rfl,k2⟩,k4⟩
    grind
   |tmp t=>
    dsimp only at h;have M:Nat.blt t 100000=true->AR w H γ s.toS.m (gtA s.t t).toV (a.tmps.getD t undef):=λS=>by
     have h3:=p.t t
     rw[G.tv_lo (show t<TB from akR S),show bB s.toS.t t=(gtA s.t t).toV from dy t s.t]at h3;exact h3
    split at h
    .rename_i f S hf;split at h
     .rename_i C U W;have T:=En.ok_get Z U W
      have hv:a.eval (.tmp t)=.func (.func f) #[] #[]:=acH (M S) hf
      have hr:(execOp a.eval o).run e.P w=.ok (.enter f (args.map a.eval).toArray) w:=by grind [execOp,resolve,Deferred.ofValue,invoke,Cont.run]
      unfold Oper.wp;rw[hr];refine Calls.mono (T.call g e.pk s a w H γ F args _ p j h) (λe' w' hp=>?_);rcases hp with⟨r,s',av,H',γ',F',k1,k2,k3,k4⟩|⟨v,s',k1,k2,k4⟩
      .subst k1;exact⟨_,k2,H',γ',F',bH (aM s' o.dst av) (k4.put hd k3)⟩
      subst k1;exact⟨_,N _ _ ⟨v,s',rfl,rfl,k2⟩,k4⟩
     grind
    .rename_i S hf;split at h
     .rename_i key Y;split at h
      .rename_i C U;obtain⟨f,ps,rfl,hv⟩:=XE (M S) Y;have ac:a.eval (.tmp t)=.func (.func f) #[] ps:=hv
       have T:=(En.ok_get' Z U).2 kQ1
       .have hr:(execOp a.eval o).run e.P w=.ok (.enter f ((args.map a.eval).toArray++ps)) w:=by
         have h5:=T.run
         grind [execOp,resolve,Deferred.ofValue,invoke]
        unfold Oper.wp;rw[hr];have h6:=T.call g e.pk s a w H γ F t args _ ps p j (akR S) (by grind) h
        rw[Nat.add_sub_cancel]at h6;refine Calls.mono h6 (λe' w' hp=>?_);rcases hp with⟨r,s',av,H',γ',F',k1,k2,k3,k4⟩|⟨v,s',k1,k2,k4⟩
        .subst k1;exact⟨_,k2,H',γ',F',bH (aM s' o.dst av) (k4.put hd k3)⟩
        subst k1;exact⟨_,N _ _ ⟨v,s',rfl,rfl,k2⟩,k4⟩
      grind
     grind
    grind
   |_=>grind
  |invoke r n=>grind
 |makeMap t r=>
  rw[ho]at h j;have key:∀d,o.dst=some d->jO e.P e.E (jb e.sh (4000000+t)).isSome s t d k->(∀v,r.map a.eval=some v->∃κ n,v=.int κ n)->o.wp e.P a w (λa' w'=>∃s':St,k s'/\R g s'.toS a' w') (lift g Q):=by
   intro d B h hr;rw[B]at hd;obtain⟨t',y,w',γ',F',K,I,J⟩:=Ky p hd h hr;unfold Oper.wp;have:(execOp a.eval o).run e.P w=.ok (.value y) w':=by simp_all[execOp]
   rw[this];exact⟨t',I,H,γ',F',by grind⟩
  dsimp only at h;split at h
  .grind
  .rename_i d x B;split at h
   .rename_i κ n hx;refine key d B h (λv hv=>?_);have h3:=aJ p (show aH x=true from j)
    rw[aj j,hx]at h3;exact⟨κ,n,by rw[<- Option.some.inj hv];exact(oh h3).1⟩
   grind
  grind
 |lookup t x i ok=>
  rw[ho]at h j;have h1:aH x=true/\aH i=true:=by grind
  have h2:=aJ p h1.1
  have h3:=aJ p h1.2
  rw[aj h1.1]at h2;rw[aj h1.2]at h3;dsimp only at h;split at h
  .rename_i d _ B;rw[B]at hd;obtain⟨t',y,γ',F',K,I,J⟩:=KE p hd h1.1 h1.2 h;unfold Oper.wp;have:(execOp a.eval o).run e.P w=.ok (.value y) w:=by simp_all[execOp]
   rw[this];exact⟨_,I,H,γ',F',by grind⟩
  obtain⟨z,v,K,I,J⟩:=N3 p h2 h3 h;unfold Oper.wp;have:(execOp a.eval o).run e.P w=.ok (.value z) w:=by simp_all[execOp]
  rw[this];exact⟨_,J,H,γ,F,bH (aM s o.dst v) (p.put hd I)⟩
 |mapUpdate t m i v=>
  rw[ho]at h j;have h1:(aH m=true/\aH i=true)/\aH v=true:=by grind
  dsimp only at h;split at h
  .have h2:=aJ p h1.1.1
   have h3:=aJ p h1.1.2
   have h4:=aJ p h1.2
   rw[aj h1.1.1]at h2;rw[aj h1.1.2]at h3;rw[aj h1.2]at h4;obtain⟨t',w',F',K,I,J⟩:=N5 p h2 h3 h4 h;unfold Oper.wp;have:(execOp a.eval o).run e.P w=.ok .skip w':=by simp_all[execOp]
   rw[this];exact⟨_,I,H,γ,F',bH (aM t' o.dst .any) (J.put hd trivial)⟩
  obtain⟨H1,F1,D⟩:=io p (evA s v);have h2:=aJ D h1.1.1
  have h3:=aJ D h1.1.2
  have h4:=aJ D h1.2
  rw[aj h1.1.1]at h2;rw[aj h1.1.2]at h3;rw[aj h1.2]at h4;obtain⟨t',w',F',K,I,J⟩:=N6 D h2 h3 h4 h;unfold Oper.wp;have:(execOp a.eval o).run e.P w=.ok .skip w':=by simp_all[execOp]
  rw[this];exact⟨_,I,H1,γ,F',bH (aM t' o.dst .any) (J.put hd trivial)⟩
 |makeSlice t n c=>
  rw[ho]at h j;have h1:aH n=true/\aH c=true:=by grind
  cases B:o.dst with
  |none=>grind
  |some d=>
   rw[B]at h hd;obtain⟨t',y,w',γ',F',K,I,J⟩:=Ck p hd h1.1 h;unfold Oper.wp;have:(execOp a.eval o).run e.P w=.ok (.value y) w':=by simp_all[execOp]
   rw[this];exact⟨t',I,H,γ',F',by grind⟩
 |makeFunc fn first caps=>
  rw[ho]at h j;dsimp only at h;split at h
  .rename_i f ab;obtain⟨t',H',K,I⟩:=Fw p hd j h;unfold Oper.wp;have hf0:first=#[]:=by grind
   have:(execOp a.eval o).run e.P w=.ok (.value (.func (.func f) #[] (caps.toList.map a.eval).toArray)) w:=by simp only[execOp,ho,hf0,Instr.makeFunc];simp[<- Array.toList_map]
   rw[this];exact⟨t',K,H',γ,F,I⟩
  grind
 |range t x=>
  rw[ho]at h j;cases B:o.dst with
  |none=>grind
  |some d=>
   rw[B]at h hd;obtain⟨t',y,w',H',γ',F',K,I,J⟩:=UB p hd j h;unfold Oper.wp;have:(execOp a.eval o).run e.P w=.ok (.value y) w':=by simp_all[execOp]
   rw[this];exact⟨t',I,H',γ',F',by grind⟩
 |next x b=>
  rw[ho]at h j;cases b with
  |true=>grind
  |false=>
   have h1:=aJ p (show aH x=true from j)
   rw[aj j]at h1;obtain⟨t',z,w',F',K,I,J⟩:=Y0 p hd h1 o.type h;unfold Oper.wp;have:(execOp a.eval o).run e.P w=.ok (.value z) w':=by simp only[execOp,ho];rw[Sem.run_bind,K];rfl
   rw[this];exact⟨t',I,H,γ,F',J⟩
 |entry x=>
  rw[ho]at h j;have h1:=aJ p (show aH x=true from j)
  rw[aj j]at h1;obtain⟨t',z,K,I,J⟩:=S8 p hd h1 h;unfold Oper.wp;have:(execOp a.eval o).run e.P w=.ok (.value z) w:=by simp only[execOp,ho];rw[Sem.run_bind,K];rfl
  rw[this];exact⟨t',I,H,γ,F,J⟩
 |_=>grind
theorem Gn{e:En}(n:e.ok)(l:∀x s,PQ e.pk x s->Q x s){k:St->Prop}(hc:opC g.nt o=true)(h:FN e o s k):AOt e.P g o k Q s:=by
 unfold FN at h;split at h
 .intro a w ⟨H,γ,F,j⟩;obtain⟨H1,F1,b⟩:=zp j o;obtain⟨z,d,B,_,c,i,f⟩:=Bh b hc (Zs b hc h);obtain⟨m,rfl,hk⟩:=f;unfold Oper.wp;rw[c w (λ_ _=>rfl)];exact⟨_,hk,H1,γ,F1,bH (aM _ _ _) (b.put (gl hc) i)⟩
 grind [afQ]
theorem Z8{e:En}(S:e.ok)(M:∀x s,PQ e.pk x s->Q x s){k:St->Prop}(hc:opC g.nt o=true)(h:opT e o s k):AOt e.P g o k Q s:=by
 unfold opT at h;split at h
 .rename_i A;intro a w ⟨H,γ,F,u⟩;unfold Ln at h;have b:=hc
  unfold opC at b;rw[akI]at b;obtain⟨hd,b⟩:=b;split at h
  .rename_i t x hi d ho f;rw[ho]at b;rw[f]at hd;simp only[akI,Option.all_none,and_true]at b;obtain⟨t',y,γ',F',I,j,E⟩:=La u hd b.1 b.2 h;unfold Oper.wp;have:(execOp a.eval o).run e.P w=.ok (.value y) w:=by simp_all[execOp]
   rw[this];exact⟨t',j,H,γ',F',by grind⟩
  .rename_i x d ho f;rw[ho]at b;rw[f]at hd;obtain⟨t',H',F',j,E⟩:=N2 u hd b h;unfold Oper.wp;have:(execOp a.eval o).run e.P w=.ok (.value (a.eval x)) w:=by simp_all[execOp]
   rw[this];exact⟨t',j,H',γ,F',by grind⟩
  .rename_i c d ho f;rw[ho]at b;rw[f]at hd;split at h
   .rename_i x hx;obtain⟨t,kt,et,L,K,G⟩:=Y8 ho f A;have r:aH x=true:=by grind
    have h1:=aJ u r
    rw[aj r]at h1;obtain⟨t',z,I,j,E⟩:=N4 (tt:=o.type) u hd h1 G h;unfold Oper.wp;have:(execOp a.eval o).run e.P w=.ok (.value z) w:=by
     obtain⟨D,⟨args⟩,⟨p⟩⟩:=c
     simp_all[builtin,execOp,resolve,invoke]
    rw[this];exact⟨t',j,H,γ,F,by grind⟩
   grind
  .rename_i t x i d ho f;rw[ho]at b;simp only[akI]at b;obtain⟨H1,n⟩:=qW [evA s x] s H u;dsimp only at h;generalize uN s [evA s x]=s1 at h n;split at h
   .rename_i row C;split at h
    .rename_i l hl;have I:=Em hl
     have hk:=sE (m:=s1.m) (P:=e.P) (t:=t) (x:=.one (.c (.ga .s l 0))) (i:=evA s1 i) (λq hq=>by grind) h
     have j:(At.one (.c (.ga .s l 0))).toV=ev s1.toS x:=by
      rw[aj b.1,C,I];show AV.one (.c (.el _ 0))=AV.one (.c (.el _ 0))
      rw[alW];rfl
     rw[j,<- aj b.2]at hk;have hq:qK e.P o s1.toS (up λv=>k (s1.put (some d) v)):=by unfold qK;rw[ho];exact hk
     obtain⟨z,O,B,_,E,N,R,rfl,J⟩:=Bh n hc hq;unfold Oper.wp;rw[E w (λ_ _=>rfl)];exact⟨_,J,H1,γ,F,by rw[f];exact bH (aM _ _ _) (n.put (by grind) N)⟩
    grind
   grind
  grind
 grind [Gn]
theorem Vb{s s':S}(e:SEq s s')(h:AO P g o K Q s'):AO P g o K Q s:=λa w b=>h a w (C5 e b)
theorem LJ{ops rest:List Oper}{s s':S}(e:SEq s s')(h:AL P g ops rest Q s'):AL P g ops rest Q s:=λa w b=>h a w (C5 e b)
theorem O9(h:AOt P g o (λt=>K t.toS) Q s):AO P g o K Q s.toS:=λa w c=>cD (λa' w'⟨s',hk,b⟩=>⟨s'.toS,hk,b⟩) (λ_ _ _ h=>h) (h a w c)
theorem vr(s:St)(d:Nat)(b:Bool):SEq (s.toS.put (some d) (.one (.c (.d (.bool b))))) (s.put (some d) (sct (.bo b))).toS:=aM s (some d) (sct (.bo b))
theorem Be(s:St)(d:Nat)(b:Bool)(o:Option Tmp):SEq ((s.toS.put (some d) (.one (.c (.d (.bool b))))).put o (.tup [])) ((s.put (some d) (sct (.bo b))).put o (.tup [])).toS:=by
 have h1:=vr s d b
 have h2:=aM (s.put (some d) (sct (.bo b))) o (.tup [])
 refine⟨λi=>?_,?_⟩
 .rw[<- h2.1 i];cases o with
  |none=>exact h1.1 i
  |some o=>show bB (xc _ o _) i=bB (xc _ o _) i;rw[jq,jq,h1.1 i];rfl
 cases o<;>exact h1.2
theorem og{e:En}(p:e.ok)(f:∀x s,PQ e.pk x s->Q x s){k:St->Prop}:∀{rest:List Oper}{s:St},adQ g.nt all rest=true->o9 e all rest s k->(∀t:St,k t->Q .normal t.toS)->AL e.P g all rest Q s.toS
 |[],s,_,h,n=>Va (n s h)
 |o::r,s,hc,h,n=>by
  simp only[adQ,akI]at hc;obtain⟨⟨i,b⟩,l⟩:=hc;simp only[o9]at h;have run:∀{s:St},opT e o s (λs'=>o9 e all r s' k)->AO e.P g o (AL e.P g all r Q) Q s.toS:=λ{s}h=>O9 (λa w z=>cD (λa' w'⟨s',hk,y⟩=>⟨s',og p f l hk n,y⟩) (λ_ _ _ h=>h) (Z8 p f i h a w z))
  cases v:o.guard with
  |none=>grind [O8]
  |some q=>
   obtain⟨j,want⟩:=q;rw[v]at h b;dsimp only at h b;cases hj:(all[j]?).bind (·.dst)with
   |none=>grind
   |some d=>
    rw[hj]at h b;dsimp only at h b;split at h
    .rename_i c m;have u:=jr m
     cases want with
     |true=>
      refine Gm v hj u b (gl i) (λhc=>?_) (λhc=>?_)
      .grind [Vb,vr]
      subst hc;exact LJ (Be s d _ _) (og p f l h n)
     |false=>
      refine Gm v hj u b (gl i) (λhc=>?_) (λhc=>?_)
      .grind [Vb,vr]
      subst hc;exact LJ (Be s d _ _) (og p f l h n)
    .rename_i m;exact LK v hj (jr m) (gl i) (LJ (aM s o.dst (.tup [])) (og p f l h n))
    grind
theorem A2{e:En}(d:e.ok){k k':St->Prop}:∀{rest:List Oper}{s:St},(∀s',Ext s s'->k s'->k' s')->o9 e all rest s k->o9 e all rest s k'
 |[],s,hk,h=>hk s (Ext.refl s) h
 |o::r,s,hk,h=>by
  have run:∀{s1:St},Ext s s1->opT e o s1 (λs'=>o9 e all r s' k)->opT e o s1 (λs'=>o9 e all r s' k'):=λ{s1}h1 h=>adP d (λs' h2 b=>A2 d (λa h3=>hk a ((h1.trans h2).trans h3)) b) h
  have rest:∀{s1:St},Ext s s1->o9 e all r s1 k->o9 e all r s1 k':=λ{s1}h1 h=>A2 d (λa h3=>hk a (h1.trans h3)) h
  simp only[o9]at h|-;split at h
  .grind [Ext.refl]
  rename_i j want g;split at h
  .split at h
   .rename_i c f;cases want<;>cases c<;>simp only[if_false]at h|-
    .grind [aC]
    .exact rest ((aC _ _ _).trans (aC _ _ _)) h
    .exact rest ((aC _ _ _).trans (aC _ _ _)) h
    grind [aC]
   all_goals grind [aC]
  omega
end
variable{fuel:Nat}{listed:Array Bool}{no:St->Prop}{ops:Array Oper}
section
variable {e:En} {g:G} {k:St->Prop} {Q:Exit->S->Prop}
theorem Tz(h:Yj x=true):JD x.toV=true:=by
 unfold Yj at h;split at h
 .rfl
 .rfl
 grind
theorem MU{s:St}(hc:opC g.nt o=true)(h:oL s o=true):gX s.toS o:=by grind [oL,gX,opC,aj,Tz]
theorem afB{ops:List Oper}{s:St}{f:St->Prop}(h:gT ops o s f no):gK ops o s.toS (upS f) (upS no):=by
 unfold gT at h;unfold gK;cases b:o.guard with
 |none=>rw[b]at h;exact⟨s,⟨λ_=>rfl,rfl⟩,h⟩
 |some q=>
  obtain⟨j,want⟩:=q;rw[b]at h;dsimp only at h|-;cases hj:(ops[j]?).bind (·.dst)with
  |none=>grind
  |some d=>
   rw[hj]at h;dsimp only at h|-;split at h
   .rename_i c a;rw[jr a]
    grind [At.toV,A1.toV,Tt.toT,C.toD,gsel,vr,Be]
   .rename_i a;rw[jr a];exact⟨_,aM s o.dst (.tup []),h⟩
   grind
theorem XX{ops:List Oper}{s:St}{f f' a:St->Prop}(hf:∀s',Ext s s'->f s'->f' s')(hn:∀s',Ext s s'->no s'->a s')(h:gT ops o s f no):gT ops o s f' a:=by
 unfold gT at h|-;cases b:o.guard with
 |none=>grind [Ext.refl]
 |some q=>
  obtain⟨j,want⟩:=q;rw[b]at h;dsimp only at h|-;cases hj:(ops[j]?).bind (·.dst)with
  |none=>grind
  |some d=>
   rw[hj]at h;dsimp only at h|-;split at h
   .rename_i c _;cases want<;>cases c<;>simp only[if_false]at h|-
    .grind [aC]
    .exact hn _ ((aC _ _ _).trans (aC _ _ _)) h
    .exact hn _ ((aC _ _ _).trans (aC _ _ _)) h
    grind [aC]
   all_goals grind [aC]
theorem Gl{A:List Nat}{fz:Bool}(E:mf g.nt ops=true)(hs:Region.noSelect ops=true)(hi:ops[i]? = some o)
  (q:BJ ops listed i A fz=true) {s:St} {D:St->Prop} (r:∀s:St,D s->AD e.P g ops Q K fuel (listed.setIfInBounds i true) s.toS)
  (h:gT ops.toList o s (λs=>(fz=true->oL s o=true)/\qT e o s λv=>D (s.put o.dst v)) D):AD e.P g ops Q K (fuel+1) listed s.toS:=by
 intro a w H γ F Pr x n;simp only[BJ,akI]at q;obtain⟨⟨⟨⟨t,y⟩,t3⟩,t4⟩,t5⟩:=q;obtain⟨p,J⟩:=mg E hi;have c:=Region.ready_mem_of_contains y
 have l:behind .any ops i (λj=>A.contains j) listed:=by
  intro j hj f;have:=akZ.1 t4 j (by grind)
  rw[gq.2 f]at this;cases ho:ops[j]?<;>grind [gq]
 have k:∀j,(listed.setIfInBounds i true).getD j true=false->listed.getD j true=false:=λj h=>(jp h).1
 rcases uQ x (afB h) (gl p) J with⟨hw,s0,⟨s',e0,hf,hq⟩,hX0⟩|⟨hw,s0,⟨s',e0,hno⟩,hX0⟩
 .have hX':=bH e0 hX0
  obtain⟨z,d,B,e0,I,u,M,C,hk⟩:=Bh hX' p (Zs hX' p hq);subst C;refine kH (uw g Q) (A:=λj=>A.contains j) (B:=B) (v:=z) hi (Region.noSelect_spec hs) fuel listed Pr (λj b=>Pr j b\/(A.contains j=false/\B b)) a w (λj b h=>.inl h) (λj b h1 h2=>.inr ⟨h1,h2⟩)
   (Region.free_spec hi t) l c (.inl ⟨hw,λw2 hs2=>I w2 hs2⟩) (r _ hk (a.put o.dst z) w H γ F _ (bH (aM _ _ _) (hX'.put (gl p) u)) ?_)
  intro j G hj f;obtain⟨m,L⟩:=jp f;rcases n j G hj m with hp|hp
  all_goals grind [MU,gq]
 have hX':=bH e0 hX0
 refine kH (uw g Q) (A:=λ_=>false) (B:=λ_=>False) (v:=undef) hi (Region.noSelect_spec hs) fuel listed Pr Pr a w (λj b h=>h) (λj b _ h2=>h2.elim)
  (Region.free_spec hi t) (λj h=>by cases h) c (.inr ⟨hw,rfl⟩) (r _ hno (a.put o.dst undef) w H γ F _ hX' (n.mono k (λ_ _ _ h=>h)))
theorem U9(W:e.ok)(u:∀x s,PQ e.pk x s->Q x s)(T:mf g.nt ops=true)(A:listed.getD i true=false)(hi:ops[i]? = some o){s:St}
  {D:St->Prop} (J:∀s:St,D s->AD e.P g ops Q K fuel (listed.setIfInBounds i true) s.toS) (h:gT ops.toList o s (λs=>FN e.cl o s D) D) {a:Act} {w:World} {H:FH} {γ:Gam} {F:Nm->Fp} {Pr:Nat->Bs} (O:RX g s.toS a w H γ F) (k:RF ops listed H Pr) :
  lOp e.P ops (Zx g Q) Pr i (λa' w'=>∃r:Nat->Bs,(∀j b,Pr j b->r j b)/\tZ e.P .any ops (Zx g Q) (λa w=>∃s',K s'/\R g s' a w) fuel (listed.setIfInBounds i true) r a' w') a w:=by
 have f:∀j,(listed.setIfInBounds i true).getD j true=false->listed.getD j true=false:=λj h=>(jp h).1
 unfold lOp;rw[hi];obtain⟨q,V⟩:=mg T hi;dsimp only;rcases uQ O (afB h) (gl q) V with⟨hw,s0,⟨s',e0,hop⟩,hX0⟩|⟨hw,s0,⟨s',e0,hno⟩,hX0⟩
 .have hX':=bH e0 hX0
  rw[if_pos hw];by_cases hq:isQ o=true
  .unfold FN at hop;rw[hq]at hop;obtain⟨H1,F1,l,L⟩:=Ik hX' (λg' H F hx=>zp hx o);obtain⟨z,d,B,_,U,N,S⟩:=Bh l q (Zs l q hop);obtain⟨X,rfl,hk⟩:=S;unfold Oper.wp;rw[U w (λ_ _=>rfl)];exact⟨λ_ _=>rfl,Pr,λ_ _ h=>h,J _ hk (a.put o.dst z) w H1 γ F1 Pr (bH (aM _ _ _) (l.put (gl q) N)) (k.mono f L)⟩
  have hp:∀b,Pr i b->∃x y,H b x=some y:=by
   rcases k i o hi A with h|h
   all_goals grind
  let g':G:=⟨g.nt,w,H,tot F s'.toS.m,g.out,g.ex,g.dfs⟩
  have M:RX g' s'.toS a w H γ F:=⟨hX'.mem,Fr.refl' rfl rfl rfl rfl (λ_ h=>h),hX'.nt,⟨hX'.df.1,hX'.df.2.1,jI hX'⟩,hX'.t⟩
  refine cD ?_ (λx a' w' h=>?_) (Gn (g:=g') (e:=e.cl) (Q:=PQ e.cl.pk) W (λ_ _ h=>h) q hop a w ⟨H,γ,F,M⟩)
  .intro a' w' ⟨s2,hs2,E,p,I,c⟩;have n:=c.fr
   refine⟨λb hb=>?_,Pr,λ_ _ h=>h,?_⟩
   .obtain⟨x,y,C⟩:=hp b hb;have hc:=hX'.mem.agree b x y C
    refine n.block b ?_ ?_
    .exact hc.lt
    rcases alI (tot F s'.toS.m b)with h|h
    .exact h
    have:=hX'.mem.nofz b kQ1 x
    grind
   exact J _ hs2 a' w' E p I Pr ⟨c.mem,hX'.fr.trans n,c.nt,⟨c.df.1,c.df.2.1,hX'.df.2.2⟩,c.t⟩ (k.mono f n.hold)
  obtain⟨s2,⟨v,t,rfl,rfl,hv⟩,E,p,I,c⟩:=h;exact⟨t.clr.toS,rfl,u _ _ ⟨v,t.clr,rfl,rfl,hv⟩,E,p,I,Wq ⟨c.mem,hX'.fr.trans c.fr,c.nt,⟨c.df.1,c.df.2.1,hX'.df.2.2⟩,c.t⟩ rfl rfl⟩
 have hX':=bH e0 hX0
 rw[if_neg (by grind)];exact⟨Pr,λ_ _ h=>h,J _ hno (a.put o.dst undef) w H γ F Pr hX' (k.mono f (λ_ _ _ h=>h))⟩
theorem lE{s:St}{A:List Nat}{fz:Bool}:∀{a:List Nat},A6 ops listed s a=some (i,A,fz) ->
  ∃o,ops[i]? = some o/\BJ ops listed i A fz=true/\(fz=true->oL s o=true)/\isQ o=true
 |[],h=>by cases h
 |j::r,h=>by
  simp only[A6]at h;split at h
  .exact lE h
  split at h
  .exact lE h
  split at h
  .split at h
   .grind
   exact lE h
  split at h
  .grind
  exact lE h
theorem Im{f:Nat->Prop}:∀{l:List Nat},WF f l->∀i∈l,f i
 |[i],h,j,hj=>by simp only[akY]at hj;subst hj;exact h
 |i::i'::r,h,j,hj=>by
  simp only[akU]at hj;rcases hj with rfl|hj
  .exact h.1
  exact Im h.2 j (by grind)
theorem Uu{s:St}{x:Operand}(h:o.op=.load t x):KV s o=s:=by grind [KV]
theorem t7(l:e.ok)(c:∀x s,PQ e.pk x s->Q x s)(f:mf g.nt ops=true)(hs:Region.noSelect ops=true)(p:∀t:St,k t->K t.toS) :
  ∀(fuel:Nat)(listed:Array Bool)(s:St),kh e ops fuel listed s k->AD e.P g ops Q K fuel listed s.toS
 |0,listed,s,h=>by grind [kh,U8]
 |fuel+1,listed,s,h=>by
  simp only[kh]at h;split at h
  .grind [U8]
  rename_i v y hr;split at h
  .rename_i i A fz hp;obtain⟨o,hi,u,hf,hq⟩:=lE hp;rw[hi]at h;dsimp only at h;split at h
   .intro a w H γ F Pr r d;obtain⟨H1,F1,m,n⟩:=Ik r (λg' H F hx=>zp hx o);refine Gl (D:=λs'=>kh e ops fuel (listed.setIfInBounds i true) s' k) f hs hi u (λs' b=>t7 l c f hs p fuel _ _ b) ?_ a w H1 γ F1 Pr m (d.mono (λ_ h=>h) n)
    grind [gT,Uu,oL]
   refine Gl (D:=λs'=>kh e ops fuel (listed.setIfInBounds i true) s' k) f hs hi u (λs' b=>t7 l c f hs p fuel _ _ b) ?_
   grind
  intro a w H γ F Pr r d;refine⟨λh0=>absurd (hr ▸ h0) (by simp),λi hi=>?_⟩;have q:=(mem_ready.1 hi).1
  have j:=Im h i (hr ▸ hi)
  cases ho:ops[i]? with
  |none=>grind
  |some o=>rw[ho]at j;exact U9 l c f q ho (λs b=>t7 l c f hs p fuel _ s b) j r d
theorem Vm{id:Nat}{l:List Oper}(m:e.ok)(c:∀x s,PQ e.pk x s->Q x s)(hm:e.P.follows .mixedOrders=true)(i:mf g.nt l.toArray=true)(hs:Region.noSelect l.toArray=true){s:St}
  (d:∀t:St,k t->Q .normal t.toS) (h:kh e l.toArray l.toArray.size (Array.replicate l.toArray.size false) s k):AW e.P g (.region id l.toArray true) Q s.toS:=by
 intro a w f;refine wp_region_any hm (pz (Z:=Zx g Q) (Q:=λa w=>∃s',Q .normal s'/\R g s' a w) (λa w h=>h) (λe a w h=>aaX h) _ _ (λ_ _=>False) _ _ ?_);obtain⟨H,γ,F,n⟩:=f;exact t7 (Q:=Q) m c i hs d _ _ s h a _ H γ F _ (Wm n _ rfl rfl rfl rfl) (λj o _ _=>.inr λb hb=>hb.elim)
theorem Il{f f':Nat->Prop}(h:∀i,f i->f' i):∀{l:List Nat},WF f l->WF f' l
 |[],_=>trivial
 |[i],a=>h i a
 |i::i'::r,a=>⟨h i a.1,Il h (l:=i'::r) a.2⟩
theorem kM(b:e.ok){k':St->Prop}:∀{fuel:Nat}{listed:Array Bool}{s:St},(∀s',Ext s s'->k s'->k' s')->kh e ops fuel listed s k->kh e ops fuel listed s k'
 |0,listed,s,hk,h=>by grind [kh,Ext.refl]
 |fuel+1,listed,s,hk,h=>by
  simp only[kh]at h|-;split at h
  .grind [Ext.refl]
  split at h
  .split at h
   .split at h
    .exact FQ (λv hv=>kM b (λs' a=>hk s' (((Gw _ _).trans (aC _ _ _)).trans a)) hv) h
    refine XX (λs1 h1 hs1=>?_) (λs1 h1 hs1=>kM b (λs' a=>hk s' (h1.trans a)) hs1) h;split at hs1
    .exact FQ (λv hv=>kM b (λs' a=>hk s' ((h1.trans (aC _ _ _)).trans a)) hv) hs1
    omega
   omega
  refine Il (λi hi=>?_) h;split at hi
  .exact XX (λs1 h1 hs1=>KM (e:=e.cl) b (λs2 h2 hs2=>kM b (λs' a=>hk s' ((h1.trans h2).trans a)) hs2) hs1) (λs1 h1 hs1=>kM b (λs' a=>hk s' (h1.trans a)) hs1) hi
  omega
end
def sq(N:List Nm):T->Prop
 |.pl p=>p.root∈N
 |.rf p=>p.root∈N
 |_=>True
def yN(N:List Nm):AV1->Prop
 |.c t=>sq N t
 |.agg ts=>∀t∈ts,sq N t
def LM(N:List Nm):AV->Prop
 |.one x=>yN N x
 |.tup xs=>∀x∈xs,yN N x
 |.any=>True
def mC(r:Root):Root:=⟨r.blk,r.cells.map T.canon⟩
def oo(r a:Root):Prop:=a.blk=r.blk/\a.cells.length=r.cells.length/\∀(i:Nat)t t',r.cells[i]? = some t->a.cells[i]? = some t'->t'=t\/t'=t.canon
theorem oo.refl(r:Root):oo r r:=⟨rfl,rfl,λi t t' h1 h2=>.inl (by grind)⟩
theorem oo.canon(r:Root):oo r (mC r):=⟨rfl,by simp[mC],λi t t' h1 h2=>.inr (by grind [mC])⟩
theorem oo.of{r r':Root}(h:r'=r\/r'=mC r):oo r r':=by grind [oo.refl,oo.canon]
theorem tf:∀{m:Mm}{n:Nm}{r:Root},(m.map (·.1)).Nodup->(n,r)∈m->ah m n=some r
 |[],_,_,_,h=>by cases h
 |(k,x)::m,n,r,hn,h=>by
  simp only[akM,al2]at hn;simp only[ah];rcases akU.1 h with h|h
  .grind
  rw[if_neg (λe=>hn.1 (by grind)),tf hn.2 h]
theorem LA{F:Nm->Fp}{b:Nat}:∀{m' m:Mm},(m'.map (·.1)).Nodup->(m.map (·.1)).Nodup->(∀x∈m',∃r,ah m x.1=some r)->tot F m' b<=tot F m b
 |[],_,_,_,_=>alJ _
 |x::m',m,h1,h2,h=>by
  simp only[akM,al2]at h1;obtain⟨r,hr⟩:=h x (by simp);have e:=mz (F:=F) hr b
  have ih:=LA (F:=F) (b:=b) (m':=m') (m:=ci m x.1) h1.2 (AT h2) (λy hy=>by grind [nu])
  grind [tot]
section
variable {g:G} {a:Act} {w:World} {H:FH} {γ:Gam} {F:Nm->Fp}
theorem LW{R a:T->Fp->Value->Prop}:∀{ts:List T}{ts':List T}{f:Fp}{vs:List Value},ts'.length=ts.length->(∀(i:Nat)t t' f v,ts[i]? = some t->ts'[i]? = some t'->R t f v->a t' f v)->Ts R ts f vs->Ts a ts' f vs
 |[],[],_,_,_,_,h=>h
 |t::ts,t'::ts',f,vs,hl,hi,h=>by obtain⟨v,r,f1,b,d,c,h1,h2⟩:=h;exact⟨v,r,f1,b,d,c,hi 0 t t' _ _ rfl rfl h1,LW (by grind) (λi=>hi (i+1)) h2⟩
theorem Ws{s s':S}(j:RX g s a w H γ F)(G:(s'.m.map (·.1)).Nodup)
  (hm:∀x∈s'.m,∃r,ah s.m x.1=some r/\oo r x.2/\∀t∈r.cells,sq (s'.m.map (·.1)) t)
  (M:∀i,bB s'.t i=.any\/((bB s'.t i=bB s.t i\/bB s'.t i=(bB s.t i).map T.canon)/\LM (s'.m.map (·.1)) (bB s.t i))):RX g s' a w H γ F:=by
 have u:∀n,n∈s'.m.map (·.1)->∃r o,ah s.m n=some r/\ah s'.m n=some o/\oo r o:=by grind [tf]
 have cell:∀{r o:Root},oo r o->o.cells.length=r.cells.length/\∀(i:Nat)sub l,r.cells[i]? = some (.ow sub l)->o.cells[i]? = some (.ow sub l):=by
  rintro r o ⟨_,h2,h3⟩
  refine⟨h2,λi sub l h=>?_⟩;have k:i<o.cells.length:=by grind
  rw[akL k];rcases h3 i _ _ h (akL k)with e|e
  .rw[e]
  rw[e];rfl
 have pl:∀p,p.root∈s'.m.map (·.1)->cq s.m p->cq s'.m p:=by
  intro p hp h;obtain⟨r,o,C,D,B⟩:=u _ hp;obtain⟨N,P⟩:=cell B;unfold cq at h|-
  grind (splits:=20)
 have rf:∀p,p.root∈s'.m.map (·.1)->iB s.m p->iB s'.m p:=by
  intro p hp h;obtain⟨r,o,C,D,B⟩:=u _ hp;obtain⟨N,P⟩:=cell B;unfold iB at h|-;rw[C]at h;rw[D];dsimp only at h|-;split at h
  .grind
  .rename_i l hc A;have k:p.off<o.cells.length:=by grind
   have L:o.cells[p.off]? = some (.mp l):=by
    rw[akL k];rcases B.2.2 p.off _ _ hc (akL k)with e|e
    .rw[e]
    rw[e];rfl
   grind
  .rename_i cur l hc A;have k:p.off<o.cells.length:=by grind
   have L:∃I,o.cells[p.off]? = some (.it I l):=by
    rw[akL k];rcases B.2.2 p.off _ _ hc (akL k)with e|e
    .grind
    exact⟨none,by rw[e];rfl⟩
   grind
  all_goals grind
 have tr:∀{t:T}{f:Fp}{v:Value},sq (s'.m.map (·.1)) t->TR w H γ s.m t f v->TR w H γ s'.m t f v:=by
  intro t f v d h;cases t with
  |pl p=>exact⟨h.1,pl p d h.2.1,h.2.2⟩
  |rf p=>exact⟨h.1,rf p d h.2.1,h.2.2⟩
  |_=>exact h
 have O:∀{t:T}{f:Fp}{v:Value},sq (s'.m.map (·.1)) t->TR w H γ s.m t f v->TR w H γ s'.m t.canon f v:=by
  intro t f v d h;have h':=tr d h
  cases t with
  |nil=>exact⟨h'.1,(fw (w:=w) (H:=H) (γ:=γ) (m:=s'.m) .nil v ⟨λ_=>rfl,h'.2⟩).2⟩
  |it cur rest=>exact ae1 h'
  |_=>exact h'
 have J:∀b,tot F s'.m b<=tot F s.m b:=λb=>LA G j.mem.keys (λx hx=>by grind)
 refine⟨⟨j.mem.agree,λx hx=>?_,G,λb=>alV (J b) (j.mem.le1 b),λb hb=>j.mem.lt b (by grind),λb hb=>j.mem.nofz b (by grind)⟩,
  ⟨j.fr.size,j.fr.os,j.fr.tape,j.fr.output,j.fr.block,j.fr.hold,j.fr.hnew,λb hb=>j.fr.tt b (by grind),j.fr.nz⟩,j.nt,j.df,λi=>?_⟩
 .obtain⟨r,h1,h2,h3⟩:=hm x hx;have K:=j.mem.roots _ (al h1)
  have q:=(cell h2).1
  have key:∀(i:Nat)t t' f v,r.cells[i]? = some t->x.2.cells[i]? = some t'->TR w H γ s.m t f v->TR w H γ s'.m t' f v:=by
   intro i t t' f v C D h;have d:=h3 t (alL C)
   rcases h2.2.2 i t t' C D with e|e
   all_goals grind
  have E:x.2.blk=r.blk:=h2.1
  unfold cz at K|-;rw[E];split at K
  .rename_i hb;rw[if_pos hb];obtain⟨b,cs,ty,fz,g',k1,k2,k3,k4,k5,k6⟩:=K;exact⟨b,cs,ty,fz,g',k1,k2,k3,by grind,LW q key k5,k6⟩
  rename_i hb;rw[if_neg hb];obtain⟨v,t,k1,k2,k3⟩:=K;dsimp only at k2;rw[k2]at q key
  match hc:x.2.cells,q with
  |[t'],_=>exact⟨v,t',k1,rfl,key 0 t t' _ _ rfl (by grind) k3⟩
 rcases M i with h|⟨h,d⟩
 .rw[h];trivial
 have hv:=j.t i
 have one:∀{x:AV1}{y:Value},yN (s'.m.map (·.1)) x->AR1 w H γ s.m x y->AR1 w H γ s'.m x y:=by
  intro x y d h;cases x with
  |c t=>exact tr d h
  |agg ts=>obtain⟨cs,C,D,B⟩:=h;refine⟨cs,C,D,LW rfl (λi t t' f v h1 h2 h=>?_) B⟩;rw[h1]at h2;obtain rfl:=Option.some.inj h2;exact tr (d t (alL h1)) h
 have all:AR w H γ s'.m (bB s.t i) (g.tv a i):=by
  revert hv d
  cases bB s.t i with
  |one x=>exact λd hv=>one d hv
  |tup xs=>
   rintro d ⟨l,e,hl⟩
   refine⟨l,e,?_⟩;have:∀(xs:List AV1)(ys:List Value),(∀x∈xs,yN (s'.m.map (·.1)) x)->ARs w H γ s.m xs ys->ARs w H γ s'.m xs ys:=by
    intro xs;induction xs with
    |nil=>intro ys _ h;cases ys<;>exact h
    |cons x xs ih=>
     intro ys d h;cases ys with
     |nil=>exact h.elim
     |cons y ys=>exact⟨one (d x (by simp)) h.1,ih ys (λz hz=>d z (alF _ hz)) h.2⟩
   exact this xs _ d hl
  |any=>exact λ_ _=>trivial
 grind [iF,fw]
end
variable{rs:List Nm}{s0:St}{σ:Sg}{J:FSp σ.sp->Prop}
section
variable {g:G} {a:Act} {w:World}
theorem Ww{s:S}{H:FH}{γ:Gam}{F:Nm->Fp}(h:RX g s a w H γ F):R g s a w:=⟨H,γ,F,h⟩
theorem Ak(n:Nm):∀m:List (Nm×Nat×Rt),cm (fN m n) n=none
 |[]=>rfl
 |(k,j,v)::m=>by
  simp only[fN];by_cases h:k=n
  .rw[if_pos h];exact Ak n m
  rw[if_neg h];simp only[cm];rw[if_neg h];exact Ak n m
theorem MY(s:St)(n:Nm):cm (s.fresh n).m n=none:=by
 unfold St.fresh;split
 .omega
 show cm (cO _ _ (fN s.m n)) n=none
 rw[Dp,Ak];rfl
theorem Cy(s:St)(k:Nat)(sh:List Sh)(u:U):Ext s (DN s k sh u):=by
 unfold DN;split
 .refine(cg s (kz k)).trans ⟨alD _,vW _ _ _ (akK _),kI _ _ _ (akK _)⟩
 .split
  .refine((uh s _).trans (cg _ (kz k))).trans ⟨alD _,vW _ _ _ (akK _),kI _ _ _ (akK _)⟩
  exact Ext.refl s
 exact Ext.refl s
theorem Qe{s:St}(h:R g s.toS a w)(k:Nat)(sh:List Sh)(u:U):R g (DN s k sh u).toS a w:=by
 obtain⟨H,γ,F,b⟩:=h;have hn:=gB b
 unfold DN;split
 .rename_i hv;obtain⟨γ',F',h'⟩:=P9 b k (kz k) sh;refine C5 ?_ (Ww h');unfold Uq;rw[jr hv];have e:ah (s.toS.fresh (kz k)).m (kz k)=none:=by rw[<- bN hn,show(s.fresh (kz k)).toS.m=toM (s.fresh (kz k)).m from rfl,uP,MY];rfl
  rw[e];show SEq ⟨xc (s.toS.fresh (kz k)).t k _,_⟩ _
  rw[<- bN hn];refine⟨λi=>?_,rfl⟩;rw[jq];rfl
 .rename_i n hv;split
  .rename_i c u' l' d hr;obtain⟨γ',F',h'⟩:=P9 b k (kz k) sh;refine C5 ?_ (Ww h');unfold Uq;rw[jr hv];simp only[At.toV,A1.toV,Tt.toT];rw[show ah s.toS.m n=some (⟨false,[.ow c u' l'],none⟩:Rt).toR from bz hr];show SEq ⟨xc ((s.toS.drop n).fresh (kz k)).t k _,_⟩ _
   rw[<- bT hn,<- bN (P4 hn)];refine⟨λi=>?_,rfl⟩;rw[jq];rfl
  exact⟨H,γ,F,b⟩
 exact⟨H,γ,F,b⟩
theorem dU(n:Nm)(us:List U):∀(sh:List Sh)(off:Nat)(s:St),Ext s (cu s n us sh off)
 |[],_,s=>Ext.refl s
 |.ow sub::r,off,s=>by
  simp only[cu];split
  .split
   .rename_i cells hr _ _ u hc a;have h1:Ext s ⟨s.nx+1,s.t,fp s.m n s.nx ⟨true,cells.set off (.ow sub u []),none⟩⟩:=⟨alD _,λ_ _ _ h _=>h,dL _ _ (akK _) _⟩
    exact h1.trans (dU n us r (off+1) _)
   exact dU n us r (off+1) s
  exact Ext.refl s
 |.fr::r,off,s=>by
  simp only[cu];split
  .split
   .exact(vX s _).trans (dU n us r (off+1) _)
   exact dU n us r (off+1) s
  exact Ext.refl s
theorem Qd{s:St}(h:R g s.toS a w)(q:Pl):R g (uO s q).toS a w:=by obtain⟨H,γ,F,b⟩:=h;obtain⟨H',F',h'⟩:=wa b q;exact⟨H',γ,F',h'⟩
theorem Qc{s:St}(h:R g s.toS a w)(v:At):R g (ja s v).toS a w:=by obtain⟨H,γ,F,b⟩:=h;obtain⟨H',F',h'⟩:=io b v;exact⟨H',γ,F',h'⟩
theorem eT(n:Nm)(us:List U):∀(sh:List Sh)(off:Nat){s:St},R g s.toS a w->R g (cu s n us sh off).toS a w
 |[],_,_,h=>h
 |.ow sub::r,off,s,h=>by
  simp only[cu];split
  .rename_i cells hr;split
   .rename_i u hc d;refine eT n us r (off+1) ?_;obtain⟨H,γ,F,c⟩:=h;have h':=aaU c n off sub
    have e:s.toS.ownR n off sub=(⟨s.nx+1,s.t,fp s.m n s.nx ⟨true,cells.set off (.ow sub u []),none⟩⟩:St).toS:=by
     unfold S.ownR;rw[show ah s.toS.m n=some (⟨true,cells,none⟩:Rt).toR from bz hr];have b:(⟨true,cells,none⟩:Rt).toR.cells[off]? = some .nil:=by
      show(cells.map Tt.toT)[off]? = _
      rw[akN,hc];rfl
     show(match(⟨true,cells,none⟩:Rt).toR.cells[off]? with|some .nil=>_|_=>_)=_
     rw[b];refine bT.S_ext rfl ?_;show _=toM (fp s.m n s.nx _)
     rw[fV]
     congr 1
     grind [Rt.toR,holed,alB,Tt.toT]
    grind [Ww]
   exact eT n us r (off+1) h
  omega
 |.fr::r,off,s,h=>by
  simp only[cu];split
  .split
   .exact eT n us r (off+1) (Qd h _)
   exact eT n us r (off+1) h
  omega
theorem iG:∀(sp:List Sp)(s:St),Ext s (prep sp s)
 |[],s=>Ext.refl s
 |.sl k u::r,s=>(jd s _).trans (iG r _)
 |.ow k sh u::r,s=>(Cy s k sh u).trans (iG r _)
 |.rt n sh u::r,s=>(dU n _ (unmark sh) 0 s).trans (iG r _)
 |.mp _ _ _::r,s=>iG r s
 |.mo _ _ _::r,s=>iG r s
 |.it _ _ _::r,s=>iG r s
 |.gw _ _ _::r,s=>iG r s
theorem oy:∀(sp:List Sp){s:St},R g s.toS a w->R g (prep sp s).toS a w
 |[],_,h=>h
 |.sl k u::r,_,h=>oy r (Qc h _)
 |.ow k sh u::r,_,h=>oy r (Qe h k sh u)
 |.rt n sh u::r,_,h=>oy r (eT n _ (unmark sh) 0 h)
 |.mp _ _ _::r,_,h=>oy r h
 |.mo _ _ _::r,_,h=>oy r h
 |.it _ _ _::r,_,h=>oy r h
 |.gw _ _ _::r,_,h=>oy r h
mutual
theorem aeE:∀{a b:Sh},ajT a b=true->a=b
 |.fr,.fr,_=>rfl
 |.ow a,.ow b,h=>by rw[jX (show nZ a b=true from h)]
theorem jX:∀{a b:List Sh},nZ a b=true->a=b
 |[],[],_=>rfl
 |a::r,b::q,h=>by simp only[nZ,akI]at h;rw[aeE h.1,jX h.2]
end
def CL:List Tt->List C->Prop
 |[],[]=>True
 |t::ts,c::cs=>((t=.d c\/t=.d .nm/\∃k v,c=.mp k v none)\/(t=.nil/\∃u',c=.li u' []))/\CL ts cs
 |_,_=>False
theorem Qm{t:Tt}{x:El u}(h:BW u t=some x):(t=.d (au u x)\/t=.d .nm/\∃k v,au u x=.mp k v none)\/(t=.nil/\∃u',au u x=.li u' []):=by
 unfold BW at h;split at h
 .split at h
  .simp only[akJ]at h;subst h;exact .inl (.inr ⟨rfl,_,_,rfl⟩)
  grind
 .grind [eL]
 .split at h
  .simp only[akJ]at h;subst h;exact .inr ⟨rfl,_,rfl⟩
  grind
 grind
theorem IS:∀{us:List U}{ts:List Tt}{x:Fl us},l7 us ts=some x->CL ts (fM us x)
 |[],[],_,_=>trivial
 |u::r,c::cs,x,h=>by
  simp only[l7]at h;cases h1:BW u c with
  |none=>grind
  |some y=>
   cases h2:l7 r cs with
   |none=>grind
   |some z=>rw[h1,h2]at h;simp only[akJ]at h;subst h;rw[fM,uR,vN];exact⟨Qm h1,IS h2⟩
 |[],_::_,_,h=>by simp[l7]at h
 |_::_,[],_,h=>by simp[l7]at h
theorem oF{x:El u}(h:oE u ts=some x):CL ts (flat u x):=by
 cases u with
 |st n=>
  simp only[oE]at h;cases h1:l7 (sd n).fs ts with
  |none=>grind
  |some y=>
   rw[h1]at h;have:=Option.some.inj h
   subst this;show CL ts (fM (sd n).fs ((sd n).un ((sd n).mkF y)))
   rw[(sd n).l2];exact IS h1
 |_=>
  cases ts with
  |nil=>cases h
  |cons t r=>cases r with
   |nil=>exact⟨Qm h,trivial⟩
   |cons _ _=>cases h
theorem yR:∀{ts:List Tt}{cs:List C},CL ts cs->(cs.map Tt.d).map Tt.toT=(ts.map Tt.toT).map T.canon/\∀N,∀t∈ts.map Tt.toT,sq N t
 |[],[],_=>⟨rfl,λ_ _ h=>by simp at h⟩
 |t::ts,c::cs,h=>by
  obtain⟨h1,h2⟩:=h;obtain⟨k1,k2⟩:=yR h2;simp only[akM,k1];rcases h1 with(rfl|⟨rfl,k,v,rfl⟩)|⟨rfl,u',rfl⟩
  .exact⟨rfl,λN t a=>by
    rcases akU.1 a with rfl|a
    .trivial
    grind⟩
  .exact⟨rfl,λN t a=>by
    rcases akU.1 a with rfl|a
    .trivial
    grind⟩
  exact⟨rfl,λN t a=>by
   rcases akU.1 a with rfl|a
   .trivial
   grind⟩
 |[],_::_,h=>h.elim
 |_::_,[],h=>h.elim
theorem zS{x:El u}(h:pY u v=some x):(BK u x).toV=v.toV.map T.canon/\∀N,LM N v.toV:=by
 unfold pY at h;split at h
 .unfold Xz at h;split at h
  .rename_i t;split at h
   .rename_i hl;have hc:=oF h
    rw[nl hl]at hc;obtain⟨k1,k2⟩:=yR hc;have e:(BK u x)=sct (au u x):=by cases u<;>first|rfl|cases hl
    refine⟨?_,λN=>k2 N t.toT (by simp)⟩
    grind [At.toV,A1.toV,AV.map,AV1.map]
   grind
  split at h
  .cases h
  rename_i hl;obtain⟨k1,k2⟩:=yR (oF h);have e:(BK u x)=.one (.agg ((flat u x).map Tt.d)):=by cases u<;>first|rfl|cases hl
  exact⟨by grind [At.toV,A1.toV,AV.map,AV1.map],λN=>k2 N⟩
 grind
theorem yH:∀{sh:List Sh}{cells ts:List Tt}{cs:List C},i7 sh cells=some ts->CL ts cs->(bX sh cs).map Tt.toT=(cells.map Tt.toT).map T.canon/\∀N,∀t∈cells.map Tt.toT,sq N t
 |[],[],ts,cs,h,hc=>by
  simp only[i7,akJ]at h;subst h;cases cs with
  |nil=>exact⟨rfl,λ_ _ h=>by simp at h⟩
  |cons _ _=>exact hc.elim
 |.ow s::r,c::cells,ts,cs,h,hc=>by
  cases c with
  |ow s' u l=>
   simp only[i7]at h;split at h
   .rename_i ts' hs hr;simp only[akJ]at h;subst h;cases cs with
    |nil=>exact hc.elim
    |cons c cs=>
     obtain⟨h1,h2⟩:=hc;obtain⟨k1,k2⟩:=yH hr h2;rcases h1 with(h1|⟨h1,_⟩)|⟨h1,_⟩
     .simp only[Tt.d.injEq]at h1;subst h1;rw[jX hs];simp only[bX,akM,k1];exact⟨rfl,λN t a=>by
       rcases akU.1 a with rfl|a
       .trivial
       grind⟩
     all_goals grind
   grind
  |_=>simp[i7]at h
 |.fr::r,c::cells,ts,cs,h,hc=>by
  have f:∀{t:Tt}{ts':List Tt},c=t->i7 r cells=some ts'->ts=t::ts'->(∃x,t=.d x)\/t=.nil->(bX (.fr::r) cs).map Tt.toT=((c::cells).map Tt.toT).map T.canon/\∀N,∀t∈(c::cells).map Tt.toT,sq N t:=by
   rintro t ts' rfl hr rfl hk
   cases cs with
   |nil=>exact hc.elim
   |cons b cs=>
    obtain⟨h1,h2⟩:=hc;obtain⟨k1,k2⟩:=yH hr h2;have e:bX (.fr::r) (b::cs)=.d b::bX r cs:=by rfl
    rw[e];simp only[akM,k1];rcases h1 with(rfl|⟨rfl,k,v,rfl⟩)|⟨rfl,u',rfl⟩
    .exact⟨rfl,λN t a=>by
      rcases akU.1 a with rfl|a
      .trivial
      grind⟩
    .exact⟨rfl,λN t a=>by
      rcases akU.1 a with rfl|a
      .trivial
      grind⟩
    exact⟨rfl,λN t a=>by
     rcases akU.1 a with rfl|a
     .trivial
     grind⟩
  cases c<;>grind [i7]
 |[],_::_,_,_,h,_=>by simp[i7]at h
 |.ow _::_,[],_,_,h,_=>by simp[i7]at h
 |.fr::_,[],_,_,h,_=>by simp[i7]at h
theorem ZZ:∀{sh:List Sh}{cells ts:List Tt}{cs:List C},jc sh cells=some ts->CL ts cs ->
  (((dQ sh cs).map Tt.toT).length=(cells.map Tt.toT).length/\∀(i:Nat)t t',(cells.map Tt.toT)[i]? = some t->((dQ sh cs).map Tt.toT)[i]? = some t'->t'=t\/t'=t.canon)/\∀N,∀t∈cells.map Tt.toT,sq N t:=by
 intro sh;induction sh with
 |nil=>
  intro cells ts cs h hc;cases cells with
  |nil=>
   simp only[jc,akJ]at h;subst h;cases cs with
   |nil=>exact⟨⟨rfl,λi t t' h=>by simp at h⟩,λ_ _ h=>by simp at h⟩
   |cons _ _=>exact hc.elim
  |cons _ _=>simp[jc]at h
 |cons s r ih=>
  intro cells ts cs h hc;cases cells with
  |nil=>grind [jc]
  |cons c cells=>
   have j:∀{t0:Tt}{g:C}{f:List C}{ts':List Tt},jc r cells=some ts'->CL ts' f->dQ (s::r) (g::f)=t0::dQ r f->(t0.toT=c.toT\/t0.toT=c.toT.canon)->(∀N,sq N c.toT) ->
     (((dQ (s::r) (g::f)).map Tt.toT).length=((c::cells).map Tt.toT).length/\∀(i:Nat)t t',((c::cells).map Tt.toT)[i]? = some t->((dQ (s::r) (g::f)).map Tt.toT)[i]? = some t'->t'=t\/t'=t.canon)/\∀N,∀t∈(c::cells).map Tt.toT,sq N t:=by
    grind
   cases s with
   |fr=>
    have m:∀{t:Tt}{ts':List Tt},c=t->jc r cells=some ts'->ts=t::ts'->(∃x,t=.d x)\/t=.nil->(((dQ (.fr::r) cs).map Tt.toT).length=((c::cells).map Tt.toT).length/\∀(i:Nat)t t',((c::cells).map Tt.toT)[i]? = some t->((dQ (.fr::r) cs).map Tt.toT)[i]? = some t'->t'=t\/t'=t.canon)/\∀N,∀t∈(c::cells).map Tt.toT,sq N t:=by
     rintro t ts' rfl hr rfl hk
     cases cs with
     |nil=>exact hc.elim
     |cons g cs=>
      have e:dQ (.fr::r) (g::cs)=.d g::dQ r cs:=by rfl
      obtain⟨h1,h2⟩:=hc;refine j hr h2 e ?_ ?_
      .rcases h1 with(h1|⟨h1,k,v,h1'⟩)|⟨h1,u',h1'⟩
       .grind
       .rw[h1,h1'];exact .inl rfl
       rw[h1,h1'];exact .inr rfl
      intro N;rcases hk with⟨x,hx⟩|hx
      .rw[hx];trivial
      rw[hx];trivial
    cases c with
    |d x=>grind [jc]
    |nil=>grind [jc]
    |_=>simp[jc]at h
   |ow a=>
    cases a with
    |nil=>
     cases c with
     |nil=>
      simp only[jc]at h;split at h
      .rename_i ts' hr;simp only[akJ]at h;subst h;cases cs with
       |nil=>exact hc.elim
       |cons g cs=>exact j hr hc.2 rfl (.inl rfl) (λN=>trivial)
      grind
     |_=>simp[jc]at h
    |cons a b=>
     cases c with
     |ow s' u l=>
      simp only[jc]at h;split at h
      .rename_i ts' hs hr;simp only[akJ]at h;subst h;cases cs with
       |nil=>exact hc.elim
       |cons g cs=>
        obtain⟨h1,h2⟩:=hc;rcases h1 with(h1|⟨h1,_⟩)|⟨h1,_⟩
        .simp only[Tt.d.injEq]at h1;subst h1;refine j hr h2 rfl (.inl ?_) (λN=>trivial)
         grind [jX]
        all_goals grind
      grind
     |_=>simp[jc]at h
theorem kN(k:Nat):∀t:List (Nat×Nat×At),gtA t k=match cF t k with|some (_,v)=>v|none=>.any
 |[]=>rfl
 |(i,j,v)::t=>by
  simp only[gtA,cF];cases Nat.beq i k with
  |true=>rfl
  |false=>exact kN k t
theorem E2{t:Tt}(h:t.inR rs=true):sq rs t.toT:=by
 cases t with
 |pl p=>show p.root∈rs;grind [Tt.inR]
 |rf p=>show p.root∈rs;grind [Tt.inR]
 |_=>trivial
theorem Ye{x:A1}(h:x.inR rs=true):yN rs x.toV:=by
 cases x with
 |c t=>exact E2 h
 |agg ts=>intro t a;obtain⟨t',h1,rfl⟩:=ak5.1 a;exact E2 (akZ.1 h t' h1)
theorem ahK(h:x.inR rs=true):LM rs x.toV:=by
 cases x with
 |one x=>exact Ye h
 |tup xs=>intro t a;obtain⟨t',h1,rfl⟩:=ak5.1 a;exact Ye (akZ.1 h t' h1)
 |any=>trivial
theorem QA{p:Nat->At->Prop}:∀{t:List (Nat×Nat×At)},(∀x∈t,p x.1 x.2.2)->∀i,gtA t i=.any\/p i (gtA t i)
 |[],_,_=>.inl rfl
 |(k,j,v)::t,h,i=>by
  simp only[gtA];cases hb:Nat.beq k i with
  |true=>simp_all
  |false=>exact QA (λx hx=>h x (alF _ hx)) i
theorem rO{t:List (Nat×Nat×At)}:∀{ks:List Nat}{x:Nat×Nat×At},x∈Dt t ks->x.1∈ks/\cF t x.1=some x.2
 |[],x,h=>by simp[Dt]at h
 |k::r,x,h=>by
  simp only[Dt]at h;split at h
  .rcases akU.1 h with rfl|h
   .grind
   have:=rO h;grind
  have:=rO h;grind
theorem rN{t:List (Nm×Nat×Rt)}:∀{ks:List Nm}{x:Nm×Nat×Rt},x∈qj t ks->x.1∈ks/\dx t x.1=some x.2
 |[],x,h=>by simp[qj]at h
 |k::r,x,h=>by
  simp only[qj]at h;split at h
  .rcases akU.1 h with rfl|h
   .grind
   have:=rN h;grind
  have:=rN h;grind
theorem Jc{s:St}:∀{ks:List Nat},acE s0 s rs ks=true->∀k∈ks,∃j v0 v,cF s0.t k=some (j,v0)/\cF s.t k=some (j,v)/\j<s0.nx/\v.inR rs=true
 |[],_,k,hk=>by grind
 |i::r,h,k,hk=>by
  simp only[acE,akI]at h;rcases akU.1 hk with rfl|hk
  .have h1:=h.1
   split at h1
   .simp only[akI]at h1;have:=akO h1.1.1
    simp_all
   grind
  exact Jc h.2 k hk
theorem Ac{s:St}:∀{ks:List Nm},Td s0 s rs ks=true->∀k∈ks,∃j v0 v,dx s0.m k=some (j,v0)/\dx s.m k=some (j,v)/\j<s0.nx/\v.cells.all (·.inR rs)=true
 |[],_,k,hk=>by grind
 |i::r,h,k,hk=>by
  simp only[Td,akI]at h;rcases akU.1 hk with rfl|hk
  .have h1:=h.1
   split at h1
   .simp only[akI]at h1;have:=akO h1.1.1
    simp_all
   grind
  exact Ac h.2 k hk
theorem Jb{s:St}:∀{ps:List (Nat×Nm×Nat)},acD s rs ps=true->∀p∈ps,gtA s.t p.1=.one (.c (.pl ⟨p.2.1,p.2.2,[]⟩))/\p.2.1∈rs
 |[],_,p,hp=>by grind
 |(k,n,o)::r,h,p,hp=>by
  simp only[acD,akI]at h;rcases akU.1 hp with rfl|hp
  .grind [akO]
  exact Jb h.2 p hp
theorem Ax{s:St}:∀{ks:List Nm},Td s0 s rs ks=true->(qj s0.m ks).map (·.1)=ks
 |[],_=>rfl
 |k::r,h=>by
  have a:=h
  simp only[Td,akI]at h;obtain⟨j,v0,v,b,_⟩:=Ac a k (by simp);simp only[qj,b,akM,Ax h.2]
theorem ix(nx:Nat):∀(sp:List Sp)(x:FSp sp),(fO nx sp x).map (·.1)=sp.flatMap Sp.rn
 |[],_=>rfl
 |.sl k u::r,x=>by exact ix nx r _
 |.ow k sh u::r,x=>by simp only[fO,alQ,Sp.rn,akM,al5];rw[ix nx r]
 |.rt n sh u::r,x=>by simp only[fO,alQ,Sp.rn,akM,al5];rw[ix nx r]
 |.mp n ku vu::r,x=>by simp only[fO,alQ,Sp.rn,akM,al5];rw[ix nx r]
 |.mo n ku vu::r,x=>by simp only[fO,alQ,Sp.rn,akM,al5];rw[ix nx r]
 |.it n ku vu::r,x=>by simp only[fO,alQ,Sp.rn,akM,al5];rw[ix nx r]
 |.gw n sh u::r,x=>by simp only[fO,alQ,Sp.rn,akM,al5];rw[ix nx r]
theorem DJ:∀{l:List Nm},FF l=true->l.Nodup
 |[],_=>List.nodup_nil
 |n::r,h=>by simp only[FF,akI,alC,List.contains_eq_mem,decide_eq_false_iff_not]at h;exact al2.2 ⟨h.1,DJ h.2⟩
theorem zU{a b:U}{l:List (El ku×El vu)}{x:List (El a×El b)}(h:IU ku vu a b l=some x):∃(d:ku=a)(c:vu=b),x=d ▸ c ▸ l:=by grind [IU]
theorem YK{s:St}{nx:Nat}:∀{sp:List Sp}{x:FSp sp},unS s sp=some x ->
  (∀y∈mH nx sp x,(y.2.2.toV=(gtA s.t y.1).toV\/y.2.2.toV=(gtA s.t y.1).toV.map T.canon)/\∀N,(∀n∈sp.flatMap Sp.rn,n∈N)->LM N (gtA s.t y.1).toV) /\
  (∀y∈fO nx sp x,∃r,cm s.m y.1=some r/\oo r.toR y.2.2.toR/\∀N,∀t∈r.toR.cells,sq N t)
 |[],_,_=>⟨λy h=>by simp[mH]at h,λy h=>by simp[fO]at h⟩
 |p::r,x,h=>by
  simp only[unS]at h;cases h1:LC s p with
  |none=>grind
  |some a=>
   cases h2:unS s r with
   |none=>grind
   |some b=>
    rw[h1,h2]at h;simp only[akJ]at h;obtain⟨B,A⟩:=YK (nx:=nx) h2;cases p with
    |sl k u=>
     have d:FSp.hd (.sl k u) r x=a:=by grind [sQ]
     have hb:FSp.tl (.sl k u) r x=b:=by grind [sR]
     refine⟨λy hy=>?_,λy hy=>?_⟩
     .simp only[mH,akU]at hy;rcases hy with rfl|hy
      .obtain⟨k1,k2⟩:=zS (v:=gtA s.t k) h1
       grind
      grind
     grind [fO]
    |ow k sh u=>
     have d:FSp.hd (.ow k sh u) r x=a:=by grind [sQ]
     have hb:FSp.tl (.ow k sh u) r x=b:=by grind [sR]
     simp only[LC]at h1;split at h1
     .rename_i n j u' l hv hr;cases hn:decide (n=kz k)<;>cases f:nZ sh j<;>rw[hn,f]at h1
      .cases h1
      .cases h1
      .cases h1
      have hn':n=kz k:=by grind
      subst hn';obtain⟨e,rfl⟩:=jM h1;subst e;obtain rfl:=jX f;refine⟨λy hy=>?_,λy hy=>?_⟩
      .simp only[mH,akU]at hy;rcases hy with rfl|hy
       .refine⟨.inl (by rw[hv]),λN hN=>?_⟩;rw[hv];exact hN _ (by grind [Sp.rn])
       grind
      simp only[fO,d,akU]at hy;rcases hy with rfl|hy
      .exact⟨_,hr,oo.refl _,λN t c=>by simp only[Rt.toR,holed,akM,alN,akY]at c;subst c;trivial⟩
      grind
     grind
    |mp n ku vu=>
     have d:FSp.hd (.mp n ku vu) r x=a:=by grind [sQ]
     have hb:FSp.tl (.mp n ku vu) r x=b:=by grind [sR]
     simp only[LC]at h1;split at h1
     .rename_i w q l hr;obtain⟨g,o,rfl⟩:=zU h1;subst g;subst o;refine⟨λy hy=>?_,λy hy=>?_⟩
      .grind [mH]
      simp only[fO,d,akU]at hy;rcases hy with rfl|hy
      .exact⟨_,hr,oo.refl _,λN t c=>by simp only[Rt.toR,holed,akM,alN,akY]at c;subst c;trivial⟩
      grind
     grind
    |it n ku vu=>
     have d:FSp.hd (.it n ku vu) r x=a:=by grind [sQ]
     have hb:FSp.tl (.it n ku vu) r x=b:=by grind [sR]
     simp only[LC]at h1;split at h1
     .rename_i w q cur l hr;obtain⟨g,o,rfl⟩:=zU h1;subst g;subst o;refine⟨λy hy=>?_,λy hy=>?_⟩
      .grind [mH]
      simp only[fO,d,akU]at hy;rcases hy with rfl|hy
      .exact⟨_,hr,⟨rfl,rfl,λi t t' h1 h2=>by
        cases i with
        |zero=>
         have g:=Option.some.inj h1
         have o:=Option.some.inj h2
         subst g o;exact .inr rfl
        |succ i=>grind [Rt.toR,holed]⟩,λN t c=>by simp only[Rt.toR,holed,akM,alN,akY]at c;subst c;trivial⟩
      grind
     grind
    |gw n sh u=>
     have d:FSp.hd (.gw n sh u) r x=a:=by grind [sQ]
     have hb:FSp.tl (.gw n sh u) r x=b:=by grind [sR]
     simp only[LC]at h1;split at h1
     .rename_i j u' l hr;cases f:nZ sh j with
      |false=>grind
      |true=>
      rw[f]at h1;obtain⟨e,rfl⟩:=jM h1;subst e;obtain rfl:=jX f;refine⟨λy hy=>?_,λy hy=>?_⟩
      .grind [mH]
      simp only[fO,d,akU]at hy;rcases hy with rfl|hy
      .exact⟨_,hr,oo.refl _,λN t c=>by simp only[Rt.toR,holed,akM,alN,akY]at c;subst c;trivial⟩
      grind
     grind
    |mo n ku vu=>
     have d:FSp.hd (.mo n ku vu) r x=a:=by grind [sQ]
     have hb:FSp.tl (.mo n ku vu) r x=b:=by grind [sR]
     simp only[LC]at h1;split at h1
     .rename_i w q l hr;obtain⟨g,o,rfl⟩:=zU h1;subst g;cases o;refine⟨λy hy=>?_,λy hy=>?_⟩
      .grind [mH]
      simp only[fO,d,akU]at hy;rcases hy with rfl|hy
      .exact⟨_,hr,oo.refl _,λN t c=>by simp only[Rt.toR,holed,akM,alN,akY]at c;subst c;trivial⟩
      grind
     grind
    |rt n sh u=>
     have d:FSp.hd (.rt n sh u) r x=a:=by grind [sQ]
     have hb:FSp.tl (.rt n sh u) r x=b:=by grind [sR]
     simp only[LC]at h1;split at h1
     .rename_i cells hr;split at h1
      .rename_i ts z;obtain⟨k1,k2⟩:=ZZ z (oF h1);refine⟨λy hy=>?_,λy hy=>?_⟩
       .grind [mH]
       simp only[fO,d,akU]at hy;rcases hy with rfl|hy
       .exact⟨_,hr,⟨rfl,k1.1,k1.2⟩,λN t c=>k2 N t c⟩
       grind
      grind
     grind
def jn1(σ:Sg)(s0:St)(J:FSp σ.sp->Prop)(s:St):Prop:=σ.fit s0 s=true/\∃x,unS s σ.sp=some x/\J x
theorem Yl{s1:St}(n:Ext s0 s1)(h:jn1 σ s0 J s1)(d:R g s1.toS a w):∃v,J v/\R g (σ.st s0 v).toS a w:=by
   obtain⟨hf,v,hv,h⟩:=h;refine⟨v,h,?_⟩;obtain⟨H,γ,F,C⟩:=d;simp only[Sg.fit,akI]at hf;obtain⟨⟨⟨f1,G⟩,I⟩,f4⟩:=hf;obtain⟨l1,l2⟩:=YK (nx:=s0.nx) hv;have l:(σ.st s0 v).toS.m.map (·.1)=σ.rn:=by
    show(toM (qj s0.m σ.kr++fO s0.nx σ.sp v)).map (·.1)=_
    simp only[alW];show(qj s0.m σ.kr++fO s0.nx σ.sp v).map (·.1)=_
    rw[amC,Ax f4,ix];rfl
   refine⟨H,γ,F,Ws C (by grind [DJ]) (λx hx=>?_) (λi=>?_)⟩
   .obtain⟨y,hy,rfl⟩:=ak5.1 (show x∈toM (qj s0.m σ.kr++fO s0.nx σ.sp v)from hx);rcases akS.1 hy with hy|hy
    .obtain⟨hk,hl⟩:=rN hy;obtain⟨j,v0,b,A,k,E,K⟩:=Ac f4 y.1 hk;have s:=n.m _ _ _ k E
     rw[hl]at s;have B:=Option.some.inj s
     have D:cm s1.m y.1=some y.2.2:=by grind [oP]
     refine⟨y.2.2.toR,bz D,oo.refl _,λt u=>?_⟩;have q:y.2.2=b:=by rw[B]
     rw[q]at u;have z:=zg b.cells b.hole
     obtain⟨i,hi,hit⟩:=List.getElem_of_mem u;have c:=z.len
     have o:i<b.cells.length:=by
      have:(b.toR.cells).length=b.cells.length:=c
      omega
     rcases z.nth i _ t (akL o) (by rw[<- hit];exact akL hi)with e|⟨_,_,_,_,_,e,_⟩
     .grind [E2]
     rw[e];trivial
    obtain⟨r,k1,k2,k3⟩:=l2 y hy;exact⟨r.toR,bz k1,k2,k3 _⟩
   have key:∀y∈(σ.st s0 v).t,(y.2.2.toV=(gtA s1.t y.1).toV\/y.2.2.toV=(gtA s1.t y.1).toV.map T.canon)/\LM σ.rn (gtA s1.t y.1).toV:=by
    intro y hy;rcases akS.1 hy with hy|hy
    .obtain⟨hk,hl⟩:=rO hy
     grind [Jc,Ext.t,kN,ahK]
    rcases akS.1 hy with hy|hy
    .obtain⟨p,hp,rfl⟩:=ak5.1 hy;obtain⟨A,k⟩:=Jb G p hp;rw[A];exact⟨.inl rfl,k⟩
    grind [Sg.rn]
   have hs1:bB s1.toS.t i=(gtA s1.t i).toV:=dy i s1.t
   have f:bB (σ.st s0 v).toS.t i=(gtA (σ.st s0 v).t i).toV:=dy i (σ.st s0 v).t
   rw[hs1,f];rcases QA (p:=λi v=>(v.toV=(gtA s1.t i).toV\/v.toV=(gtA s1.t i).toV.map T.canon)/\LM σ.rn (gtA s1.t i).toV) key i with e|e
   .rw[e];exact .inl rfl
   grind
theorem afF{s:St}(e:Ext s0 s)(h:jn σ s0 J s)(d:R g s.toS a w):∃v,J v/\R g (σ.st s0 v).toS a w:=by
 unfold jn at h;dsimp only at h;have b:=oy (g:=g) (a:=a) (w:=w) σ.sp d
 have c:=e.trans (iG σ.sp s)
 split at h
 .rename_i hf;split at h
  .rename_i v hv;exact Yl c ⟨hf,v,hv,h⟩ b
  grind
 grind
theorem DC{k:Nat}{y:Nat×At}:∀{t:List (Nat×Nat×At)},cF t k=some y->(k,y)∈t
 |[],h=>by cases h
 |(i,j,v)::t,h=>by
  simp only[cF]at h;split at h
  .grind [akO]
  exact alF _ (DC h)
theorem Dy{k:Nm}{y:Nat×Rt}:∀{t:List (Nm×Nat×Rt)},dx t k=some y->(k,y)∈t
 |[],h=>by cases h
 |(i,j,v)::t,h=>by
  simp only[dx]at h;split at h
  .grind
  exact alF _ (Dy h)
theorem qk(nx:Nat):∀(sp:List Sp)(x:FSp sp),(∀y∈mH nx sp x,y.2.1=nx)/\∀y∈fO nx sp x,y.2.1=nx
 |[],_=>⟨λy h=>by simp[mH]at h,λy h=>by simp[fO]at h⟩
 |.sl k u::r,x=>by
  obtain⟨h1,h2⟩:=qk nx r (FSp.tl (.sl k u) r x);refine⟨λy h=>?_,λy h=>h2 y h⟩
  grind [mH]
 |.ow k sh u::r,x=>by
  obtain⟨h1,h2⟩:=qk nx r (FSp.tl (.ow k sh u) r x)
  grind [mH,fO]
 |.rt n sh u::r,x=>by
  obtain⟨h1,h2⟩:=qk nx r (FSp.tl (.rt n sh u) r x);refine⟨λy h=>h1 y h,λy h=>?_⟩
  grind [fO]
 |.mp n ku vu::r,x=>by
  obtain⟨h1,h2⟩:=qk nx r (FSp.tl (.mp n ku vu) r x);refine⟨λy h=>h1 y h,λy h=>?_⟩
  grind [fO]
 |.mo n ku vu::r,x=>by
  obtain⟨h1,h2⟩:=qk nx r (FSp.tl (.mo n ku vu) r x);refine⟨λy h=>h1 y h,λy h=>?_⟩
  grind [fO]
 |.it n ku vu::r,x=>by
  obtain⟨h1,h2⟩:=qk nx r (FSp.tl (.it n ku vu) r x);refine⟨λy h=>h1 y h,λy h=>?_⟩
  grind [fO]
 |.gw n sh u::r,x=>by
  obtain⟨h1,h2⟩:=qk nx r (FSp.tl (.gw n sh u) r x);refine⟨λy h=>h1 y h,λy h=>?_⟩
  grind [fO]
theorem yU(σ:Sg)(s:St)(x:FSp σ.sp):Ext s (σ.st s x):=by
 obtain⟨l1,l2⟩:=qk s.nx σ.sp x;refine⟨alD _,λk j v h hj=>?_,λn j r h hj=>?_⟩
 .have hm:=DC h
  rcases akS.1 hm with hm|hm
  .exact(rO hm).2
  grind
 have hm:=Dy h
 rcases akS.1 hm with hm|hm
 .exact(rN hm).2
 grind
end
def jZ(nt:Nat):Code->Bool
 |.region _ ops false=>adQ nt ops.toList ops.toList
 |.region _ ops true=>mf nt ops&&Region.noSelect ops
 |.seq a b=>jZ nt a&&jZ nt b
 |.cond (.tmp t) a b=>Nat.blt t 100000&&(jZ nt a&&jZ nt b)
 |.block _ a=>jZ nt a
 |.loop a=>jZ nt a
 |_=>true
def LQ(pk:PKt)(K:Kt):Exit->S->Prop
 |.normal,s=>∃t:St,s=t.toS/\K.n t
 |.exit i,s=>∃t:St,s=t.toS/\K.x i t
 |.ret,s=>∃t:St,s=t.toS/\K.r t
 |.panic c,s=>∃v,∃t:St,c=chn v/\s=t.toS/\pk v t
 |_,_=>False
theorem aeZ{pk:PKt}{K:Kt}:∀x s,PQ pk x s->LQ pk K x s:=by
 rintro x s ⟨v,t,rfl,rfl,h2⟩
 exact⟨v,t,rfl,rfl,h2⟩
theorem ac0{s:St}{a:FSp σ.sp->Prop}(hj:∀v,J v->a v)(h:jn σ s0 J s):jn σ s0 a s:=by grind [jn]
theorem AJ{α:Type}{b b':(α->Prop)->α->Prop}(hb:∀R a:α->Prop,(∀v,R v->a v)->∀v,b R v->b' a v):∀n v,mj b n v->mj b' n v
 |0,_,h=>h.elim
 |n+1,v,h=>hb _ _ (AJ hb n) v h
theorem yI{e:En}(u:e.ok):∀(c:Code)(an:An)(s:St)(K K':Kt),(∀s',Ext s s'->K.n s'->K'.n s')->(∀i s',Ext s s'->K.x i s'->K'.x i s')->(∀s',Ext s s'->K.r s'->K'.r s')->wpT e an c s K->wpT e an c s K':=by
 intro c;induction c with
 |skip=>grind [wpT,Ext.refl]
 |exit i=>grind [wpT,Ext.refl]
 |ret=>grind [wpT,Ext.refl]
 |region id ops l=>intro an s K K' hn hx hr h;cases l<;>grind [wpT,A2,kM]
 |seq a b d f=>
  intro an s K K' hn hx hr h;cases an with
  |s p q=>simp only[wpT]at h|-;exact d p s ⟨λs'=>wpT e (q.pick s') b s' K,K.x,K.r⟩ ⟨λs'=>wpT e (q.pick s') b s' K',K'.x,K'.r⟩ (λs1 h1 hs1=>f (q.pick s1) s1 K K' (λs2 h2=>hn s2 (h1.trans h2)) (λi s2 h2=>hx i s2 (h1.trans h2)) (λs2 h2=>hr s2 (h1.trans h2)) hs1) hx hr h
  |j σ p q=>simp only[wpT]at h|-;intro J k;refine d p s ⟨jn σ s J,K.x,K.r⟩ ⟨jn σ s J,K'.x,K'.r⟩ (λs1 _ h=>h) hx hr (h J (λv hv=>k v ?_));exact f q _ K K' (λs2 h2=>hn s2 ((yU σ s v).trans h2)) (λi s2 h2=>hx i s2 ((yU σ s v).trans h2)) (λs2 h2=>hr s2 ((yU σ s v).trans h2)) hv
  |_=>grind [wpT]
 |cond t a b d f=>
  intro an s K K' hn hx hr h;cases an with
  |c p q=>cases t<;>grind [wpT]
  |_=>grind [wpT]
 |block id a d=>intro an s K K' hn hx hr h;cases an<;>grind [wpT]
 |loop a d=>
  intro an s K K' hn hx hr h;cases an with
  |lp σ p=>
   simp only[wpT]at h|-;have g:=iG σ.sp s
   generalize prep σ.sp s=s1 at h g;split at h
   .split at h
    .obtain⟨n,hl⟩:=h;refine⟨n,AJ (λR m o v hv=>?_) n _ hl⟩
     grind [Ext.trans,yU,ac0]
    omega
   omega
  |un n p=>
   simp only[wpT]at h|-;have key:∀n(s1:St),Ext s s1->AK (λR s'=>wpT e p a s' ⟨R,K.x,K.r⟩) n s1->AK (λR s'=>wpT e p a s' ⟨R,K'.x,K'.r⟩) n s1:=by
    intro n;induction n with
    |zero=>intro s1 _ h;exact h.elim
    |succ n ih=>
     intro s1 w h
     grind [AK,Ext.trans]
   grind [Ext.refl]
  |_=>grind [wpT]
 |_=>grind [wpT]
theorem yQ{P:Program}{g:G}{c:Code}{Q Q':Exit->S->Prop}{s:S}(h:AW P g c Q s)(hq:∀e s' a w,Q e s'->R g s' a w->∃b,Q' e b/\R g b a w):AW P g c Q' s:=λa w d=>Code.wp_mono (λe a' w'⟨s',h1,h2⟩=>hq e s' a' w' h1 h2) (h a w d)
theorem om{e:En}(A:e.ok)(hm:e.P.follows .mixedOrders=true){g:G}:∀(c:Code)(an:An)(s:St)(K:Kt),jZ g.nt c=true->wpT e an c s K->AW e.P g c (LQ e.pk K) s.toS:=by
 intro c;induction c with
 |skip=>intro an s K hc h;simp only[wpT]at h;exact Pg ⟨s,rfl,h⟩
 |exit i=>intro an s K hc h;simp only[wpT]at h;exact aaC ⟨s,rfl,h⟩
 |ret=>intro an s K hc h;simp only[wpT]at h;exact afS ⟨s,rfl,h⟩
 |region id ops N=>
  intro an s K hc h;obtain⟨l⟩:=ops;cases N with
  |false=>simp only[wpT]at h;exact qP (og A aeZ hc h (λt f=>⟨t,rfl,f⟩))
  |true=>simp only[wpT]at h;simp only[jZ,akI]at hc;exact Vm A aeZ hm hc.1 hc.2 (λt f=>⟨t,rfl,f⟩) h
 |seq a b k o=>
  intro an s K hc h;simp only[jZ,akI]at hc;cases an with
  |s p q=>
   simp only[wpT]at h;refine vU (AW.mono (k p s _ hc.1 h) (λe' s' h'=>?_));cases e' with
   |normal=>obtain⟨t,rfl,f⟩:=h';exact o (q.pick t) t K hc.2 f
   |exit i=>exact h'
   |ret=>exact h'
   |panic c=>exact h'
   |_=>exact h'
  |j σ p q=>
   simp only[wpT]at h;have h1:=h _ (λv hv=>hv)
   have h2:=yI A a p s ⟨jn σ s (λv=>wpT e q b (σ.st s v) K),K.x,K.r⟩ ⟨λs'=>Ext s s'/\jn σ s (λv=>wpT e q b (σ.st s v) K) s',K.x,K.r⟩ (λs' u m=>⟨u,m⟩) (λ_ _ _ h=>h) (λ_ _ h=>h) h1
   refine vU (AW.mono (k p s _ hc.1 h2) (λe' s' h'=>?_));cases e' with
   |normal=>obtain⟨t,rfl,u,f⟩:=h';intro a' w' H;obtain⟨v,hv,d⟩:=afF u f H;exact o q _ K hc.2 hv a' w' d
   |exit i=>exact h'
   |ret=>exact h'
   |panic c=>exact h'
   |_=>exact h'
  |_=>grind [wpT]
 |cond t a b k o=>
  intro an s K hc h;cases an with
  |c p q=>
   cases t with
   |tmp t=>
    simp only[jZ,akI]at hc;simp only[wpT]at h;split at h
    .rename_i c I;refine Eu (jr I) (λhb=>?_) (λhb=>?_) (akR hc.1)
     all_goals grind
    grind
   |_=>grind [wpT]
  |_=>grind [wpT]
 |block id a k=>
  intro an s K hc h;cases an with
  |b p=>
   simp only[wpT]at h;refine Vl (AW.mono (k p s _ hc h) (λe' s' h'=>?_));cases e' with
   |normal=>exact h'
   |exit i=>
    obtain⟨t,rfl,f⟩:=h';simp only[Mt];dsimp only at f;cases hb:Nat.beq i id with
    |true=>rw[hb]at f;rw[if_pos (akO hb)];exact⟨t,rfl,f⟩
    |false=>rw[hb]at f;rw[if_neg (λe=>by grind [Nat.beq_refl])];exact⟨t,rfl,f⟩
   |ret=>exact h'
   |_=>exact h'
  |_=>grind [wpT]
 |loop a k=>
  intro an s K hc h;cases an with
  |lp σ p=>
   simp only[wpT]at h;have y:∀a' w',R g s.toS a' w'->R g (prep σ.sp s).toS a' w':=λa' w' H=>oy σ.sp H
   generalize prep σ.sp s=s1 at h y;split at h
   .rename_i hf;split at h
    .rename_i M E;obtain⟨n,hl⟩:=h;intro a0 w0 C;have hj:jn1 σ s1 (λv=>v=M) s1:=⟨hf,M,E,rfl⟩
     obtain⟨v,rfl,B⟩:=Yl (Ext.refl s1) hj (y _ _ C);refine Pf (λn z=>∃v,mj (λR v=>wpT e p a (σ.st s1 v) ⟨jn σ s1 R,K.x,K.r⟩) n v/\z=(σ.st s1 v).toS) n ⟨v,hl,rfl⟩ (λn z L=>?_) a0 w0 B
     .obtain⟨v,hv,rfl⟩:=L;cases n with
      |zero=>exact hv.elim
      |succ n=>
       have h2:=yI A a p (σ.st s1 v) ⟨jn σ s1 (mj (λR v=>wpT e p a (σ.st s1 v) ⟨jn σ s1 R,K.x,K.r⟩) n),K.x,K.r⟩ ⟨λs'=>Ext (σ.st s1 v) s'/\jn σ s1 (mj (λR v=>wpT e p a (σ.st s1 v) ⟨jn σ s1 R,K.x,K.r⟩) n) s',K.x,K.r⟩ (λs' u m=>⟨u,m⟩) (λ_ _ _ h=>h) (λ_ _ h=>h) hv
       refine yQ (k p _ _ hc h2) (λe' s' a' w' h' d=>?_);cases e' with
       |normal=>obtain⟨t,rfl,u,f⟩:=h';obtain⟨Q,D,F⟩:=afF ((yU σ s1 v).trans u) f d;exact⟨_,⟨n,Nat.lt_succ_self n,Q,D,rfl⟩,F⟩
       |exit i=>exact⟨s',h',d⟩
       |ret=>exact⟨s',h',d⟩
       |panic c=>exact⟨s',h',d⟩
       |_=>exact h'.elim
    grind
   grind
  |un n p=>
   simp only[wpT]at h;refine Pf (λn z=>∃t:St,z=t.toS/\AK (λR s'=>wpT e p a s' ⟨R,K.x,K.r⟩) n t) n ⟨s,rfl,h⟩ (λn z L=>?_);obtain⟨t,rfl,f⟩:=L;cases n with
   |zero=>exact f.elim
   |succ n=>
    refine yQ (k p t ⟨AK (λR s'=>wpT e p a s' ⟨R,K.x,K.r⟩) n,K.x,K.r⟩ hc f) (λe' s' a' w' h' d=>?_);cases e' with
    |normal=>obtain⟨O,rfl,J⟩:=h';exact⟨_,⟨n,Nat.lt_succ_self n,O,rfl,J⟩,d⟩
    |exit i=>exact⟨s',h',d⟩
    |ret=>exact⟨s',h',d⟩
    |panic c=>exact⟨s',h',d⟩
    |_=>exact h'.elim
  |_=>grind [wpT]
 |_=>grind [wpT]
def lg:(us:List U)->Fl us->List AV
 |[],_=>[]
 |u::r,x=>(BK u (Fl.hd u r x)).toV::lg r (Fl.tl u r x)
def wh:(us:List U)->Fl us->List AV1
 |[],_=>[]
 |u::r,x=>(Cp u (Fl.hd u r x)).toV::wh r (Fl.tl u r x)
theorem vP(u:U)(x:El u):BK u x=.one (Cp u x):=by cases u<;>rfl
theorem sZ{x:El u}(h:pY u v=some x):v.noRf=true/\v.toV.isFz=true:=by
 have cl:∀{ts:List Tt}{cs:List C},CL ts cs->ts.all Tt.noRf=true/\(ts.map Tt.toT).all T.isFz=true:=by
  intro ts;induction ts with
  |nil=>grind
  |cons t ts ih=>
   intro cs hc;cases cs with
   |nil=>exact hc.elim
   |cons c cs=>
    obtain⟨h1,h2⟩:=ih hc.2;rcases hc.1 with(rfl|⟨rfl,_⟩)|⟨rfl,_⟩
    .exact⟨by simp only[akW,h1];rfl,by simp only[akM,akW,h2];rfl⟩
    .exact⟨by simp only[akW,h1];rfl,by simp only[akM,akW,h2];rfl⟩
    exact⟨by simp only[akW,h1];rfl,by simp only[akM,akW,h2];rfl⟩
 unfold pY at h;split at h
 .unfold Xz at h;split at h
  .split at h
   .obtain⟨h1,h2⟩:=cl (oF h);refine⟨?_,?_⟩
    .rename_i t _ _;show t.noRf=true;grind
    rename_i t _ _;show t.toT.isFz=true;grind
   grind
  split at h
  .cases h
  obtain⟨h1,h2⟩:=cl (oF h);exact⟨h1,h2⟩
 grind
theorem jL:∀{us:List U}{vs:List At}{x:Fl us},dw us vs=some x->vs.all At.noRf=true/\(vs.map At.toV).all AV.isFz=true/\(vs.map At.toV).map (AV.map T.canon)=lg us x
 |[],[],_,_=>⟨rfl,rfl,rfl⟩
 |u::r,v::vs,x,h=>by
  simp only[dw]at h;cases h1:pY u v with
  |none=>grind
  |some a=>
   cases h2:dw r vs with
   |none=>grind
   |some b=>
    rw[h1,h2]at h;simp only[akJ]at h;subst h;obtain⟨e,d,c⟩:=jL h2
    grind [sZ,lg,uR,vN,zS]
 |[],_::_,_,h=>by simp[dw]at h
 |_::_,[],_,h=>by simp[dw]at h
section
variable {P:Program}
theorem vf{s:St}{ops:List Operand}(h:ops.all aH=true):ops.map (ev s.toS)=(ops.map (evA s)).map At.toV:=by grind [ak2,aj]
theorem eM{s:St}:∀{rs:List ResultVar}{k:List At->Prop},(∀vs,¬ k vs)->¬ fB P s rs k
 |[],k,hk,h=>hk _ h
 |r::rs,k,hk,h=>by
  have key:∀v,¬ fB P s rs (λvs=>k (v::vs)):=λv=>eM λvs=>hk _
  simp only[fB]at h;unfold rY at h;cases r with
  |tmp t=>simp_all
  |cell a t=>
   dsimp only at h;split at h
   .split at h
    .split at h
     .exact loadT_false key h
     omega
    omega
   omega
where
 loadT_false {m:List (Nm×Nat×Rt)} {t:TypeId} {x:At} {k:At->Prop} (hk:∀v,¬ k v) (h:pH P m t x k):False:=by
  unfold pH at h
  grind
theorem mu{s:St}(hop:∀p i,gtA s.t i=.one (.c (.pl p))->okP (toM s.m) p):∀{rs:List ResultVar}{us:List U}{K:Fl us->Prop}{k:List At->Prop},(∀vs,k vs->∃x,dw us vs=some x/\K x)->fB P s rs k ->
  gn P s.toS rs (λxs=>∃x:Fl us,xs.map (·.map T.canon)=wh us x/\xs.all AV1.isFz=true/\K x)
 |[],us,K,k,hk,h=>by
  obtain⟨x,hx,d⟩:=hk _ h;cases us with
  |nil=>exact⟨x,rfl,rfl,d⟩
  |cons u us=>grind [dw]
 |r::rs,us,K,k,hk,h=>by
  simp only[fB]at h;simp only[gn];have step:∀{v:At},fB P s rs (λvs=>k (v::vs))->(match v.toV with
    |.one x=>gn P s.toS rs λxs=>∃y:Fl us,(x::xs).map (·.map T.canon)=wh us y/\(x::xs).all AV1.isFz=true/\K y
    |_=>False):=by
   intro v hv;cases us with
   |nil=>grind [eM,dw]
   |cons u us=>
    cases hc:pY u v with
    |none=>grind [eM,dw]
    |some a=>
     obtain⟨j,_⟩:=zS hc;obtain⟨_,c3⟩:=sZ hc;have ih:=mu hop (us:=us) (K:=λy=>K (Fl.cons u us a y)) (λvs w=>by grind [dw]) hv
     rw[vP]at j;cases v with
     |one x=>
      refine resGets_mono ?_ ih;rintro xs ⟨y,z,o,d⟩
      refine⟨_,?_,?_,d⟩
      .grind [wh,uR,vN,At.toV,AV.map]
      simp only[akW,o,amO];exact c3
     |tup _=>grind [pY]
     |any=>grind [pY]
  cases r with
  |tmp t=>
   simp only[rY]at h;simp only[wZ];rw[show bB s.toS.t t=(gtA s.t t).toV from dy t s.t]
   grind
  |cell a t=>
   simp only[rY]at h;simp only[wZ];split at h
   .rename_i p hp;split at h
    .split at h
     .have hl:=AG (m:=s.m) (x:=gtA s.t a) (λq hq=>hop q a hq) h
      rw[show bB s.toS.t a=(gtA s.t a).toV from dy a s.t];refine loadK_mono ?_ hl
      grind
     grind
    grind
   grind
where
 loadK_mono {m:Mm} {t:TypeId} {x:AV} {k k':AV->Prop} (hk:∀v,k v->k' v) (h:uZ P m t x k):uZ P m t x k':=by
  unfold uZ at h|-;refine⟨h.1,?_⟩
  replace h:=h.2
  split at h
  .grind
  .split at h
   .rename_i e;rw[if_pos e];exact atK_mono (λts b f=>hk _ (b f)) h
   rename_i e;rw[if_neg e];refine atK_mono (λts b=>?_) h
   grind
  omega
 atK_mono {m:Mm} {p:Pl} {n:Nat} {k k':List T->Prop} (hk:∀v,k v->k' v) (h:atK m p n k):atK m p n k':=by
  unfold atK at h|-;split at h
  .omega
  split at h
  .grind
  .exact inK_mono hk h
  omega
 inK_mono {k k':List T->Prop} (hk:∀v,k v->k' v):∀{path:List Step}{sub:List Sh}{l:List (List D)}{n:Nat},inK sub l n path k->inK sub l n path k'
  |[],_,_,_,h=>h.elim
  |[st],sub,l,n,h=>by grind [inK]
  |st::g::r,sub,l,n,h=>by
   simp only[inK]at h|-;split at h
   .split at h
    .exact inK_mono hk h
    omega
   omega
 resGets_mono {s:S}:∀{rs:List ResultVar}{k k':List AV1->Prop},(∀v,k v->k' v)->gn P s rs k->gn P s rs k'
  |[],k,k',hk,h=>hk _ h
  |r::rs,k,k',hk,h=>by
   simp only[gn]at h|-;have st:∀v:AV,(match v with|.one x=>gn P s rs λxs=>k (x::xs)|_=>False)->(match v with|.one x=>gn P s rs λxs=>k' (x::xs)|_=>False):=by
    intro v hv;cases v with
    |one x=>exact resGets_mono (λxs=>hk _) hv
    |_=>exact hv
   cases r with
   |tmp t=>exact st _ h
   |cell a t=>exact loadK_mono st h
theorem Q0{s:S}{rs:List ResultVar}{us:List U}{K:AV->Prop}{Q:Fl us->Prop}(d:iN s rs=s)(f:∀x,Q x->K (ic us x).toV)(h:gn P s rs (λxs=>∃x:Fl us,xs.map (·.map T.canon)=wh us x/\xs.all AV1.isFz=true/\Q x)):Bn P s rs K:=by
 unfold Bn;rw[d];refine mu.resGets_mono ?_ h;rintro xs ⟨x,b,e,hq⟩
 have c:=f x hq
 have a:∀(us:List U)(x:Fl us),(ic.resL us x).map A1.toV=wh us x:=by
  intro us;induction us with
  |nil=>intro _;rfl
  |cons u r ih=>grind [ic.resL,wh]
 match xs,e,us,x,b,c with
 |[],_,[],x,_,c=>exact⟨rfl,c⟩
 |[y],e,[u],x,b,c=>
  simp only[akM,alN,wh,List.cons.injEq,and_true]at b;refine⟨by grind,?_⟩;rw[b];have:(ic [u] x).toV=.one (Cp u (Fl.hd u [] x)).toV:=by show(BK u x).toV=_;rw[vP];rfl
  grind
 |y::g::ys,e,u::v::r,x,b,c=>refine⟨e,?_⟩;rw[b,<- a];exact c
 |[],_,_::_,_,b,_=>grind [wh]
 |[_],_,[],_,b,_=>grind [wh]
 |[_],_,_::_::_,_,b,_=>grind [wh]
 |_::_::_,_,[],_,b,_=>grind [wh]
 |_::_::_,_,[_],_,b,_=>grind [wh]
end
section
variable {P:Program}
theorem YR{k:At->Prop}(h:pH P m t x k):∃v,k v:=by grind [eM.loadT_false]
theorem Y9{t:Tt}(h:t.owned=false):∀sub l,t.toT≠.ow sub l:=by
 cases t with
 |ow _ _ _=>cases h
 |_=>intro _ _ h;cases h
theorem Ai{s:St}{r:Rt}(hr:cm s.m n=some r)(a:r.hole=none)(hc:r.cells.all (λt=>!t.owned)=true):∀i,oM s.toS n i=s.toS
 |0=>rfl
 |i+1=>by
  simp only[oM];rw[Ai hr a hc i];unfold Jk;have e:bi s.toS.m ⟨n,i,[]⟩=(r.cells.map Tt.toT)[i]? := by
   unfold bi;rw[show ah s.toS.m n=some r.toR from bz hr];show(holed (r.cells.map Tt.toT) r.hole)[i]? = _
   rw[a];rfl
  grind [Y9]
theorem tb{s:St}:∀{rs:List ResultVar}{us:List U}{k:List At->Prop},(∀vs,k vs->∃x,dw us vs=some x)->fB P s rs k->iN s.toS rs=s.toS
 |[],_,_,_,_=>rfl
 |r::rs,us,k,hk,h=>by
  simp only[fB]at h;have step:∀{v:At},fB P s rs (λvs=>k (v::vs))->v.noRf=true/\iN s.toS rs=s.toS:=by
   intro v hv;cases us with
   |nil=>grind [eM,dw]
   |cons u us=>
    cases hc:pY u v with
    |none=>grind [eM,dw]
    |some a=>
     exact⟨(sZ hc).1,tb (us:=us) (λvs b=>by grind [dw]) hv⟩
  simp only[iN];cases r with
  |tmp t=>
   simp only[rY]at h;obtain⟨h1,h2⟩:=step h;have e:qc s.toS (.tmp t)=s.toS:=by simp only[qc];rw[show bB s.toS.t t=(gtA s.t t).toV from dy t s.t];exact wB h1
   grind
  |cell a t=>
   simp only[rY]at h;split at h
   .rename_i p hp;split at h
    .rename_i r hr;split at h
     .rename_i hb;simp only[akI,Option.isNone_iff_eq_none]at hb;obtain⟨v,hv⟩:=YR h;have e:qc s.toS (.cell a t)=s.toS:=by
       simp only[qc];rw[jr hp]
       grind [At.toV,A1.toV,Tt.toT,Ai]
      rw[e];exact(step hv).2
     grind
    grind
   grind
variable {g:G} {a:Act} {w:World}
theorem zq{s:St}(h:R g s.toS a w)(n:Nm):∀i,R g (Ah s n i).toS a w
 |0=>h
 |i+1=>Qd (zq h n i) _
theorem RS{s:St}(h:R g s.toS a w)(r:ResultVar):R g (EV s r).toS a w:=by
 cases r with
 |tmp t=>exact Qc h _
 |cell a' t=>grind [EV,zq]
theorem sU:∀(rs:List ResultVar){s:St},R g s.toS a w->R g (qd s rs).toS a w
 |[],_,h=>h
 |r::rs,_,h=>sU rs (RS h r)
theorem afI{s:St}(h:R g s.toS a w):∀p i,gtA s.t i=.one (.c (.pl p))->okP (toM s.m) p:=by
 intro p i e;obtain⟨H,γ,F,b⟩:=h;have:=b.t i
 rw[jr e]at this;obtain⟨_,h1,_⟩:=this;exact Oe h1
theorem FY{rs:List ResultVar}{us:List U}{KK:Fl us->Prop}{K:AV->Prop}{t:St}(e:∀r,KK r->K (ic us r).toV)(h:vD P rs us KK t)(d:R g t.toS a w):∃c,Bn P c rs K/\R g c a w:=by
 unfold vD at h;have b:=sU rs d
 refine⟨_,Q0 (us:=us) (Q:=KK) (tb (us:=us) ?_ h) e (mu (afI b) ?_ h),b⟩
 all_goals grind
theorem p7:∀(i:Nat)(us:List U)(x:Fl us),(IZ i us x).map (λy=>(y.1,y.2.2.toV))=eH i (lg us x)
 |_,[],_=>rfl
 |i,u::r,x=>by simp only[IZ,akM,lg,eH,p7 (i+1) r]
theorem ip:∀(us:List U)(x:Fl us),(lg us x).length=us.length
 |[],_=>rfl
 |u::r,x=>by simp only[lg,ak3,ip r]
end
def OI(s:S)(rs:List ResultVar)(K:List Sh->List (List D)->Prop):Prop:=
 match rs with
 |[.tmp t]=>match bB s.t t with
  |.one (.c (.rf ⟨n,0,[]⟩))=>match ah s.m n with
   |some ⟨false,[.ow sub l]⟩=>K sub l
   |_=>False
  |_=>False
 |_=>False
def ajQ(rs:List ResultVar)(K:List Sh->List (List D)->Prop):Exit->S->Prop
 |.normal,s=>OI s rs K
 |.ret,s=>OI s rs K
 |_,_=>False
def Y7(a:List AV->List Sh->List (List D)->(List (List D)->Prop)->Prop):CK1:=λs ops k=>
 match ops with
 |[]=>False
 |o::os=>
  let s1:=pE s (os.map (ev s))
  match ev s1 o with
  |.one (.c (.rf ⟨r,0,[]⟩))=>match ah s1.m r with
   |some ⟨false,[.ow sub l]⟩=>(os.map (ev s1)).all AV.isFz=true /\
     a (os.map λx=>(ev s1 x).map T.canon) sub l (λl'=>k ⟨nH (bJ r) s1.t,(r,⟨false,[.ow sub l']⟩)::aP (bJ r) (ci s1.m r)⟩ (.one (.c (.rf ⟨r,0,[]⟩))))
   |_=>False
  |_=>False
section
variable {P:Program}
theorem aaE{f:Nat}{fn:Func}{c:Code}(hf:P.funcs[f]? = some fn) (aE:(fn.name == "runtime.NumGoroutine")=false) (hb:fn.body=some c) (φ:List AV->List Sh->List (List D)->(List (List D)->Prop)->Prop)
  (aj:∀B sub l K,φ B sub l K->B.length+1<=fn.ntmps)
  (S:∀(g:G)B sub l K,g.nt=fn.ntmps->φ B sub l K->AW P g c (ajQ fn.results.toList (λd l'=>d=sub/\K l')) ⟨eH 0 (.one (.c (.rf ⟨.out 0,0,[]⟩))::B),[(.out 0,⟨false,[.ow sub l]⟩)]⟩):Con P f (Y7 φ):=by
 refine⟨λargs w=>?_,?_⟩
 .simp_all[callFunc]
 intro g s a w H γ F ops k hX aM hK;cases ops with
 |nil=>exact hK.elim
 |cons o os=>
 unfold Y7 at hK;dsimp only at hK;obtain⟨H1,F1,h1⟩:=uo (os.map (ev s)) s H F hX;generalize pE s (os.map (ev s))=s1 at hK h1;have C:aH o=true/\os.all aH=true:=by grind
 split at hK
 rotate_left
 .grind
 rename_i r aw;split at hK
 rotate_left
 .grind
 rename_i sub l E;obtain⟨hfz,ag⟩:=hK;have Q:=aJ h1 C.1
 rw[aw]at Q;obtain⟨_,aG,aK⟩:=Q;have hR:=h1.mem.roots _ (al E)
 have X:=hR
 unfold cz at X;rw[if_neg (by simp)]at X;obtain⟨v0,t0,hγr,z,ax⟩:=X;simp only[List.cons.injEq,and_true]at z;subst z;have an:a.eval o=v0:=by grind [plV,aI]
 have ao:=aj _ _ _ _ ag
 rw[akT]at ao
 let L:Gam:=λn=>if n=.out 0 then .gh v0 else γ n
 let mc:Mm:=[(.out 0,⟨false,[.ow sub l]⟩)]
 let g1:G:=⟨fn.ntmps,w,H1,F1 r,λ_=>none,none,[]⟩
 have ab:L (.out 0)=.gh v0:=by rfl
 have aN:cz w H1 L mc (.out 0) ⟨false,[.ow sub l]⟩ (F1 r):=by exact⟨v0,_,ab,rfl,ax⟩
 have ay:∀c,F1 r c<=tot F1 s1.m c:=λc=>bV (F:=F1) (al E) c
 let Fc:Nm->Fp:=λ_=>F1 r
 have aR:∀c,tot Fc mc c=F1 r c:=λc=>(am0 (F1 r c))
 have ar:Mem w H1 L mc Fc:=by
  refine⟨h1.mem.agree,λx hx=>?_,by simp[mc],λc=>by exact alV (ay c) (h1.mem.le1 c),λc hc=>by exact h1.mem.lt c (by grind),λc hc=>by exact h1.mem.nofz c (by grind)⟩
  grind
 refine calls_of_wp hf hb (Code.wp_mono (λe a' w' hl=>?_) (S g1 _ _ _ _ rfl ag _ w ⟨H1,L,Fc,?_⟩))
 .obtain⟨s',hq,H',γ',F',hX'⟩:=hl;have fin:OI s' fn.results.toList (λd l'=>d=sub/\k ⟨nH (bJ r) s1.t,(r,⟨false,[.ow sub l']⟩)::aP (bJ r) (ci s1.m r)⟩ (.one (.c (.rf ⟨r,0,[]⟩)))) ->
    a'.defers=[]/\∃v,(results fn a'.tmps).run P w'=.ok v w'/\∃rr W av am N aq,Ending.returned v=.returned rr/\k W av/\AR w' am N W.m av rr/\RX g W a w' am N aq:=by
   intro hq;unfold OI at hq;split at hq
   rotate_left
   .grind
   rename_i t aT;split at hq
   rotate_left
   .grind
   rename_i n aA;split at hq
   rotate_left
   .grind
   rename_i d l' O;obtain⟨rfl,hk⟩:=hq;have ac:(results fn a'.tmps).run P w'=.ok (a'.tmps.getD t undef) w':=by simp_all[jy,Array.mapM_eq_mapM_toList,pg]
   have M:AR w' _ _ _ _ (a'.tmps.getD t undef):=hX'.t t
   rw[aA]at M;obtain⟨_,_,aS⟩:=M;have Y:=hX'.mem.roots _ (al O)
   unfold cz at Y;rw[if_neg (by simp)]at Y;obtain⟨Z,t1,aL,ae,ad⟩:=Y;simp only[List.cons.injEq,and_true]at ae;subst ae;have aV:a'.tmps.getD t undef=Z:=by grind [plV,aI]
   have p:=hX'.fr
   dsimp only[g1]at p;have hd:=um h1 r
   have ak:(s1.drop r).m=aP (bJ r) (ci s1.m r):=rfl
   have u:=hd.mem
   rw[ak]at u;generalize hmd0:aP (bJ r) (ci s1.m r)=md at u hk;have J:∀c,tot F1 md c+F1 r c=tot F1 s1.m c:=λc=>by grind [bC,mz]
   have I:∀c,tot F1 md c≠0->w'.heap[c]? = w.heap[c]? := λc hc=>p.block c (h1.mem.lt c (by grind)) (by have:=J c;have:=h1.mem.le1 c;omega)
   have aa:∀c,c<w.heap.size->F1 r c=0->H1 c=H' c:=by
    intro c hc h0
    funext o
    cases hh:H1 c o with
    |some y=>rw[p.hold c o y hh]
    |none=>
     cases aQ:H' c o with
     |none=>rfl
     |some y=>
      rcases p.hnew c o (by grind) hh with h'|h'
      all_goals omega
   have V:=fK (w':=w') u I
   have aD:Mem w' H' γ md F1:=by refine⟨hX'.mem.agree,λx hx=>bm V p.hold rfl (λc hc=>I c (by grind [bV])) (u.roots x hx),u.keys,u.le1,λc hc=>by grind [Mem.lt],λc hc o=>?_⟩;rw[<- aa c (u.lt c hc) (by have:=J c;have:=h1.mem.le1 c;omega)];exact u.nofz c hc o
   have A:ah md r=none:=by rw[<- hmd0];exact Jr h1.mem.keys
   have aC:cz w' H' (upd γ r (.gh Z)) ((r,⟨false,[.ow d l']⟩)::md) r ⟨false,[.ow d l']⟩ (F' n):=by exact⟨Z,_,eQ,rfl,ad⟩
   have aU:∀c,F' n c<=tot F' s'.m c:=λc=>bV (F:=F') (al O) c
   have aB:∀c,F' n c≠0->F1 r c≠0\/w.heap.size<=c:=λc hc=>p.tt c (by grind)
   have ap:∀c,F' n c≠0->tot F1 md c=0:=λc hc=>by
    rcases aB c hc with h'|h'
    .have:=J c;have:=h1.mem.le1 c;omega
    grind [Mem.lt]
   obtain⟨hM,aF⟩:=yl aD (n:=r) (rc:=.gh Z) (r:=⟨false,[.ow d l']⟩) (f:=F' n) A aC (λc=>by
     by_cases hc:F' n c=0
     .grind [Mem.le1]
     have:=hX'.mem.le1 c;grind)
    (λc hc=>⟨hX'.mem.lt c (by grind),hX'.mem.nofz c (by grind)⟩)
   have au:Fr w H1 (tot F1 s1.m) w' H' (tot (upd F1 r (F' n)) ((r,⟨false,[.ow d l']⟩)::md)):=by
    refine⟨p.size,p.os,p.tape,p.output,λc hc h0=>p.block c hc (by grind),p.hold,λc o h2 h3=>?_,λc hc=>?_,p.nz⟩
    all_goals grind
   have az:KeepsB (bJ r) w γ s1.m w' (upd γ r (.gh Z)) ((r,⟨false,[.ow d l']⟩)::md):=by
    have aO:=mX (w:=w') (γ:=γ) (rc:=.gh Z) (r:=⟨false,[.ow d l']⟩) A
    have af:KeepsB (bJ r) w γ s1.m w γ md:=by grind [fb]
    constructor
    .intro q U hq;obtain⟨k1,k2⟩:=af.pl q U hq;obtain⟨k3,k4⟩:=V.pl q k1
     grind [Keeps.pl]
    intro q U hq;obtain⟨k1,k2⟩:=af.rf q U hq;obtain⟨k3,k4⟩:=V.rf q k1
    grind [Keeps.rf]
   refine⟨hX'.df.1,_,ac,_,_,_,H',upd γ r (.gh Z),_,rfl,hk,?_,hM,h1.fr.trans au,h1.nt,⟨h1.df.1,λj b e=>?_,h1.df.2.2⟩,λi=>?_⟩
   .refine⟨λ_=>rfl,?_,?_⟩
    all_goals grind [iB,ah,plV,eQ]
   .have:=h1.df.2.1 j b e
    grind [mR]
   rw[oQ];exact ua az p.hold (h1.t i)
  cases e with
  |normal=>exact fin hq
  |ret=>exact fin hq
  |_=>exact hq.elim
 refine⟨ar,⟨akK _,rfl,rfl,rfl,λ_ _ _=>rfl,λ_ _ _ h=>h,λb o h2 h3=>absurd h3 h2,λc hc=>.inl (by grind),o8⟩,?_,⟨rfl,λi b' e=>by grind,jI h1⟩,λi=>?_⟩
 .grind
 have R:∀x,(o::os)[i]? = some x->(((o::os).map a.eval).toArray++Array.replicate (fn.ntmps - ((o::os).map a.eval).toArray.size) undef).getD i undef=a.eval x:=by
  intro x hx;rw[alU,alR (by grind)]
  grind
 cases i with
 |zero=>
  rw[G.tv_none rfl,R o rfl,an];refine⟨λ_=>rfl,?_,?_⟩
  all_goals grind [iB,ah,plV]
 |succ i=>
  have ai:bB (eH 0 (.one (.c (.rf ⟨.out 0,0,[]⟩))::os.map λx=>(ev s1 x).map T.canon)) (i+1)=((os.map λx=>(ev s1 x).map T.canon)[i]?).getD .any:=by grind [iw]
  rw[ai,akN];cases hi:os[i]? with
  |none=>trivial
  |some x=>
   have hx:=aJ h1 (akZ.1 C.2 x (alL hi))
   have hz:(ev s1 x).isFz=true:=by grind
   rw[G.tv_none rfl,R x (by grind)];exact iF fw (xl (λ_ _ _ h=>h) hz hx)
end
section
variable {α β γ' δ:Type} {P:Program} {f:Nat} {fn:Func} {co:Code}
def fo0(c:Rw α)(n:Nat)(pre:List α->Prop)(f:List α->List α):List AV->List Sh->List (List D)->(List (List D)->Prop)->Prop
 |[],sub,l,K=>match dD c l with
  |some s=>sub=List.replicate n .fr/\pre s/\K ((f s).map c.enc)
  |_=>False
 |_,_,_,_=>False
def fo1(c:Rw α)(n:Nat)(a:Cd β)(pre:List α->β->Prop)(f:List α->β->List α):List AV->List Sh->List (List D)->(List (List D)->Prop)->Prop
 |[.one x],sub,l,K=>match dD c l,a.dec x with
  |some s,some x=>sub=List.replicate n .fr/\pre s x/\K ((f s x).map c.enc)
  |_,_=>False
 |_,_,_,_=>False
def fo2(c:Rw α)(n:Nat)(a:Cd β)(b:Cd δ)(pre:List α->β->δ->Prop)(f:List α->β->δ->List α):List AV->List Sh->List (List D)->(List (List D)->Prop)->Prop
 |[.one x,.one y],sub,l,K=>match dD c l,a.dec x,b.dec y with
  |some s,some x,some y=>sub=List.replicate n .fr/\pre s x y/\K ((f s x y).map c.enc)
  |_,_,_=>False
 |_,_,_,_=>False
end
attribute [push_cast] Y7 fo0 fo1 fo2 OI ajQ
variable{an:An}{ps:List U}
section
variable {P:Program} {g:G} {a:Act} {w:World} {H:FH} {γ:Gam} {F:Nm->Fp}
theorem EE{m:Mm}{t:T}{f:Fp}{v:Value}(h:TR w H γ m t f v):sq (m.map (·.1)) t:=by
 have key:∀{n:Nm}{r:Root},ah m n=some r->n∈m.map (·.1):=λh=>List.mem_map_of_mem (f:=(·.1)) (al h)
 cases t with
 |pl p=>
  obtain⟨_,h1,_⟩:=h;unfold cq at h1;split at h1
  .grind
  rename_i hr;exact key hr
 |rf p=>
  obtain⟨_,h1,_⟩:=h;unfold iB at h1;split at h1
  .grind
  rename_i hr;exact key hr
 |_=>trivial
theorem Pa{m:Mm}{x:AV1}(h:AR1 w H γ m x y):yN (m.map (·.1)) x:=by
 cases x with
 |c t=>exact EE h
 |agg ts=>obtain⟨cs,_,_,h1⟩:=h;intro t a;obtain⟨i,hi,e⟩:=List.getElem_of_mem a;obtain⟨v,g',_,h2,_⟩:=EF h1 (i:=i) (t:=t) (by grind);exact EE h2
theorem afR{m:Mm}{x:AV}(h:AR w H γ m x y):LM (m.map (·.1)) x:=by
 cases x with
 |one x=>exact Pa h
 |tup xs=>
  obtain⟨l,_,h1⟩:=h;have:∀(xs:List AV1)(ys:List Value),ARs w H γ m xs ys->∀x∈xs,yN (m.map (·.1)) x:=by
   intro xs;induction xs with
   |nil=>grind
   |cons x xs ih=>
    intro ys h z hz;cases ys with
    |nil=>exact h.elim
    |cons y ys=>
     rcases akU.1 hz with rfl|hz
     .exact Pa h.1
     exact ih ys h.2 z hz
  exact this xs _ h1
 |any=>trivial
theorem Wy{m:Mm}{r:Root}{f:Fp}(h:cz w H γ m n r f):∀t∈r.cells,sq (m.map (·.1)) t:=by
 intro t a;unfold cz at h;split at h
 .obtain⟨b,cs,ty,fz,g',_,_,_,_,h1,_⟩:=h;obtain⟨i,hi,e⟩:=List.getElem_of_mem a;obtain⟨v,c,_,h2,_⟩:=EF h1 (i:=i) (t:=t) (by grind);exact EE h2
 grind [EE]
theorem C3{s:S}(b:RX g s a w H γ F)(n:Nm):RX g ⟨s.t,s.m.map λx=>(x.1,if x.1=n then mC x.2 else x.2)⟩ a w H γ F:=by
 have hk:(s.m.map λx=>(x.1,if x.1=n then mC x.2 else x.2)).map (·.1)=s.m.map (·.1):=by simp_all
 refine Ws b (by rw[hk];exact b.mem.keys) (λx hx=>?_) (λi=>.inr ⟨.inl rfl,by rw[hk];exact afR (b.t i)⟩);rw[hk];obtain⟨y,hy,rfl⟩:=ak5.1 hx;refine⟨y.2,tf b.mem.keys hy,?_,Wy (b.mem.roots y hy)⟩
 grind [oo.canon,oo.refl]
theorem s5{sh:List Sh}{cells:List Tt}{j:Nm}(h:i7 sh cells=some ts):(cells.map Tt.toT).all (T.self j)=true/\∀r:Nm,(cells.map Tt.toT).map (T.ren r j)=cells.map Tt.toT:=by
 induction cells generalizing sh ts with
 |nil=>grind
 |cons c cells ih=>
  cases sh with
  |nil=>simp[i7]at h
  |cons s sh=>
   have key:∀{ts'},i7 sh cells=some ts'->(T.self j c.toT=true/\∀r,T.ren r j c.toT=c.toT)->((c::cells).map Tt.toT).all (T.self j)=true/\∀r:Nm,((c::cells).map Tt.toT).map (T.ren r j)=(c::cells).map Tt.toT:=by grind
   cases s with
   |fr=>
    cases c with
    |d x=>
     simp only[i7]at h;split at h
     .rename_i hr;exact key hr ⟨rfl,λ_=>rfl⟩
     grind
    |nil=>
     simp only[i7]at h;split at h
     .rename_i hr;exact key hr ⟨rfl,λ_=>rfl⟩
     grind
    |_=>simp[i7]at h
   |ow sub=>
    cases c with
    |ow s' u l=>
     simp only[i7]at h;split at h
     .rename_i hr;exact key hr ⟨rfl,λ_=>rfl⟩
     grind
    |_=>simp[i7]at h
theorem D6{a b:Nm}:∀{ts:List T}{sh:List Sh}{cs:List C},ts.map T.canon=(bX sh cs).map Tt.toT->ts.map (T.ren a b)=ts
 |[],_,_,_=>rfl
 |t::ts,sh,cs,h=>by
  cases sh with
  |nil=>simp[bX]at h
  |cons s r=>cases cs with
   |nil=>grind [bX]
   |cons c cs=>
    have hd:∃t0:Tt,(∀p,t0≠.pl p)/\bX (s::r) (c::cs)=t0::bX r cs:=by
     cases s with
     |fr=>exact⟨.d c,(λ_ h=>by cases h),(by rfl)⟩
     |ow sub=>cases c with
      |li u l=>exact⟨.ow sub u l,(λ_ h=>by cases h),rfl⟩
      |_=>exact⟨.d _,(λ_ h=>by cases h),rfl⟩
    obtain⟨t0,h0,h1⟩:=hd;rw[h1]at h;simp only[akM,List.cons.injEq]at h;rw[akM,D6 h.2];cases t with
    |pl p=>cases t0<;>grind [T.canon,Tt.toT]
    |_=>rfl
theorem ad5:∀(us:List U)(x:Fl us),(ic us x).toV.isFz=true:=by
 have one:∀(u:U)(x:El u),(Cp u x).toV.isFz=true:=by
  intro u x;cases u with
  |st n=>simp only[Cp,A1.toV,AV1.isFz,List.all_map];exact akZ.2 λ_ _=>rfl
  |_=>rfl
 have all:∀(us:List U)(x:Fl us),((ic.resL us x).map A1.toV).all AV1.isFz=true:=by
  intro us;induction us with
  |nil=>intro _;rfl
  |cons u r ih=>grind [ic.resL]
 intro us x
 match us,x with
 |[],_=>rfl
 |[u],x=>show(BK u x).toV.isFz=true;rw[vP];exact one u x
 |u::v::r,x=>exact all (u::v::r) x
theorem LZ(s:St)(k:Nat)(sh:List Sh)(u:U):Ext s (wO s k sh u):=by grind [wO,Cy,Ext.refl]
theorem Wv{s:St}(h:R g s.toS a w)(k:Nat)(sh:List Sh)(u:U):R g (wO s k sh u).toS a w:=by grind [wO,Qe]
theorem Vt{e:En}(he:e.ok)(hm:e.P.follows .mixedOrders=true){f:Nat}{fn:Func}(hf:e.P.funcs[f]? = some fn) (A:(fn.name == "runtime.NumGoroutine")=false) (hb:fn.body.isSome=true)    {pre:List (El u)->Fl ps->Prop} {Fn:List (El u)->Fl ps->List (El u)}
  (B:Nat.ble (ps.length+1) fn.ntmps=true) (hc:jZ fn.ntmps (fn.body.getD .skip)=true) (S:∀x y,pre x y->∀KK:List (El u)->Prop,KK (Fn x y)->WN e fn an u ps x y KK):Cont e.P f (adS u ps pre Fn):=by
 have L:fn.body=some (fn.body.getD .skip):=by cases h:fn.body<;>grind
 let V:List AV->List Sh->List (List D)->(List (List D)->Prop)->Prop:=λp sub l K=>∃(x:List (El u))(y:Fl ps),p=lg ps y/\sub=List.replicate (nc u) .fr/\l=x.map (aw u)/\pre x y/\K ((Fn x y).map (aw u))
 have o:Con e.P f (Y7 V):=by
  refine aaE hf A L V (λp sub l K⟨x,y,hx,_⟩=>by rw[hx,ip];exact akR B) (λg p sub l K hg⟨x,y,hx,G,hl,hp,hk⟩=>?_);subst hx;subst G;subst hl;have h:=S x y hp (λr=>r=Fn x y) rfl
  have h1:=om (e:=⟨e.P,e.E,e.cs,e.sh,λ_ _=>False⟩) he hm (g:=g) _ an _ _ (by grind) h
  have e0:(⟨1,(0,0,.one (.c (.rf ⟨.out 0,0,[]⟩)))::IZ 1 ps y,[(.out 0,0,⟨false,[.ow (List.replicate (nc u) .fr) u x],none⟩)]⟩:St).toS=⟨eH 0 (.one (.c (.rf ⟨.out 0,0,[]⟩))::lg ps y),[(.out 0,⟨false,[.ow (List.replicate (nc u) .fr) (x.map (aw u))]⟩)]⟩:=by refine bT.S_ext ?_ rfl;simp only[akM,p7];rfl
  rw[e0]at h1;refine AW.mono h1 (λex s' h'=>?_);have fin:∀t:St,Q3 fn.results.toList u (λr=>r=Fn x y) t->OI t.toS fn.results.toList (λC l'=>C=List.replicate (nc u) .fr/\K l'):=by
   intro t j;unfold Q3 at j;unfold OI;split at j
   .rename_i tt O;rw[O];dsimp only;split at j
    .rename_i n Q;rw[jr Q];simp only[At.toV,A1.toV,Tt.toT];split at j
     .rename_i sh u' l hr;rw[show ah t.toS.m n=some (⟨false,[.ow sh u' l],none⟩:Rt).toR from bz hr];split at j
      .rename_i l' hs d;obtain⟨U,rfl⟩:=jM d;refine⟨jX hs,?_⟩
       grind
      grind
     grind
    grind
   grind
  cases ex with
  |normal=>obtain⟨t,rfl,j⟩:=h';exact fin t j
  |ret=>obtain⟨t,rfl,j⟩:=h';exact fin t j
  |exit i=>exact h'.elim (λt j=>j.2.elim)
  |panic c=>obtain⟨_,_,_,_,hf⟩:=h';grind
  |_=>exact h'.elim
 refine⟨o.run,λpk s ops k k' hk b=>?_,λg pk s a w H γ F1 ops k X I b=>?_⟩
 .unfold adS at b|-;split at b
  .dsimp only at b|-;split at b
   .split at b
    .split at b
     .refine⟨b.1,hk _ _ ?_ b.2⟩;exact((LZ _ _ _ _).trans (fa _ _)).trans ⟨alD _,ik (akK _),((mV _).trans (eD (akK _))).trans (kI _ _ _ (akK _))⟩
     omega
    omega
   omega
  omega
 unfold adS at b;split at b
 .rename_i t os;have q:os.all aH=true:=by grind
  dsimp only at b;obtain⟨H0,M,Y,h0⟩:=Wv (Ww X) t (List.replicate (nc u) .fr) u;generalize wO s t (List.replicate (nc u) .fr) u=s0 at b h0;obtain⟨H1,F2,h1⟩:=je (os.map (evA s0)) s0 H0 Y h0;generalize eJ s0 (os.map (evA s0))=s1 at b h1;have N:=gB h1
  split at b
  .rename_i r R;split at b
   .rename_i sh u' l z;split at b
    .rename_i l' x hs d hx;obtain⟨U,rfl⟩:=jM d;subst U;obtain⟨c1,c2,c3⟩:=jL hx;refine Calls.mono (o.call g s1.toS a w H1 M F2 (.tmp t::os) (λs' av=>∃t' J,s'=t'.toS/\av=J.toV/\k t' J) h1 I ?_) ?_
     .unfold Y7;dsimp only;rw[vf q,oN c1];rw[show ev s1.toS (.tmp t)=(evA s1 (.tmp t)).toV from dy t s1.t,R];simp only[At.toV,A1.toV,Tt.toT];rw[show ah s1.toS.m r=some (⟨false,[.ow sh u' l],none⟩:Rt).toR from bz z];refine⟨by grind [vf],l,x,?_,jX hs,rfl,b.1,_,_,?_,?_,b.2⟩
      .have e:(os.map λx=>(ev s1.toS x).map T.canon)=(os.map (ev s1.toS)).map (AV.map T.canon):=by rw[alW];rfl
       grind [vf]
      .refine(bT.S_ext (nG _ _ _) ?_).symm;simp only[akM]
       congr 1
       have:=fh (bJ r) s1.nx (fN s1.m r)
       rw[nh _ _ N]at this;exact this
      rfl
     rintro e' w' ⟨rr,s',av,H',γ',F',Z,⟨t',J,rfl,rfl,q4⟩,q5,W⟩
     exact .inl ⟨rr,t',J,H',γ',F',Z,q4,q5,W⟩
    grind
   grind
  grind
 grind
end
theorem WL(i k:Nat):Nat.beq (i+100000) (k+100000)=Nat.beq i k:=by cases h:Nat.beq i k<;>grind [akO,Nat.beq_refl]
theorem Ku(k:Nat)(t:List (Nat×Nat×At)):cF (shT t) (k+100000)=cF t k:=by induction t<;>grind [shT,cF,WL]
theorem Kv{k:Nat}(hk:k < 100000)(t:List (Nat×Nat×At)):cF (shT t) k=none:=by induction t<;>grind [akO,shT,cF]
theorem Kw(k:Nat)(t:List (Nat×Nat×At)):cF (sx t) k=cF t (k+100000):=by
 induction t with
 |nil=>rfl
 |cons x r ih=>
  obtain⟨i,j,v⟩:=x;simp only[sx,cF];cases hb:Nat.ble 100000 i with
  |true=>
   have hi:=akR hb
   have e:Nat.beq (i - 100000) k=Nat.beq i (k+100000):=by
    have:=WL (i - 100000) k
    rw[Nat.sub_add_cancel hi]at this;exact this.symm
   rw[cF,e];cases Nat.beq i (k+100000)with
   |true=>rfl
   |false=>exact ih
  |false=>
   have hi:¬ 100000<=i:=λh=>by rw[Nat.ble_eq_true_of_le h]at hb;cases hb
   have e:Nat.beq i (k+100000)=false:=by
    cases h:Nat.beq i (k+100000)with
    |false=>rfl
    |true=>have:=akO h;omega
   rw[e];exact ih
variable{b:List (Nat×Nat×At)}
theorem wK{nx k:Nat}:∀{l:List At}{i:Nat},i+l.length<=k->cF (BU nx i l++b) k=cF b k
 |[],_,_=>rfl
 |v::r,i,h=>by
  have e:Nat.beq i k=false:=by grind [akO]
  simp only[BU,al6,cF,e];exact wK (by grind)
theorem xE{nx k:Nat}:∀{l:List At}{i:Nat}{v:At},i<=k->l[k-i]? = some v->cF (BU nx i l++b) k=some (nx,v)
 |[],_,_,_,h=>by simp at h
 |v::r,i,x,hi,h=>by
  simp only[BU,al6,cF];rcases Nat.lt_or_eq_of_le hi with a|rfl
  .have e:Nat.beq i k=false:=by grind [akO]
   rw[e];refine xE kQ1 ?_
   grind
  grind [Nat.beq_refl]
abbrev inS(s:St)(vs:List At):St:=⟨s.nx+1,BU s.nx 0 vs++shT s.t,s.m⟩
variable{vs:List At}
theorem afU{s:St}(hl:vs.length<=100000)(h:Ext (inS s vs) s'):Ext s ⟨s'.nx,sx s'.t,s'.m⟩:=by
 refine⟨alV (alD _) h.nx,λk j v hk hj=>?_,λn j r hk hj=>h.m n j r hk (Nat.lt_succ_of_lt hj)⟩;rw[Kw]at hk;have:=h.t _ j v hk (Nat.lt_succ_of_lt hj)
 grind [wK,Ku]
theorem uS{P:Program}{s:St}{res:List ResultVar}{k k':St->At->Prop}(hl:vs.length<=100000)(hk:∀s' v,Ext s s'->k s' v->k' s' v)(a:Ext (inS s vs) s')(h:oT P res k s'):oT P res k' s':=by grind [oT,afU]
variable{nt:Nat}{w':World}
section
variable {g:G} {a:Act} {w:World} {H:FH} {γ:Gam} {F:Nm->Fp}
theorem P8{s:St}(b:RX g s.toS a w H γ F){ys:List Value}(hl:ys.length=vs.length)(hv:∀(i:Nat) (v:At) (y:Value),vs[i]? = some v->ys[i]? = some y->AR w H γ s.toS.m v.toV y)(f:vs.length<=nt)(h:nt<=100000) :
  RX ⟨nt,g.w0,g.H0,g.own0,g.out,some (g.tv a),[]⟩ (inS s vs).toS ⟨ys.toArray++Array.replicate (nt-ys.toArray.size) undef,[]⟩ w H γ F:=by
 have d:(ys.toArray++Array.replicate (nt-ys.toArray.size) undef).size=nt:=by grind
 refine⟨b.mem,b.fr,d,⟨rfl,b.df.2⟩,λi=>?_⟩;rw[show bB (inS s vs).toS.t i=(gtA (BU s.nx 0 vs++shT s.t) i).toV from dy i _,kN];rcases alY i vs.length with hi|hi
 .rw[xE (alJ i) (v:=vs[i]) (by grind)];have c:i<ys.length:=by omega
  rw[G.tv_lt (by grind)];have e:(ys.toArray++Array.replicate (nt-ys.toArray.size) undef).getD i undef=ys[i]:=by simp_all[alR]
  rw[e];exact hv i _ _ (akL hi) (akL c)
 rw[wK kQ1];rcases alY i 100000 with hb|hb
 .rw[Kv hb];trivial
 obtain⟨j,rfl⟩:∃j,i=j+100000:=⟨i - 100000,by omega⟩
 rw[Ku,<- kN];have e:G.tv ⟨nt,g.w0,g.H0,g.own0,g.out,some (g.tv a),[]⟩ ⟨ys.toArray++Array.replicate (nt-ys.toArray.size) undef,[]⟩ (j+100000)=g.tv a j:=by
  unfold G.tv;dsimp only;rw[if_neg (by grind [TB])]
  simp_all[TB]
 rw[e,<- dy];exact b.t j
theorem af1{s:St}(d:RX g s.toS a w H γ F){ops:List Operand}(b:ops.all aH=true)(e:ops.length<=nt)(c:nt<=100000) :
  RX ⟨nt,g.w0,g.H0,g.own0,g.out,some (g.tv a),[]⟩ (inS s (ops.map (evA s))).toS ⟨(ops.map a.eval).toArray++Array.replicate (nt - (ops.map a.eval).toArray.size) undef,[]⟩ w H γ F:=by
 refine P8 d (by simp) (λi v y hv hy=>?_) (by grind) c;rw[akN]at hv hy;obtain⟨x,hx,rfl⟩:=ak0.1 hv;have hop:=akZ.1 b x (alL hx)
 have:=aJ d hop
 grind [aj]
theorem uq{s0:S}(b:RX g s0 a w H γ F)(c:nt<=100000){a':Act}{H':FH}{γ':Gam}{F':Nm->Fp}(h:RX ⟨nt,g.w0,g.H0,g.own0,g.out,some (g.tv a),[]⟩ s'.toS a' w' H' γ' F') :
  RX g (⟨s'.nx,sx s'.t,s'.m⟩:St).toS a w' H' γ' F':=by
 refine⟨h.mem,h.fr,b.nt,⟨b.df.1,h.df.2⟩,λi=>?_⟩;rw[show bB (⟨s'.nx,sx s'.t,s'.m⟩:St).toS.t i=(gtA (sx s'.t) i).toV from dy i _,kN,Kw,<- kN,<- dy];have:=h.t (i+100000)
 have e:G.tv ⟨nt,g.w0,g.H0,g.own0,g.out,some (g.tv a),[]⟩ a' (i+100000)=g.tv a i:=by
  have hs:=h.nt
  unfold G.tv;dsimp only;rw[if_neg (by grind [TB])]
  simp_all[TB]
 rw[e]at this;exact this
theorem YQ{P:Program}{v:A1}(h:YP P m t x=some v):pH P m t x (λw=>w=.one v):=by unfold YP at h;grind [pH]
theorem FW{P:Program}{s:St}(h:RX g s.toS a w H γ F):∀{rs:List ResultVar}{xs:List A1},OJ P s rs=some xs->∃ys,(rs.mapM (pg a.tmps)).run P w=.ok ys w/\ARs w H γ (toM s.m) (xs.map A1.toV) ys/\ys.length=rs.length/\xs.length=rs.length
 |[],xs,e=>by simp only[OJ,akJ]at e;subst e;exact⟨[],rfl,trivial,rfl,rfl⟩
 |.tmp t::r,xs,e=>by
  simp only[OJ]at e;split at e
  .rename_i x i h1 h2 h3;simp only[akJ]at e;subst e;obtain⟨ys,k1,k2,k3,k4⟩:=FW (P:=P) h h2;have b:=h.t t
   rw[show bB s.toS.t t=(gtA s.t t).toV from dy t s.t,h1,G.tv_lo (show t<TB from akR h3)]at b;refine⟨a.tmps.getD t undef::ys,?_,⟨b,k2⟩,by simp[k3],by simp[k4]⟩
   simp_all[pg]
  grind
 |.cell c t::r,xs,e=>by
  simp only[OJ]at e;split at e
  .rename_i x i h1 h2 h3;simp only[akJ]at e;subst e;obtain⟨ys,k1,k2,k3,k4⟩:=FW (P:=P) h h2;have b:=h.t c
   rw[show bB s.toS.t c=(gtA s.t c).toV from dy c s.t,G.tv_lo (show c<TB from akR h3)]at b;have hl:=YQ h1
   obtain⟨z,d,B,_,f,k,l,rfl,rfl⟩:=AF (P:=P) h.mem (AG (λq hq=>by rw[hq]at b;exact Oe b.2.1) hl) b
   replace f:=f w (λ_ _=>rfl)
   have j:(pg a.tmps (.cell c t)).run P w=.ok z w:=by
    simp only[pg];simp only[Instr.loadAt]at f;generalize a.tmps.getD c undef=u at f;cases u with
    |pointer ad=>
     cases ad with
     |some ad=>grind [asAddr,Instr.sureAddr]
     |none=>simp[Instr.sureAddr]at f
    |_=>simp[Instr.sureAddr]at f
   refine⟨z::ys,?_,⟨k,k2⟩,by simp[k3],by simp[k4]⟩
   simp_all
  grind
theorem QD{P:Program}{fn:Func}{s:St}{k:St->At->Prop}(h:RX g s.toS a w H γ F)(hk:oT P fn.results.toList k s) :
  ∃y v,(results fn a.tmps).run P w=.ok y w/\AR w H γ (toM s.m) v.toV y/\k ⟨s.nx,sx s.t,s.m⟩ v:=by
 unfold oT at hk;split at hk
 .rename_i xs hx;obtain⟨ys,k1,k2,k3,k4⟩:=FW (P:=P) h hx;have b:(results fn a.tmps).run P w=.ok (if h:ys.toArray.size=1 then ys.toArray[0]else .tuple ys.toArray) w:=by simp_all[jy,Array.mapM_eq_mapM_toList]
  refine⟨_,_,b,?_,hk⟩
  match xs,ys,k2 with
  |[],[],_=>exact⟨#[],by simp,trivial⟩
  |[x],[y],k2=>exact k2.1
  |e::f::xs,c::d::ys,k2=>exact⟨(c::d::ys).toArray,by simp,by omega⟩
 grind
end
theorem Bq{P:Program}{f:Nat}{fn:Func}(hf:P.funcs[f]? = some fn) (a:(fn.name == "runtime.NumGoroutine")=false) (hb:fn.body.isSome=true):∀args w,(callFunc f args).run P w=.ok (.enter f args) w:=by
 obtain⟨c,h⟩:=Option.isSome_iff_exists.1 hb
 simp_all[callFunc]
theorem Vq{e:En}(B:e.ok)(hm:e.P.follows .mixedOrders=true){f:Nat}{fn:Func}(hf:e.P.funcs[f]? = some fn) (l:(fn.name == "runtime.NumGoroutine")=false) (hb:fn.body.isSome=true) 
  (hc:jZ fn.ntmps (fn.body.getD .skip)=true) (z:Nat.ble fn.ntmps 100000=true):Cont e.P f (acT e fn an):=by
 have r:fn.body=some (fn.body.getD .skip):=by cases h:fn.body<;>grind
 have d:=akR z
 refine⟨Bq hf l hb,λpk s ops k k' hk b=>?_,λg pk s a w H γ F ops k A p b=>?_⟩
 .unfold acT at b|-;split at b
  .rename_i j;have hl:(ops.map (evA s)).length<=100000:=by rw[akT];exact alV (akR j) d
   exact yI (e:=⟨e.P,e.E,e.cs,e.sh,λv s=>pk v ⟨s.nx,sx s.t,s.m⟩⟩) B _ an _ ⟨oT e.P fn.results.toList k,λ_ _=>False,oT e.P fn.results.toList k⟩ ⟨oT e.P fn.results.toList k',λ_ _=>False,oT e.P fn.results.toList k'⟩ (λs' u h=>uS hl hk u h) (λ_ _ _ h=>h) (λs' u h=>uS hl hk u h) b
  omega
 unfold acT at b;split at b
 .rename_i j;have o:=akR j
  refine calls_of_wp hf r (Code.wp_mono (λx a' w' hl=>?_) (om (e:=⟨e.P,e.E,e.cs,e.sh,λv s=>pk v ⟨s.nx,sx s.t,s.m⟩⟩) B hm (g:=⟨fn.ntmps,g.w0,g.H0,g.own0,g.out,some (g.tv a),[]⟩) _ an _ _ hc b _ w ⟨H,γ,F,af1 A p o d⟩));obtain⟨s',hq,H',γ',F',hX'⟩:=hl;have fin:∀t:St,s'=t.toS->oT e.P fn.results.toList k t->a'.defers=[]/\∃v,(results fn a'.tmps).run e.P w'=.ok v w'/\ng g a pk k (.returned v) w':=by
   rintro t rfl n
   obtain⟨y,v,k1,k2,k3⟩:=QD (P:=e.P) hX' n;exact⟨hX'.df.1,y,k1,.inl ⟨y,_,v,H',γ',F',rfl,k3,k2,uq A d hX'⟩⟩
  cases x with
  |normal=>obtain⟨t,q,n⟩:=hq;exact fin t q n
  |ret=>obtain⟨t,q,n⟩:=hq;exact fin t q n
  |exit i=>obtain⟨t,q,n⟩:=hq;grind
  |panic c=>obtain⟨v,t,rfl,rfl,hv⟩:=hq;exact⟨hX'.df.1,.inr ⟨v,_,rfl,hv,H',γ',F',uq A d hX'⟩⟩
  |_=>exact hq.elim
 grind
theorem Vp{e:En}(O:e.ok)(hm:e.P.follows .mixedOrders=true){f:Nat}{fn:Func}(hf:e.P.funcs[f]? = some fn) (K:(fn.name == "runtime.NumGoroutine")=false) (hb:fn.body.isSome=true) 
  (hc:jZ fn.ntmps (fn.body.getD .skip)=true) (J:Nat.ble fn.ntmps 100000=true):ContC e.P (f+1000000) (acS e fn an):=by
 have D:fn.body=some (fn.body.getD .skip):=by cases h:fn.body<;>grind
 have j:=akR J
 refine⟨by omega,by grind [Bq],λpk s ops k k' hk d=>?_,λg pk s a w H γ F t ops k ps r A l n d=>?_⟩
 .unfold acS at d|-;split at d
  .rename_i _ os;split at d
   .rename_i c N;split at d
    .rename_i p;have hl:(os.map (evA s)++c.caps.map ab1).length<=100000:=by rw[ak6,akT,akT];exact alV (akR p) j
     exact yI (e:=⟨e.P,e.E,e.cs,e.sh,λv s=>pk v ⟨s.nx,sx s.t,s.m⟩⟩) O _ an _ ⟨oT e.P fn.results.toList k,λ_ _=>False,oT e.P fn.results.toList k⟩ ⟨oT e.P fn.results.toList k',λ_ _=>False,oT e.P fn.results.toList k'⟩ (λs' L h=>uS hl hk L h) (λ_ _ _ h=>h) (λs' L h=>uS hl hk L h) d
    omega
   omega
  omega
 rw[Nat.add_sub_cancel]at n|-;unfold acS at d;dsimp only at d;split at d
 .rename_i c N;split at d
  .rename_i p;have M:=akR p
   have h3:=r.t t
   rw[G.tv_lo l,show bB s.toS.t t=(gtA s.t t).toV from dy t s.t,N,n]at h3;obtain⟨_,m,h3⟩:=h3;cases m with
   |zero=>exact h3.elim
   |succ m=>
   obtain⟨z,h4,h5,h6⟩:=h3;obtain rfl:ps=z.toArray:=by grind
   rw[akT]at h5;have u:(ops.map a.eval++z).length=(ops.map (evA s)++c.caps.map ab1).length:=by simp[h5]
   have I:=P8 r (vs:=ops.map (evA s)++c.caps.map ab1) (ys:=ops.map a.eval++z) u (λi v y hv hy=>by
    rcases alY i ops.length with hi|hi
    .rw[List.getElem?_append_left (by grind),akN]at hv hy;obtain⟨x,hx,rfl⟩:=ak0.1 hv;have hop:=akZ.1 A x (alL hx)
     have:=aJ r hop
     grind [aj]
    rw[List.getElem?_append_right (by grind)]at hv hy;rw[akN]at hv;obtain⟨x,hx,rfl⟩:=ak0.1 hv;obtain⟨b,o,k1,_,k2⟩:=h6 _ x.enc y (by grind) hy;refine⟨λ_=>rfl,b,o,m,by omega,?_⟩;have e:(flat (EP x).1 (EP x).2).map C.toD=x.enc:=by rw[cj];exact XA x
    rw[e];exact k2) (by grind) j
   have q:(ops.map a.eval).toArray++z.toArray=(ops.map a.eval++z).toArray:=by simp
   rw[q];refine calls_of_wp hf D (Code.wp_mono (λx a' w' hl=>?_) (om (e:=⟨e.P,e.E,e.cs,e.sh,λv s=>pk v ⟨s.nx,sx s.t,s.m⟩⟩) O hm (g:=⟨fn.ntmps,g.w0,g.H0,g.own0,g.out,some (g.tv a),[]⟩) _ an _ _ hc d _ w ⟨H,γ,F,I⟩));obtain⟨s',hq,H',γ',F',hX'⟩:=hl;have fin:∀t:St,s'=t.toS->oT e.P fn.results.toList k t->a'.defers=[]/\∃v,(results fn a'.tmps).run e.P w'=.ok v w'/\ng g a pk k (.returned v) w':=by
    rintro t rfl l
    obtain⟨y,v,k1,k2,k3⟩:=QD (P:=e.P) hX' l;exact⟨hX'.df.1,y,k1,.inl ⟨y,_,v,H',γ',F',rfl,k3,k2,uq r j hX'⟩⟩
   cases x with
   |normal=>obtain⟨t,B,l⟩:=hq;exact fin t B l
   |ret=>obtain⟨t,B,l⟩:=hq;exact fin t B l
   |exit i=>obtain⟨t,B,l⟩:=hq;grind
   |panic c=>obtain⟨v,t,rfl,rfl,hv⟩:=hq;exact⟨hX'.df.1,.inr ⟨v,_,rfl,hv,H',γ',F',uq r j hX'⟩⟩
   |_=>exact hq.elim
  grind
 grind
theorem Vv{P:Program}{f t:Nat}{C D:CKt}(h1:Cont P f C)(h2:Cont P f D):Cont P f (aeC t C D):=by
 refine⟨h1.run,λpk s ops k k' hk hc=>?_,λg pk s a w H γ F ops k c b hc=>?_⟩
 .unfold aeC at hc|-;split at hc
  .split at hc
   .exact h1.ext pk s _ k k' hk hc
   exact h2.ext pk s _ k k' hk hc
  exact h2.ext pk s _ k k' hk hc
 unfold aeC at hc
 grind [Cont.call,Cont.call]
section
variable {g:G} {s1:S} {a:Act} {w:World} {H1:FH} {γ:Gam} {F1:Nm->Fp}
theorem aaR(h1:RX g s1 a w H1 γ F1){w':World}{e:FH}{tt:Fp}(c:Fr w H1 (λ_=>0) w' e tt)(l:∀b o y,e b o=some y->RdV w' b o y):RX g s1 a w' e γ F1:=by
 have hold:∀b,b<w.heap.size->w'.heap[b]? = w.heap[b]? := λb hb=>c.block b hb rfl
 have hnew:∀b,b<w.heap.size->H1 b=e b:=by
  intro b hb
  funext o
  cases hc:H1 b o with
  |some y=>rw[c.hold b o y hc]
  |none=>
   cases n:e b o with
   |none=>rfl
   |some y=>
    rcases c.hnew b o (by grind) hc with h'|h'
    all_goals omega
 have d:∀b,tot F1 s1.m b≠0->w'.heap[b]? = w.heap[b]? := λb hb=>hold b (h1.mem.lt b hb)
 have j:=fK (w':=w') h1.mem d
 have f:Mem w' e γ s1.m F1:=by refine⟨l,λx hx=>bm j c.hold rfl (λb hb=>d b (by grind [bV])) (h1.mem.roots x hx),h1.mem.keys,h1.mem.le1,λb hb=>by have:=h1.mem.lt b hb;grind,λb hb o=>?_⟩;rw[<- hnew b (h1.mem.lt b hb)];exact h1.mem.nofz b hb o
 have k:Fr w H1 (tot F1 s1.m) w' e (tot F1 s1.m):=
  ⟨c.size,c.os,c.tape,c.output,λb hb _=>hold b hb,c.hold,λb o h2 h3=>by grind,λb hb=>.inl hb,c.nz⟩
 exact kl h1 f k (λi=>dK j c.hold (h1.t i)) (λ_=>rfl)
theorem Ig(c:∀b o y,H1 b o=some y->RdV w b o y)(a:Globs H1){args:List Value}{x:Fl ps}(hl:args.length=ps.length)(d:∀(i:Nat) v,(lg ps x)[i]? = some v->∃y,args[i]? = some y/\AR w H1 γ [] v y)(f:ps.length<=nt) :
  RX ⟨nt,w,H1,λ_=>0,λ_=>none,none,[]⟩ (MP ps x).toS ⟨args.toArray++Array.replicate (nt-args.toArray.size) undef,[]⟩ w H1 γ F1:=by
 rw[show(MP ps x).toS=⟨eH 0 (lg ps x),[]⟩from bT.S_ext (p7 0 ps x) rfl];refine⟨⟨c,λx hx=>(by cases hx),by simp,λb=>alJ _,λb hb=>absurd rfl hb,λb hb=>absurd rfl hb⟩,⟨akK _,rfl,rfl,rfl,λ_ _ _=>rfl,λ_ _ _ h=>h,λb o h2 h3=>absurd h3 h2,λb hb=>absurd rfl hb,o8⟩,by simp;omega,⟨rfl,λj b e=>by simp at e,a⟩,λi=>?_⟩;show AR w H1 γ [] (bB (eH 0 (lg ps x)) i) (Array.getD _ i undef)
 rw[iw];cases hi:(lg ps x)[i]? with
 |none=>trivial
 |some v=>
  obtain⟨y,h1,h2⟩:=d i v hi;have e:(args.toArray++Array.replicate (nt-args.toArray.size) undef).getD i undef=y:=by rw[alU,alR (by simpa using di h1)];simp[h1]
  rw[e];exact h2
end
def Mo{α β γ:Type}(a:α->(β->Prop)->γ->Prop):Prop:=∀x K K' P,(∀y,K y->K' y)->a x K P->a x K' P
theorem Ex{P:Program}{f:Nat}{rs:List U}{n:Fl ps->(Fl rs->Prop)->(Value->Prop)->Prop}(mo:Mo n)(j:∀args w,(callFunc f args).run P w=.ok (.enter f args) w)
  (c:∀(x:Fl ps)K KP(args:List Value)(w:World)(H:FH)(γ:Gam),n x K KP->args.length=ps.length->(∀(i:Nat)v,(lg ps x)[i]? = some v->∃y,args[i]? = some y/\AR w H γ [] v y)->Globs H->(∀b o y,H b o=some y->RdV w b o y) ->
   Calls P f args.toArray w (λe w'=>∃d tt,Fr w H (λ_=>0) w' d tt/\(∀b o y,d b o=some y->RdV w' b o y)/\((∃r y,e=.returned r/\K y/\AR w' d γ [] (ic rs y).toV r)\/∃v,e=.panicked (chn v)/\KP v))):Cont P f (phT ps rs n):=by
 refine⟨j,λpk s ops k k' hk hc=>?_,λg pk s a w H γ F1 ops k t l hc=>?_⟩
 .unfold phT at hc|-;dsimp only at hc|-;split at hc
  .exact mo _ _ _ _ (λy hy=>hk _ _ (fa _ _) hy) hc
  exact hc.elim
 unfold phT at hc;dsimp only at hc;obtain⟨H1,q,h1⟩:=je (ops.map (evA s)) s H F1 t;generalize eJ s (ops.map (evA s))=s1 at hc h1;split at hc
 .rename_i x hx;obtain⟨z,u,c3⟩:=jL hx;have hl:ops.length=ps.length:=by grind [ip]
  refine(c x _ _ (ops.map a.eval) w H1 γ hc (by simpa using hl) (λi v hi=>?_) (jI h1) h1.mem.agree).mono ?_
  .rw[<- c3,akN,akN,akN]at hi;cases ho:ops[i]? with
   |none=>simp[ho]at hi
   |some y=>
    have hop:=akZ.1 l y (alL ho)
    have hy:=aJ h1 hop
    rw[aj hop]at hy;have hz:(evA s1 y).toV.isFz=true:=by grind
    rw[ho]at hi;obtain rfl:=Option.some.inj hi;exact⟨a.eval y,by simp[ho],iF fw (xl (λ_ _ _ h=>h) hz hy)⟩
  rintro e w' ⟨d,tt,m,p,h⟩
  have hb:=aaR h1 m p
  rcases h with⟨r,y,rfl,hk,har⟩|⟨v,rfl,hk⟩
  .exact .inl ⟨r,s1,_,d,γ,q,rfl,hk,xl (λ_ _ _ h=>h) (ad5 _ _) har,hb⟩
  exact .inr ⟨v,s1,rfl,hk,d,γ,q,hb⟩
 exact hc.elim
theorem Gu{P:Program}{f:Nat}{rs:List U}{d b:Fl ps->(Fl rs->Prop)->(Value->Prop)->Prop}(mo:Mo b)(hi:∀x K KP,b x K KP->d x K KP)(h:Cont P f (phT ps rs d)):Cont P f (phT ps rs b):=by
 have key:∀pk s ops k,phT ps rs b pk s ops k->phT ps rs d pk s ops k:=by
  intro pk s ops k hc;unfold phT at hc|-;dsimp only at hc|-;split at hc
  .exact hi _ _ _ hc
  exact hc
 refine⟨h.run,λpk s ops k k' hk hc=>?_,λg pk s a w H γ F1 ops k e c hc=>h.call g pk s a w H γ F1 ops k e c (key _ _ _ _ hc)⟩;unfold phT at hc|-;dsimp only at hc|-;split at hc
 .exact mo _ _ _ _ (λy hy=>hk _ _ (fa _ _) hy) hc
 exact hc.elim
theorem Q5{g:G}{P:Program}{fn:Func}{rs:List U}{K:Fl rs->Prop}{t:St}{a':Act}(n:vD P fn.results.toList rs K t)(j:R g t.toS a' w')(h0:g.ex=none) :
  ∃v c tt y,(results fn a'.tmps).run P w'=.ok v w'/\Fr g.w0 g.H0 g.own0 w' c tt/\(∀b o y,c b o=some y->RdV w' b o y)/\K y/\(∀γ,AR w' c γ [] (ic rs y).toV v)/\a'.defers=g.dfs:=by
 obtain⟨s2,d,c,m,x,e⟩:=FY (K:=λr=>∃y,r=(ic rs y).toV/\K y) (λr hr=>⟨r,rfl,hr⟩) n j;obtain⟨y,v,z,p,A,k,f,l,s,u,i,q⟩:=FV e h0 d;refine⟨y,p,_,u,k,f.fr,f.mem.agree,q,λγ=>?_,f.df.1⟩;rw[<- i];exact iF fw (xl (λ_ _ _ h=>h) s l)
theorem Vu{e:En}(N:e.ok)(hm:e.P.follows .mixedOrders=true){f:Nat}{fn:Func}(hf:e.P.funcs[f]? = some fn) (j:(fn.name == "runtime.NumGoroutine")=false) (hb:fn.body.isSome=true)  {rs:List U} {z:Fl ps->(Fl rs->Prop)->(Value->Prop)->Prop} (mo:Mo z)
  (m:Nat.ble ps.length fn.ntmps=true) (hc:jZ fn.ntmps (fn.body.getD .skip)=true) (A:∀x K KP,z x K KP->∃K' d,(∀y,K' y->K y)/\(∀v,d v->KP v)/\wj e fn an ps rs x K' d):Cont e.P f (phT ps rs z):=by
 have n:fn.body=some (fn.body.getD .skip):=by cases h:fn.body<;>grind
 refine Ex mo (Bq hf j hb) λx K KP args w H γ hp hl L I p=>?_
 have hX0:=Ig (F1:=λ_ _=>0) p I hl L (nt:=fn.ntmps) (akR m)
 obtain⟨K',d,M,q,h⟩:=A x K KP hp;refine calls_of_wp hf n (Code.wp_mono (λex a' w' hl=>?_) (om (e:=⟨e.P,e.E,e.cs,e.sh,λv _=>d v⟩) N hm _ an _ _ hc h _ w ⟨H,γ,_,hX0⟩));obtain⟨s',hq,B⟩:=hl;have fin:∀t:St,s'=t.toS->vD e.P fn.results.toList rs K' t->a'.defers=[]/\∃v,(results fn a'.tmps).run e.P w'=.ok v w'/\∃l tt,Fr w H (λ_=>0) w' l tt/\(∀b o y,l b o=some y->RdV w' b o y)/\((∃r y,Ending.returned v=.returned r/\K y/\AR w' l γ [] (ic rs y).toV r)\/∃u,Ending.returned v=.panicked (chn u)/\KP u):=by
  rintro t rfl g
  obtain⟨v,l,tt,y,k,G,J,O,C,D⟩:=Q5 g B rfl;exact⟨D,v,k,l,tt,G,J,.inl ⟨v,y,rfl,M y O,C γ⟩⟩
 cases ex with
 |normal=>obtain⟨t,k,g⟩:=hq;exact fin t k g
 |ret=>obtain⟨t,k,g⟩:=hq;exact fin t k g
 |exit i=>obtain⟨t,k,g⟩:=hq;exact g.elim
 |panic c=>obtain⟨v,t,rfl,rfl,hv⟩:=hq;obtain⟨H',γ',F',hX'⟩:=B;exact⟨hX'.df.1,H',_,hX'.fr,hX'.mem.agree,.inr ⟨v,rfl,q v hv⟩⟩
 |_=>exact hq.elim
theorem ue{e:En}(g:e.ok)(hm:e.P.follows .mixedOrders=true){f:Nat}{fn:Func}(hf:e.P.funcs[f]? = some fn) (a:(fn.name == "runtime.NumGoroutine")=false) (hb:fn.body.isSome=true)  {rs:List U} {c:Fl ps->(Fl rs->Prop)->(Value->Prop)->Prop} (mo:Mo c)
  (b:Nat.ble ps.length fn.ntmps=true) (hc:jZ fn.ntmps (fn.body.getD .skip)=true) (d:∀x KK KP,c x KK KP->wj e fn an ps rs x KK KP):Cont e.P f (phT ps rs c):=
 Vu g hm hf a hb mo b hc λx K KP h=>⟨K,KP,λ_ h=>h,λ_ h=>h,d x K KP h⟩
theorem Ew{P:Program}{f:Nat}{rs:List U}{F:Fl ps->Fl rs}(h:Cont P f (Bc ps rs (λ_=>True) F)):Cont P f (Bd ps rs F):=Gu (λ_ _ _ _ h h'=>h _ h') (λ_ _ _ h=>⟨trivial,h⟩) h
end Go.Am
end

section
namespace Go.Am
open Go Go.RowKit Go.Proofs
variable{H:FH}{f:Nat}{l:List UInt8}{ps rs:List U}{w:World}{γ:Gam}{pre:Fl ps->Prop}
section
variable {P:Program}
theorem Wd{w':World}{a:FH}(hb:Below w.heap.size w w')(e:∀b o y,H b o=some y->a b o=some y)(hn:∀b o,a b o≠none->H b o=none->w.heap.size<=b)(d:∀b o x l c,a b o=some (.c (.slice x l c))->H b o=none->Thawed w' b):Fr w H (λ_=>0) w' a (λ_=>0):=⟨hb.size,hb.os,hb.tape,hb.output,λb h _=>hb.block b h,e,λb o h2 h3=>.inr (hn b o h2 h3),λb hb=>absurd rfl hb,λb h0=>h0.of_block (hb.block b h0.lt),d⟩
theorem xm{post:Fl ps->Fl rs->Prop}(g:∀args w,(callFunc f args).run P w=.ok (.enter f args) w)
  (d:∀(x:Fl ps)(args:List Value)(w:World)(H:FH)(γ:Gam),pre x->args.length=(lg ps x).length->(∀(i:Nat)v,(lg ps x)[i]? = some v->∃y,args[i]? = some y/\AR w H γ [] v y)->Globs H ->
   (∀b o y,H b o=some y->RdV w b o y) ->
   Calls P f args.toArray w (λe w'=>∃r a y,e=.returned r/\post x y/\Below w.heap.size w w'/\(∀b o y,H b o=some y->a b o=some y)/\(∀b o,a b o≠none->H b o=none->w.heap.size<=b)/\(∀b o x l c,a b o=some (.c (.slice x l c))->H b o=none->Thawed w' b) /\
    (∀b o y,a b o=some y->RdV w' b o y)/\AR w' a γ [] (ic rs y).toV r)):Cont P f (phT ps rs λx K _=>pre x/\∀y,post x y->K y):=
 Ex (λ_ _ _ _ h h'=>⟨h'.1,λy hy=>h y (h'.2 y hy)⟩) g λx K KP args w H γ hp hl k m j=>(d x args w H γ hp.1 (hl.trans (ip ps x).symm) k m j).mono λe w'⟨r,a,y,h1,hy,h2,h3,h4,hz,h5,h6⟩=>⟨a,_,Wd h2 h3 h4 hz,h5,.inl ⟨r,y,h1,hp.2 y hy,h6⟩⟩
theorem lb{F:Fl ps->Fl rs}(g:∀args w,(callFunc f args).run P w=.ok (.enter f args) w)
  (d:∀(x:Fl ps)(args:List Value)(w:World)(H:FH)(γ:Gam),pre x->args.length=(lg ps x).length->(∀(i:Nat)v,(lg ps x)[i]? = some v->∃y,args[i]? = some y/\AR w H γ [] v y)->Globs H ->
   (∀b o y,H b o=some y->RdV w b o y) ->
   Calls P f args.toArray w (λe w'=>∃r a,e=.returned r/\Below w.heap.size w w'/\(∀b o y,H b o=some y->a b o=some y)/\(∀b o,a b o≠none->H b o=none->w.heap.size<=b)/\(∀b o x l c,a b o=some (.c (.slice x l c))->H b o=none->Thawed w' b) /\
    (∀b o y,a b o=some y->RdV w' b o y)/\AR w' a γ [] (ic rs (F x)).toV r)):Cont P f (Bc ps rs pre F):=
 Gu (λ_ _ _ _ h h'=>⟨h'.1,h _ h'.2⟩) (λx K KP h=>⟨h.1,λy e=>e ▸ h.2⟩) (xm (post:=λx y=>y=F x) g λx args w H γ hp hl k m j=>(d x args w H γ hp hl k m j).mono λe w'⟨r,a,h1,h⟩=>⟨r,a,_,h1,rfl,h⟩)
theorem iU{fn:Func}(hf:P.funcs[f]? = some fn) (a:(fn.name == "runtime.NumGoroutine")=false) (hb:fn.body.isSome=true) (args:Array Value) (w:World):(callFunc f args).run P w=.ok (.enter f args) w:=by
 have h1:fn.name ≠ "runtime.NumGoroutine" := by grind
 cases hc:fn.body with
 |none=>grind
 |some c=>simp_all[callFunc]
theorem lX{y:Value}(h:AR w H γ [] (.one (.c (.d (.str l)))) y):y=.string ⟨l.toArray⟩/\l.length<=BIG:=by obtain⟨_,m,h⟩:=h;cases m<;>exact h
theorem Vi{m:Mm}(h:l.length<=BIG):AR w H γ m (.one (.c (.d (.str l)))) (.string ⟨l.toArray⟩):=⟨λ_=>rfl,0,rfl,h⟩
theorem ra(l:List UInt8):(⟨l.toArray⟩:ByteArray).data.toList=l:=by simp
theorem uB(l:List UInt8):(⟨l.toArray⟩:ByteArray).size=l.length:=by rfl
theorem Qg{args:List Value}{x y:AV}(hl:args.length=2)(a:∀(i:Nat) v,[x,y][i]? = some v->∃y,args[i]? = some y/\AR w H γ [] v y):∃u v,args=[u,v]/\AR w H γ [] x u/\AR w H γ [] y v:=by
 match args,hl with
 |[u,v],_=>
  obtain⟨u',h1,h2⟩:=a 0 x rfl;obtain⟨b,h3,h4⟩:=a 1 y rfl
  grind
theorem Iv(B:Nat)(w:World)(n:Nat):Below B w (w.drewN n):=⟨rfl,rfl,rfl,akK _,λ_ _=>rfl⟩
theorem Dr(c:Globs H)(a:∀b o y,H b o=some y->RdV w b o y){k:Nat}(hk:adH=some k):∃n,w.cell? ⟨k,0,none⟩=some (.int .i64 n):=by
 obtain⟨n,m,h⟩:=c.2 k hk;obtain⟨y,h1,h2⟩:=h 0 (by simp);have h2:FD H m (.int .i64 n) y:=h2
 have:y=.int .i64 n:=by cases m<;>exact h2.1
 subst this;exact⟨n,a k 0 _ h1⟩
end
end Go.Am
end
