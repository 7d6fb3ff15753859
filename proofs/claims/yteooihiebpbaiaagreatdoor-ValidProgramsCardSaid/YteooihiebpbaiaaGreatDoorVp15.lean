/-
  Part 15: AmIt · AmE3i · AmE5 · AmE6 · AmE7 · AmE8 · AmE9 · AmE10 · AmE11 · AmOwnCon · AmE12 · AmE14 · AmLib.
-/
import Derived.Test.YteooihiebpbaiaaGreatDoorVp14
import Derived.Maps.RangeRun
set_option linter.unusedSimpArgs false
set_option linter.unusedVariables false
set_option linter.unusedSectionVars false
set_option linter.unnecessarySimpa false
section
namespace Go.Am
open MapKept
open Go.ChangeMaps (setBlock)
theorem P1{H:FH}:∀{l:List (D×D)}{es:List MapEntry},ItL H l es->l.length=es.length
 |[],[],_=>rfl
 |_::_,_::_,h=>by simp[P1 h.2]
 |[],_::_,h=>h.elim
 |_::_,[],h=>h.elim
theorem P0{H:FH}:∀{l:List (D×D)}{es:List MapEntry},ItL H l es->∀{i:Nat}{e:MapEntry},es[i]? = some e->∃x,l[i]? = some x/\x.1.isKey=true/\FDx H x.1 e.key/\FDx H x.2 e.val
 |x::l,e0::es,h,i,e,a=>by
  cases i with
  |zero=>
   obtain rfl:e0=e:=by grind
   exact⟨x,rfl,h.1⟩
  |succ i=>exact P0 h.2 (by grind)
 |[],[],_,i,e,a=>by grind
 |[],_::_,h,_,_,_=>h.elim
 |_::_,[],h,_,_,_=>h.elim
theorem C6{H:FH}:∀{l:List (D×D)}{es:List MapEntry},ItL H l es->∀i,ItL H (l.eraseIdx i) (es.eraseIdx i)
 |[],[],_,i=>by grind
 |x::l,e::es,h,i=>by
  cases i with
  |zero=>exact h.2
  |succ i=>exact⟨h.1,C6 h.2 i⟩
 |[],_::_,h,_=>h.elim
 |_::_,[],h,_=>h.elim
theorem zW:∀{L:List MapEntry}{i:Nat}{e:MapEntry},(L.map (·.born)).Nodup->L[i]? = some e->L.filter (λx=>!(x.born==e.born))=L.eraseIdx i
 |[],i,e,_,h=>by rfl
 |x::L,i,e,hn,h=>by
  simp only[List.map_cons,alG]at hn;cases i with
  |zero=>grind [List.filter_eq_self]
  |succ i=>
   have h:L[i]? = some e:=by grind
   have a:x.born≠e.born:=λb=>hn.1 (b ▸ am5 (alU h))
   simp only[List.filter_cons,List.eraseIdx_cons_succ];rw[if_pos (by grind),zW hn.2 h]
theorem VP{H:FH}{m:Nat}:∀{l:List (D×D)}{es:List MapEntry},es.length=l.length->(∀(i:Nat)(x:D×D)(y:MapEntry),l[i]? = some x->es[i]? = some y->FD H m x.1 y.key/\FD H m x.2 y.val)->(∀e∈l,e.1.isKey=true)->ItL H l es
 |[],[],_,_,_=>trivial
 |x::l,e::es,hl,h,hk=>by
  have h0:=h 0 x e rfl rfl
  exact⟨⟨hk x (by simp),⟨m,h0.1⟩,m,h0.2⟩,VP (by grind) (λi a b ha hb=>h (i+1) a b (by grind) (by grind)) (λa ha=>hk a (by simp[ha]))⟩
 |[],_::_,h,_,_=>by simp at h
 |_::_,[],h,_,_=>by simp at h
variable{cur:Option (D×D)}{n:Nm}{rest:List (D×D)}
section
variable {P:Program} {g:G} {s:S} {a:Act} {w:World} {H:FH} {γ:Gam} {F:Nm->Fp}
theorem VY(h:RX g s a w H γ F){z:Option (List (D×D))}{v:Value}(hv:FDx H (.mp z) v)(hk:∀e∈z.getD [],e.1.isKey=true)(hno:n.isOut=false)(hn:ah s.m n=none){t kt et:TypeId}(j:P.underlying t=some (.map kt et)) :
  ∃w' γ' F',(Instr.range t v).run P w=.ok (.pointer (some ⟨w.heap.size,0,none⟩)) w'/\RX g ⟨s.t,(n,⟨false,[.it none (z.getD [])]⟩)::s.m⟩ a w' H γ' F'/\γ' n=.gh (.pointer (some ⟨w.heap.size,0,none⟩)):=by
 have d:∀o:Obj,(∃q a c,o=.mapIter q a #[] c/\ItR H none (z.getD []) q a #[] c)->∃γ' F',RX g ⟨s.t,(n,⟨false,[.it none (z.getD [])]⟩)::s.m⟩ a (w.alloc o) H γ' F'/\γ' n=.gh (.pointer (some ⟨w.heap.size,0,none⟩)):=by
  rintro o ⟨q,a',c,rfl,hi⟩
  have hold:∀k,k<w.heap.size->(w.alloc (.mapIter q a' #[] c)).heap[k]? = w.heap[k]? := λk hk=>cW hk
  have h1:=pB h (w':=w.alloc (.mapIter q a' #[] c)) (by simp) rfl rfl rfl (λb hb=>.inl (hold b hb))
  have i:tot F s.m w.heap.size=0:=by
   rcases alO (tot F s.m w.heap.size)with h'|h'
   .exact h'
   have:=h.mem.lt w.heap.size kQ1;omega
  refine dR h1 hno hn (v:=.pointer (some ⟨w.heap.size,0,none⟩)) (t:=.it none (z.getD [])) (f:=λb=>if b=w.heap.size then 1 else 0) ⟨w.heap.size,q,a',#[],c,rfl,bw,hi,λ_=>rfl⟩ (λb=>?_) (λb hb=>?_) (λb hb=>?_)
  .by_cases e:b=w.heap.size
   .grind
   rw[if_neg e];have:=h.mem.le1 b;omega
  .have e:b=w.heap.size:=by grind
   subst e;refine⟨by simp,λo=>?_⟩;cases hc:H w.heap.size o with
   |none=>rfl
   |some y=>have:=(h.mem.agree _ _ _ hc).lt;omega
  right
  have e:b=w.heap.size:=by grind
  have:=h.fr.size
  omega
 cases z with
 |none=>
  have hv:v=.map none:=by obtain⟨m,hv⟩:=hv;cases m<;>exact hv
  subst hv;obtain⟨γ',F',h1,h2⟩:=d (.mapIter none 0 #[] 0) ⟨_,_,_,rfl,rfl,rfl⟩;exact⟨_,γ',F',by simp_all[Instr.range,run_underlying],h1,h2⟩
 |some l=>
  obtain⟨m,hv⟩:=hv;cases m with
  |zero=>exact hv.elim
  |succ m=>obtain⟨b,es,ck,rfl,k2,k3,k4⟩:=hv;obtain⟨k5,k6⟩:=h.mem.agree b 0 _ k2;obtain⟨γ',F',h1,h2⟩:=d (.mapIter (some b) ck #[] ck) ⟨_,_,_,rfl,es,ck,k2,rfl,rfl,by rw[List.filter_eq_self.2 (λe _=>by simp)];exact VP k3 k4 hk,trivial⟩;exact⟨_,γ',F',by simp_all[Instr.range,run_underlying,getObj,Sem.run],h1,h2⟩
theorem ae9(h:Mem w H γ s.m F)(hr:ah s.m n=some ⟨false,[.it cur rest]⟩) :
  ∃r q x y c,γ n=.gh (.pointer (some ⟨r,0,none⟩))/\w.heap[r]? = some (.mapIter q x y c)/\ItR H cur rest q x y c/\∀k,F n k=if k=r then 1 else 0:=by
 have a:=h.roots _ (aj hr)
 unfold bv at a;dsimp only at a;rw[if_neg (by simp)]at a;obtain⟨v,t,h1,h2,h3⟩:=a;obtain rfl:t=.it cur rest:=by grind
 obtain⟨r,q,x,y,c,rfl,k2,k3,k4⟩:=h3
 grind
theorem Rz(h:RX g s a w H γ F)(hr:ah s.m n=some ⟨false,[.it cur rest]⟩)(ty:TypeId) :
  ∃v,γ n=.gh v/\((rest=[]/\(Instr.next v false ty).run P w=.ok (.tuple #[.bool false]) w) \/
   ∃i x ky vl w' F',i<rest.length/\rest[i]? = some x/\(Instr.next v false ty).run P w=.ok (.tuple #[.bool true,ky,vl]) w'/\FDx H x.1 ky/\FDx H x.2 vl /\
    RX g ⟨s.t,cz s.m n ⟨false,[.it (some x) (rest.eraseIdx i)]⟩⟩ a w' H γ F'):=by
 obtain⟨r,q,x,y,c,h1,h2,h3,h4⟩:=ae9 h.mem hr;refine⟨_,h1,?_⟩;cases q with
 |none=>obtain⟨rfl,rfl⟩:=h3;exact .inl ⟨rfl,by simp[Instr.next,getObj,Sem.run_bind,Sem.run,h2,Result.andThen]⟩
 |some b=>
  obtain⟨es,ck,k1,k2,k3,k4,k5⟩:=h3;obtain⟨k6,k7⟩:=h.mem.agree b 0 _ k1;have A:=(stamped_iff es ck).1 k7
  have L:(leftOf es y).toList=es.toList.filter λe=>!y.contains e.born:=by simp[leftOf]
  rcases run_next_at (P:=P) w ty r b x c y es ck h2 k6 (λe u=>by grind) kQ1 with⟨h5,h6⟩|⟨e,u,w1,hw1,h6⟩
  .grind [P1]
  refine .inr ?_;rw[L]at u;obtain⟨i,hi⟩:=List.getElem?_of_mem u;obtain⟨z,I,R,z3,z4⟩:=P0 k4 hi;have E:i<rest.length:=(alR.1 I).1
  have C:w1.heap=w.heap/\w1.os=w.os/\w1.tape=w.tape/\w1.output=w.output:=by rcases hw1 with rfl|rfl<;>exact⟨rfl,rfl,rfl,rfl⟩
  obtain⟨M,K,N,J⟩:=C;have j:=heap_set (o':=.mapIter (some b) x (y.push e.born) ck) h2
  have D:tot F s.m r≠0:=by have:=bD (F:=F) (aj hr) r;grind
  have Q:b≠r:=λe=>by grind
  have B:((es.toList.filter λe=>!y.contains e.born).map (·.born)).Nodup:=(A.2.1.sublist ((List.filter_sublist (p:=λe:MapEntry=>!y.contains e.born) (l:=es.toList)).map _))
  have k:e∈es.toList:=(anD.1 u).1
  have G:es.toList.filter (λx=>!(y.push e.born).contains x.born)=(es.toList.filter λe=>!y.contains e.born).eraseIdx i:=by
   rw[<- zW B hi,List.filter_filter]
   grind
  refine⟨i,z,e.key,e.val,setBlock w1 r (.mapIter (some b) x (y.push e.born) ck),upd F n (F n),E,I,h6,z3,z4,?_⟩;have d:(setBlock w1 r (.mapIter (some b) x (y.push e.born) ck)).heap=w.heap.setIfInBounds r (.mapIter (some b) x (y.push e.born) ck):=by show w1.heap.setIfInBounds _ _=_;rw[M]
  refine VX h rfl rfl hr h1 (f':=F n) ⟨r,some b,x,y.push e.born,ck,rfl,by grind,⟨es,ck,k1,k2,rfl,by grind [C6],y,e,rfl,k,R,z3,z4⟩,h4⟩ (λc=>by have:=h.mem.le1 c;omega) (λc hc=>?_) (by grind) K N J (λc hc=>?_) (λ_ _ _ h=>h) (λb' o O hy=>(h.mem.agree b' o O hy).frame ?_) (λb o h1 h2=>absurd h2 h1) ⟨λb' h'=>h'.of_block ?_,λc o x y z h1 h2=>by grind⟩
  .have:tot F s.m c≠0:=by grind
   exact⟨h.mem.lt c this,h.mem.nofz c this,h.fr.tt c this⟩
  .grind
  .rw[d];exact j.2 b' λe=>by subst e;rw[h.mem.nofz _ D o]at hy;cases hy
  rw[d];refine j.2 b' λe=>?_
  subst e;obtain⟨cs,ty,e⟩:=h'
  grind
theorem Mb(h:RX g s a w H γ F){x:D×D}(hr:ah s.m n=some ⟨false,[.it (some x) rest]⟩) :
  ∃v ky vl,γ n=.gh v/\(Instr.entry v).run P w=.ok (.tuple #[ky,vl]) w/\x.1.isKey=true/\FDx H x.1 ky/\FDx H x.2 vl:=by
 obtain⟨r,q,a',y,c,h1,h2,h3,h4⟩:=ae9 h.mem hr;cases q with
 |none=>obtain⟨h3,_⟩:=h3;cases h3
 |some b=>
  obtain⟨es,ck,k1,k2,k3,k4,i,e,rfl,k5,k8,j,d⟩:=h3;obtain⟨k6,k7⟩:=h.mem.agree b 0 _ k1;have f:=(stamped_iff es ck).1 k7
  subst k3;exact⟨_,e.key,e.val,h1,run_entry_at w r b a' i es c e h2 k6 k5 f.2.1,k8,j,d⟩
theorem U5{m:Mm}{v:Value}(hn:ah m n=some ⟨false,[.it cur rest]⟩)(a:γ n=.gh v):AR w H γ m (.one (.c (.rf ⟨n,0,[]⟩))) v:=by
 refine⟨λ_=>rfl,?_,?_⟩
 .rw[bV];exact⟨_,hn,trivial⟩
 unfold plV;dsimp only;rw[a];rfl
end
end Go.Am
end

section
namespace Go.Am
variable{caps:List Operand}{d:Tmp}{et kt t tt:TypeId}{ku vu:U}{n:Nm}{row:List C}{x:At}{y:Value}
section
variable {P:Program} {g:G} {a:Act} {w:World} {H:FH} {γ:Gam} {F:Nm->Fp} {s:St} {k k':St->Prop}
theorem OI{x:Operand}(hk:∀s',Ext s s'->k s'->k' s')(h:wM P s t x d k):wM P s t x d k':=by
 unfold wM at h|-;dsimp only at h|-
 (repeat' split at h)<;>first|exact h.elim|exact hk _ ((((iH _ _).trans (bR _ _)).trans (dj _ _ _)).trans (aG _ _ _)) h
theorem Ub{d:Option Tmp}(hk:∀s',Ext s s'->k s'->k' s')(h:DO s x d k):DO s x d k':=by
 unfold DO at h|-;split at h
 .exact⟨λe=>hk _ (aG _ _ _) (h.1 e),λi hi=>hk _ ((tT _ _ _).trans (aG _ _ _)) (h.2 i hi)⟩
 omega
theorem MW{d:Option Tmp}(hk:∀s',Ext s s'->k s'->k' s')(h:qZ s x d k):qZ s x d k':=by grind [qZ,aG]
theorem KJ(hk:∀s',Ext s s'->k s'->k' s')(h:rk s x d k):rk s x d k':=by
 unfold rk at h|-
 grind [aG]
theorem RN:∀{t:Tt},t.hit (bm n)=false->t.frB n row=t:=by
 intro t h;cases t with
 |pl p=>
  have h:decide (p.root=n)=false:=h
  grind [Tt.frB,Tt.kill,bm]
 |rf p=>
  have h:decide (p.root=n)=false:=h
  grind [Tt.frB,Tt.kill,bm]
 |_=>rfl
theorem Ro(s:St)(n:Nm):Ext s (Ju s n):=by
 unfold Ju;split
 .split
  .exact⟨alN _,tR (·.hit (bm n)) (·.map (Tt.frB n _)) (λ_ h=>vJ RN h) (akR _),(mQ n).trans (dQ (akR _))⟩
  exact Ext.refl s
 exact Ext.refl s
theorem qJ:∀(vs:List At)(s:St),Ext s (se s vs)
 |[],s=>Ext.refl s
 |v::vs,s0=>by
  unfold se;split
  .grind
  .rename_i h;cases h;exact(Ro _ _).trans (qJ _ _)
  rename_i h;cases h;exact qJ _ _
theorem Ci{f:Nat}{d:Option Tmp}(hk:∀s',Ext s s'->k s'->k' s')(h:kw s f caps d k):kw s f caps d k':=by
 unfold kw at h|-;dsimp only at h|-;split at h
 .exact hk _ ((qJ _ _).trans (aG _ _ _)) h
 omega
theorem abS(h1:leaf ku=true)(h2:leaf vu=true)(z:Option (List (El ku×El vu))):(C.mp ku vu z).toD=.mp (z.map λl=>l.map (rT ku vu)):=by
 show D.mp _=D.mp _
 congr 1
 cases z with
 |none=>rfl
 |some l=>
  show some _=some _
  congr 1
  refine ak4 λx _=>?_
  show((ap ku x.1).headD .any,(ap vu x.2).headD .any)=_
  rw[pT h1,pT h2];rfl
theorem Uw{x:Operand}(j:RX g s.toS a w H γ F)(hd:okD g.nt (some d)=true)(hx:aI x=true)(h:wM P s t x d k) :
  ∃t' y w' H' γ' F',(Instr.range t (a.eval x)).run P w=.ok y w'/\k t'/\RX g t'.toS (a.put (some d) y) w' H' γ' F':=by
 unfold wM at h;dsimp only at h;obtain⟨H1,F1,h1⟩:=gP j (evA s x);generalize fW s (evA s x)=s1 at h h1;split at h
 .rename_i kt et u;split at h
  .rename_i ku vu z hv;split at h
   .rename_i hc;simp only[akP]at hc;obtain⟨_,td,_,o,b,_⟩:=aT u (by simp);obtain rfl:=sq b;have h2:=cY h1 (.gh d)
    rw[<- bx (fZ h1)]at h2;have h3:=aL h2 hx
    rw[ak hx,hv]at h3;have h4:FDx H1 (.mp (z.map λl=>l.map (rT ku vu))) (a.eval x):=by rw[<- abS (AU hc.1) hc.2];exact h3.2
    have hn:=b9 h1 (.gh d)
    rw[<- bx (fZ h1)]at hn;obtain⟨w',γ',F',q,f,r⟩:=VY (P:=P) h2 h4 (λe i=>by
     cases z with
     |none=>cases i
     |some l=>obtain⟨y,_,rfl⟩:=ak8.1 (show e∈l.map (rT ku vu)from i);exact oH (gf hc.1 y.1)) (n:=.gh d) rfl hn o
    refine⟨_,_,w',H1,γ',F',q,h,?_⟩;have p:(z.map λl=>l.map (rT ku vu)).getD []=(z.getD []).map (rT ku vu):=by cases z<;>rfl
    rw[p]at f;have e:((s1.fresh (.gh d)).root (.gh d) ⟨false,[.it ku vu none (z.getD [])],none⟩).toS=⟨(s1.fresh (.gh d)).toS.t,(.gh d,⟨false,[.it none ((z.getD []).map (rT ku vu))]⟩)::(s1.fresh (.gh d)).toS.m⟩:=rfl
    rw[<- e]at f;refine bJ (aQ _ (some d) (.one (.c (.rf ⟨.gh d,0,[]⟩)))) (f.put hd ?_);exact U5 (cur:=none) (rest:=(z.getD []).map (rT ku vu)) (by grind [ah]) r
   grind
  grind
 grind
theorem QF{cur:Option (El ku×El vu)}{rest:List (El ku×El vu)}(h:acH s.m x=some (n,⟨ku,vu,cur,rest⟩)) :
  x=.one (.c (.rf ⟨n,0,[]⟩))/\ah s.toS.m n=some ⟨false,[.it (cur.map (rT ku vu)) (rest.map (rT ku vu))]⟩:=by
 unfold acH at h;split at h
 .split at h
  .rename_i hr;cases h;exact⟨rfl,bi hr⟩
  grind
 grind
theorem afA{v:Value}{m:Mm}(a:γ n=.gh v)(h:AR w H γ m (.one (.c (.rf ⟨n,0,[]⟩))) y):y=v:=by obtain⟨_,_,hv⟩:=h;unfold plV at hv;dsimp only at hv;rw[a]at hv;exact(Option.some.inj hv).symm
theorem Yo{d:Option Tmp}(f:RX g s.toS a w H γ F)(hd:okD g.nt d=true)(hy:AR w H γ s.toS.m x.toV y)(ty:TypeId)(h:DO s x d k) :
  ∃t' z w' F',(Instr.next y false ty).run P w=.ok z w'/\k t'/\RX g t'.toS (a.put d z) w' H γ F':=by
 unfold DO at h;split at h
 .rename_i n ku vu cur rest hi;obtain⟨rfl,hr⟩:=QF hi;obtain⟨v,l,b⟩:=Rz (P:=P) f hr ty;obtain rfl:=afA l hy;rcases b with⟨h1,h2⟩|⟨i,e,ky,vl,w',F',h1,h2,h3,h4,h5,h6⟩
  .refine⟨_,_,w,F,h2,h.1 (List.map_eq_nil_iff.1 h1),bJ (aQ _ _ _) (f.put hd ?_)⟩;exact⟨_,rfl,⟨λ_=>rfl,0,rfl⟩,trivial⟩
  have c:i<rest.length:=by grind
  refine⟨_,_,w',F',h3,h.2 i c,?_⟩;have j:e=rT ku vu (rest.getD i (dflt ku,dflt vu)):=by grind
  have o:(⟨s.nx+1,s.t,dv s.m n s.nx ⟨false,[.it ku vu (some (rest.getD i (dflt ku,dflt vu))) (rest.eraseIdx i)],none⟩⟩:St).toS=⟨s.toS.t,cz s.toS.m n ⟨false,[.it (some e) ((rest.map (rT ku vu)).eraseIdx i)]⟩⟩:=by
   rw[j,<- Go.ChangeMaps.map_eraseIdx];show(⟨_,toM (dv s.m n s.nx _)⟩:S)=_
   rw[fH];rfl
  rw[<- o]at h6;refine bJ (aQ _ _ _) (h6.put hd ?_);rw[j]at h4 h5;exact⟨_,rfl,⟨λ_=>rfl,0,rfl⟩,⟨λ_=>rfl,h4⟩,⟨λ_=>rfl,h5⟩,trivial⟩
 grind
theorem S1{d:Option Tmp}(b:RX g s.toS a w H γ F)(hd:okD g.nt d=true)(hy:AR w H γ s.toS.m x.toV y)(h:qZ s x d k) :
  ∃t' z,(Instr.entry y).run P w=.ok z w/\k t'/\RX g t'.toS (a.put d z) w H γ F:=by
 unfold qZ at h;split at h
 .rename_i n ku vu e rest hi;obtain⟨rfl,hr⟩:=QF hi;obtain⟨v,ky,vl,c,h1,_,h2,h3⟩:=Mb (P:=P) b hr;obtain rfl:=afA c hy;exact⟨_,_,h1,h,bJ (aQ _ _ _) (b.put hd ⟨_,rfl,⟨λ_=>rfl,h2⟩,⟨λ_=>rfl,h3⟩,trivial⟩)⟩
 grind
theorem Bt{b:Nat}{es:Array MapEntry}{ck:Nat}(a:P.underlying t=some (.map kt et))(hb:w.heap[b]? = some (.map es ck)) :
  (Builtin.len_ #[t] tt #[.map (some b)]).run P w=.ok (.int .i64 (es.size:Int)) w:=by
 simp_all[Builtin.len_,run_underlying,getObj,Sem.run,goInt]
theorem Lk(a:P.underlying t=some (.map kt et)) :
  (Builtin.len_ #[t] tt #[.map none]).run P w=.ok (.int .i64 0) w:=by
 simp_all[Builtin.len_,run_underlying,goInt]
theorem P3{w:World}{H:FH}:∀{l:List (D×Sh×D)}{es:List MapEntry}{f:Fp},MpO w H l es f->l.length=es.length
 |[],[],_,_=>rfl
 |_::_,_::_,_,h=>by obtain⟨_,f1,a,k,_,_,h⟩:=h;simp[P3 h]
 |[],_::_,_,h=>h.elim
 |_::_,[],_,h=>h.elim
theorem N5(i:RX g s.toS a w H γ F)(hd:okD g.nt (some d)=true)(hy:AR w H γ s.toS.m x.toV y)(u:(ty P t).k=.mp kt et)(h:rk s x d k) :
  ∃t' z,(Builtin.len_ #[t] tt #[y]).run P w=.ok z w/\k t'/\RX g t'.toS (a.put (some d) z) w H γ F:=by
 obtain⟨_,td,_,j,o,_⟩:=aT u (by simp);obtain rfl:=sq o;have big:∀n:Nat,n<=4611686018427387904->(Lit.int .i64 (n:Int)).wf=true:=λn h=>BO (by grind [BIG])
 unfold rk at h;split at h
 .rename_i ku vu z;have c:FDx H (.mp (z.map λl=>l.map λx=>((ap ku x.1).headD .any,(ap vu x.2).headD .any))) y:=hy.2
  cases z with
  |none=>
   have q:y=.map none:=by obtain⟨m,c⟩:=c;cases m<;>exact c
   subst q;exact⟨_,_,Lk j,h.2,bJ (aQ _ _ _) (i.put hd ⟨λ_=>rfl,0,rfl,big 0 kQ1⟩)⟩
  |some l=>
   obtain⟨m,c⟩:=c;cases m with
   |zero=>exact c.elim
   |succ m=>
    obtain⟨b,es,ck,rfl,k2,k3,k4⟩:=c;obtain⟨k5,k6⟩:=i.mem.agree b 0 _ k2;have e:es.size=l.length:=by grind
    exact⟨_,_,Bt j k5,h.2,bJ (aQ _ _ _) (i.put hd ⟨λ_=>rfl,0,by grind,big _ h.1⟩)⟩
 .rename_i p;split at h
  .rename_i ku vu l hm;obtain⟨n,rfl,hr⟩:=ri hm;obtain⟨b,es,ck,f,rfl,_,r,A,v,_⟩:=tj i hr hy;have e:es.size=l.length:=by have:=P3 v;grind
   exact⟨_,_,Bt j r,h.2,bJ (aQ _ _ _) (i.put hd ⟨λ_=>rfl,0,by rw[e],big _ h.1⟩)⟩
  grind
 grind
theorem Zm:∀{cells:List Tt}{row:List C},tdC cells=some row->(cells.map Tt.toT).all T.isD=true/\(cells.map Tt.toT).map T.toD=row.map C.toD
 |[],row,h=>by cases h;grind
 |t::ts,row,h=>by
  cases t with
  |d c=>
   have h':∃r,tdC ts=some r/\row=c::r:=by
    cases c with
    |any=>cases h
    |_=>obtain⟨r,h1,h2⟩:=ak5.1 h;grind
   obtain⟨r,h1,rfl⟩:=h';obtain⟨k1,k2⟩:=Zm h1;exact⟨by simp only[List.map_cons,ak2,k1];rfl,by simp only[List.map_cons,k2];rfl⟩
  |_=>simp[tdC]at h
theorem Mk(n:Nm)(row:List C)(t:Tt):(t.frB n row).toT=t.toT.frB n (row.map C.toD):=by
 cases t with
 |pl p=>
  obtain⟨r,o,path⟩:=p;cases path with
  |nil=>
   show(if r=n then Tt.el row o else Tt.pl ⟨r,o,[]⟩).toT=if r=n then T.el (row.map C.toD) o else T.pl ⟨r,o,[]⟩
   by_cases e:r=n
   .rw[if_pos e,if_pos e];rfl
   rw[if_neg e,if_neg e];rfl
  |cons st u=>exact ea (bm n) (.pl ⟨r,o,st::u⟩)
 |rf p=>exact ea (bm n) (.rf p)
 |_=>rfl
theorem RF(h:RX g s.toS a w H γ F)(n:Nm):∃H',RX g (Ju s n).toS a w H' γ F:=by
 unfold Ju;split
 .rename_i cells hr;split
  .rename_i row b;obtain⟨h1,h2⟩:=Zm b;obtain⟨H',h'⟩:=ZY h n;refine⟨H',?_⟩;have c:ah s.toS.m n=some ⟨true,cells.map Tt.toT⟩:=bi hr
   have e:s.toS.frzB n=(⟨s.nx+1,s.t.map λx=>(x.1,stp (x.2.2.hit (bm n)) s.nx x.2.1,x.2.2.map (Tt.frB n row)),cc (bm n) s.nx (e8 s.m n)⟩:St).toS:=by
    unfold S.frzB;rw[c];dsimp only;rw[if_pos h1,h2];refine bF.S_ext ?_ ?_
    .simp only[St.toS,s4,al3]
     grind [ak4,sA,Mk]
    have h3:=eI (bm n) s.nx (e8 s.m n)
    rw[m8 n s.m (fZ h)]at h3;exact h3.symm
   grind
  grind
 grind
theorem qN:∀(vs:List At)(s:St)(H:FH),RX g s.toS a w H γ F->∃H',RX g (se s vs).toS a w H' γ F
 |[],s,H,h=>⟨H,h⟩
 |v::vs,s0,H,h=>by
  unfold se;split
  .grind
  .rename_i e;cases e;obtain⟨H1,h1⟩:=RF h _;exact qN _ _ H1 h1
  rename_i e;cases e;exact qN _ _ H h
theorem zP{c:Lt.Cap}:∀{l:List Sn},I6 row l=some c->row=flat (.st (agX c).1) (agX c).2/\c.enc=row.map C.toD
 |[],h=>by cases h
 |n::r,h=>by
  unfold I6 at h;split at h
  .rename_i x hx;split at h
   .rename_i a hc;cases h;obtain⟨h1,h2⟩:=abK hc;have h3:=wV hx
    refine⟨by grind,?_⟩;rw[h2,h3,bZ];rfl
   exact zP h
  exact zP h
theorem Df(p:RX g s.toS a w H γ F):∀{ops:List Operand}{cs:List Lt.Cap},ops.all aI=true->ER s ops=some cs->cs.length=ops.length/\∃m,∀(i:Nat)(row:List D)(y:Value),(cs.map Lt.Cap.enc)[i]? = some row->(ops.map a.eval)[i]? = some y ->
   ∃b o,y=.pointer (some ⟨b,o,none⟩)/\∀j,j<row.length->∃z:Value,H b (o+j)=some z/\FD H m (row.getD j default) z
 |[],cs,_,h=>by cases h;simp_all
 |x::ops,cs,f,h=>by
  simp only[ak2,akP]at f;unfold ER at h;split at h
  .rename_i row hv;split at h
   .rename_i c q hc n;cases h;obtain⟨h1,k,h2⟩:=Df p f.2 n;have h3:=aL p f.1
    rw[ak f.1,hv]at h3;obtain⟨_,b,o,l,h4,h5⟩:=h3;obtain⟨_,h6⟩:=zP hc;refine⟨by simp[h1],k+l,λi e y hi hy=>?_⟩;have mono:=λ{m:Nat}(hm:m<=k+l){d:D}{v:Value}(h:FD H m d v)=>gq (λ_ _ _ h=>h) m (k+l) d v hm h
    cases i with
    |zero=>
     have hi:c.enc=e:=by grind
     have hy:a.eval x=y:=by grind
     subst hi hy;rw[h6];refine⟨b,o,h4,λj hj=>?_⟩;obtain⟨z,r,hf⟩:=h5 j hj
     grind
    |succ i=>grind
   grind
  grind
theorem Fv{f:Nat}{d:Option Tmp}(c:RX g s.toS a w H γ F)(hd:okD g.nt d=true)(hc:caps.all aI=true)(h:kw s f caps d k) :
  ∃t' H',k t'/\RX g t'.toS (a.put d (.func (.func f) #[] (caps.map a.eval).toArray)) w H' γ F:=by
 unfold kw at h;dsimp only at h;obtain⟨H1,h1⟩:=qN (caps.map (evA s)) s H c;generalize se s (caps.map (evA s))=s1 at h h1;split at h
 .rename_i cs b;obtain⟨k1,m,k2⟩:=Df h1 hc b;refine⟨_,H1,h,bJ (aQ _ _ _) (h1.put hd ⟨λ_=>rfl,m+1,caps.map a.eval,rfl,?_,k2⟩)⟩;simp[k1]
 grind
end
abbrev chn(v:Value):List PanicEntry:=[{ v,recovered:=false }]
def pP(g:G)(a:Act)(pk:PKt)(k:St->At->Prop)(e:Ending)(w':World):Prop:=
 (∃r s' av H' γ' F',e=.returned r/\k s' av/\AR w' H' γ' (toM s'.m) av.toV r/\RX g s'.toS a w' H' γ' F') \/
 ∃v s',e=.panicked (chn v)/\pk v s'/\R g s'.toS a w'
structure Cont (P:Program) (f:Nat) (C:CKt):Prop where
 run:∀args w,(callFunc f args).run P w=.ok (.enter f args) w
 ext:∀(pk:PKt)(s:St)(ops:List Operand)(k k':St->At->Prop),(∀s' v,Ext s s'->k s' v->k' s' v)->C pk s ops k->C pk s ops k'
 call:∀(g:G)(pk:PKt)(s:St)(a:Act)(w:World)(H:FH)(γ:Gam)(F:Nm->Fp)(ops:List Operand)(k:St->At->Prop),RX g s.toS a w H γ F->ops.all aI=true->C pk s ops k ->
  Calls P f (ops.map a.eval).toArray w (pP g a pk k)
structure ContC (P:Program) (key:Nat) (C:CKt):Prop where
 big:1000000<=key
 run:∀args w,(callFunc (key - 1000000) args).run P w=.ok (.enter (key - 1000000) args) w
 ext:∀(pk:PKt)(s:St)(ops:List Operand)(k k':St->At->Prop),(∀s' v,Ext s s'->k s' v->k' s' v)->C pk s ops k->C pk s ops k'
 call:∀(g:G)(pk:PKt)(s:St)(a:Act)(w:World)(H:FH)(γ:Gam)(F:Nm->Fp)(t:Tmp)(ops:List Operand)(k:St->At->Prop)(ps:Array Value),RX g s.toS a w H γ F->ops.all aI=true->t<TB->a.tmps.getD t undef=.func (.func (key - 1000000)) #[] ps->C pk s (.tmp t::ops) k ->
  Calls P (key - 1000000) ((ops.map a.eval).toArray++ps) w (pP g a pk k)
def En.ok(e:En):Prop:=∀x∈e.cs,(Nat.blt x.1 1000000=true->Cont e.P x.1 x.2)/\(1000000<=x.1->ContC e.P x.1 x.2)
theorem En.ok_get'{e:En}(h:e.ok){f:Nat}{C:CKt}(hg:e.cs.get f=some C):(Nat.blt f 1000000=true->Cont e.P f C)/\(1000000<=f->ContC e.P f C):=by
 have:∀cs:CTt,(∀x∈cs,(Nat.blt x.1 1000000=true->Cont e.P x.1 x.2)/\(1000000<=x.1->ContC e.P x.1 x.2))->cs.get f=some C->(Nat.blt f 1000000=true->Cont e.P f C)/\(1000000<=f->ContC e.P f C):=by
  intro cs;induction cs with
  |nil=>intro _ h;cases h
  |cons x cs ih=>
   obtain⟨f',C'⟩:=x;intro h hg2;simp only[CTt.get]at hg2;split at hg2
   all_goals simp_all
 exact this e.cs h hg
theorem En.ok_get{e:En}(h:e.ok){f:Nat}{C:CKt}(hg:e.cs.get f=some C)(hf:Nat.blt f 1000000=true):Cont e.P f C:=(En.ok_get' h hg).1 hf
variable{v:At}
theorem SX{key:Nat}(h:Dj v=some key):1000000<=key:=by
 unfold Dj at h
 grind
variable{K':C->Prop}{i:Nat}{m:List (Nm×Nat×Rt)}{o:Oper}{op:BinOp}
section
variable {k k':At->Prop}
theorem Ot{c y:At}(hk:∀v,k v->k' v)(h:xD c x y k):xD c x y k':=by
 unfold xD at h|-
 grind
theorem Uf{κ:IntKind}{a b:Int}{K:C->Prop}(hk:∀v,K v->K' v)(h:Ob op κ a b K):Ob op κ a b K':=by unfold Ob at h|-;cases op<;>first|exact hk _ h|grind
theorem Sb{x y:C}{K:C->Prop}(hk:∀v,K v->K' v)(h:BT op x y K):BT op x y K':=by
 unfold BT at h|-;split at h
 .split at h<;>first|exact h.elim|exact hk _ h|grind
 grind [Uf]
theorem Sc{P:Program}{y:At}(hk:∀v,k v->k' v)(h:IK P op t x y k):IK P op t x y k':=by
 unfold IK at h|-
 (repeat' split at h)<;>first|exact h.elim|exact hk _ h|exact⟨h.1,hk _ h.2⟩|grind [Sb]|(simp_all;done)
theorem Zr{op:UnOp}(hk:∀v,k v->k' v)(h:unT op x k):unT op x k':=by
 unfold unT at h|-
 grind
theorem BX(hk:∀v,k v->k' v)(h:jt x i k):jt x i k':=by
 unfold jt at h|-
 grind
theorem Lz{i:At}(hk:∀v,k v->k' v)(h:qE x i k):qE x i k':=by
 unfold qE at h|-
 grind
theorem jq{y:Option At}{d:Nat}{k1 k2:Nat->Prop}(hk:∀n,k1 n->k2 n)(hb:fX y d k1):fX y d k2:=by
 unfold fX at hb|-
 grind
theorem Lv{P:Program}{lo hi:Option At}(hk:∀v,k v->k' v)(h:qC P t x lo hi k):qC P t x lo hi k':=by
 unfold qC at h|-;split at h
 .split at h
  .exact jq (λa ha=>jq (λb hb=>⟨hb.1,hk _ hb.2⟩) ha) h
  omega
 .split at h
  .skip
   split at h
   .exact jq (λa ha=>jq (λb hb=>⟨hb.1,hk _ hb.2⟩) ha) h
   omega
  omega
 all_goals grind (splits:=20) [jq]
theorem yb{P:Program}(hk:∀v,k v->k' v)(h:fu P m t x i k):fu P m t x i k':=by
 unfold fu at h|-;split at h
 .skip
  split at h
  all_goals grind
 omega
theorem pd{P:Program}{i:At}(hk:∀v,k v->k' v)(h:eG P m t x i k):eG P m t x i k':=by
 unfold eG at h|-;split at h
 .split at h
  .skip
   split at h
   all_goals grind
  all_goals grind
 omega
theorem NY{P:Program}(hk:∀v,k v->k' v)(h:lc P m t x k):lc P m t x k':=by
 unfold lc at h|-;split at h
 .skip
  split at h
  all_goals grind
 omega
theorem Jj{P:Program}(hk:∀v,k v->k' v)(h:pV P t x i k):pV P t x i k':=by
 unfold pV at h|-;split at h
 all_goals grind
theorem AQ(hk:∀v,k v->k' v)(h:gW x k):gW x k':=by
 unfold gW at h|-
 grind
theorem IQ{P:Program}{ps:List (Nat×At)}(hk:∀v,k v->k' v)(h:pL P t ps k):pL P t ps k':=by grind [pL]
theorem MU{P:Program}{b a:TypeId}(hk:∀v,k v->k' v)(h:xp P b a x k):xp P b a x k':=by
 unfold xp at h|-;split at h
 all_goals grind
theorem FZ{e:En}{s:St}(hk:∀v,k v->k' v)(h:qT e o s k):qT e o s k':=by
 unfold qT at h|-;cases a:o.op with
 |move x=>grind
 |assign x=>grind
 |pick c x y=>grind [Ot]
 |binOp op t x y z=>grind [Sc]
 |unOp op t x=>grind [Zr]
 |load t x=>grind [NY]
 |field t x i=>grind [Jj]
 |fieldAddr t x i=>grind [yb]
 |indexAddr t x i=>grind [pd]
 |index t x i=>grind [Lz]
 |extract x i=>grind [BX]
 |convert f d x=>grind [MU]
 |slice t x lo hi b=>rw[a]at h;cases b<;>grind [Lv]
 |nilCheck x=>grind [AQ]
 |build t ps=>grind [IQ]
 |call c=>grind [DJ]
 |_=>grind
end
variable{E:Ut}{s':St}{sub:List Sh}{ts:List Tt}{u:U}
section
variable {k k':St->Prop} {s:St}
theorem Mq{P:Program}(hk:∀s',Ext s s'->k s'->k' s')(h:pH P s t d k):pH P s t d k':=by
 unfold pH at h|-;split at h
 .skip
  split at h
  .exact hk _ (((bR _ _).trans (dj _ _ _)).trans (aG _ _ _)) h
  omega
 omega
theorem Wt{x:Operand}(hk:∀s',Ext s s'->k s'->k' s')(h:IP s x d k):IP s x d k':=by
 unfold IP at h|-;split at h
 .skip
  split at h
  .exact hk _ (((bR _ _).trans (dj _ _ _)).trans (aG _ _ _)) h
  omega
 omega
theorem ya{P:Program}{n:Nat}{ps:Array (Nat×Operand)}(hk:∀s',Ext s s'->k s'->k' s')(h:eh P E s t n ps d k):eh P E s t n ps d k':=by
 unfold eh at h|-;split at h
 .skip
  split at h
  .skip
   split at h
   .skip
    dsimp only at h|-;split at h
    .skip
     split at h
     .skip
      exact hk _ ((((eC _ _).trans (bR _ _)).trans (dj _ _ _)).trans (aG _ _ _)) h
     omega
    omega
   omega
  omega
 omega
theorem Bf{p:Pl}{t:Tt}(hk:∀s',Ext s s'->k s'->k' s')(h:Cp s p t k):Cp s p t k':=by
 unfold Cp at h|-;split at h
 .omega
 skip
 split at h
 .skip
  split at h
  .exact hk _ ⟨alN _,λ_ _ _ h _=>h,dx _ _ (akR _) _⟩ h
  omega
 .skip
  split at h
  .exact rA (hk _ ⟨alN _,λ_ _ _ h _=>h,dx _ _ (akR _) _⟩) h
  omega
 .skip
  split at h
  .skip
   split at h
   .exact rA (xr (hk _ ⟨alN _,λ_ _ _ h _=>h,dx _ _ (akR _) _⟩)) h
   omega
  omega
 omega
theorem mr:∀{ts:List Tt}{s:St}{p:Pl},(∀s',Ext s s'->k s'->k' s')->iB s p ts k->iB s p ts k'
 |[],s,p,hk,h=>hk _ (Ext.refl s) h
 |t::ts,s,p,hk,h=>by
  cases t with
  |rf q=>
   simp only[iB]at h|-;split at h
   .skip
    split at h
    .skip
     exact Bf (λs' f e=>mr (λb a=>hk b (((tS _ _).trans f).trans a)) e) h
    omega
   omega
  |any=>exact h.elim
  |d c=>cases c with
   |any=>exact h.elim
   |_=>exact Bf (λs' f e=>mr (λb a=>hk b (f.trans a)) e) h
  |_=>exact Bf (λs' f e=>mr (λb a=>hk b (f.trans a)) e) h
theorem K9{p:Pl}(hk:∀s',Ext s s'->k s'->k' s')(h:ml s p ts k):ml s p ts k':=by
 unfold ml at h|-;split at h
 .omega
 skip
 split at h
 .skip
  split at h
  .exact rA (hk _ ⟨alN _,λ_ _ _ h _=>h,dx _ _ (akR _) _⟩) h
  omega
 omega
theorem OY{P:Program}(hk:∀s',Ext s s'->k s'->k' s')(h:qD P s t x v k):qD P s t x v k':=by
 unfold qD at h|-
 grind (splits:=20) [K9,mr]
theorem iM{l:List (El u)}(h:kL s u v=some (s',sub,l)):Ext s s':=by
 unfold kL at h;split at h
 .grind [Ext.refl]
 .split at h
  .split at h
   .rename_i a;simp only[akO,Prod.mk.injEq]at h;obtain⟨rfl,_⟩:=h;unfold Zl at a;split at a
    .grind
    split at a
    .simp only[akO]at a;rw[<- a];exact⟨alN _,gO (akR _),(dx _ _ (akR _) s.m).trans (dQ (akR _))⟩
    .simp only[akO]at a;rw[<- a];exact⟨alN _,gO (akR _),(dx _ _ (akR _) s.m).trans (dQ (akR _))⟩
    grind
   grind
  grind
 grind
theorem IF{P:Program}{u:TypeId}{x y:Operand}(hk:∀s',Ext s s'->k s'->k' s')(h:lP P E s t u x y d k):lP P E s t u x y d k':=by
 unfold lP at h|-;dsimp only at h|-;split at h
 .skip
  split at h
  .skip
   split at h
   .skip
    split at h
    .rename_i h3 h4;split at h
     .skip
      exact⟨h.1,hk _ (((((iH _ _).trans (iM h4)).trans (bR _ _)).trans (dj _ _ _)).trans (aG _ _ _)) h.2⟩
     omega
    omega
   omega
  omega
 omega
theorem vY{P:Program}{n:Nat}{ps:Array (Nat×Operand)}(hk:∀s',Ext s s'->k s'->k' s')(h:dz P E sub s t n ps d k):dz P E sub s t n ps d k':=by
 unfold dz at h|-;split at h
 .skip
  split at h
  .skip
   split at h
   .skip
    dsimp only at h|-;split at h
    .skip
     split at h
     .skip
      exact hk _ ((((eC _ _).trans (bR _ _)).trans (dj _ _ _)).trans (aG _ _ _)) h
     omega
    omega
   omega
  omega
 omega
theorem wa{P:Program}{n:Nat}{ps:Array (Nat×Operand)}(hk:∀s',Ext s s'->k s'->k' s')(h:dA P E sub s t n ps d k):dA P E sub s t n ps d k':=by
 unfold dA at h|-
 (repeat' split at h)<;>first|exact h.elim|skip
 exact hk _ ((((iM (by assumption)).trans (bR _ _)).trans (dj _ _ _)).trans (aG _ _ _)) h
theorem EH{P:Program}{u:TypeId}{x y:Operand}(hk:∀s',Ext s s'->k s'->k' s')(h:jl P E s t u x y d k):jl P E s t u x y d k':=by
 unfold jl at h|-;split at h
 .skip
  split at h
  .skip
   split at h
   .skip
    split at h
    .rename_i h3;split at h
     .rename_i h4;split at h
      .skip
       exact⟨h.1,hk _ (((((iM h3).trans (iM h4)).trans (bR _ _)).trans (dj _ _ _)).trans (aG _ _ _)) h.2⟩
      omega
     omega
    omega
   omega
  omega
 omega
theorem kJ(a:Nat):∀(sh:List Sh)(j:Nat)(s:St),Ext s (AP a sh j s)
 |[],_,s=>Ext.refl s
 |.fr::r,j,s=>kJ a r (j+1) s
 |.ow _::r,j,s=>by
  simp only[AP];split
  .split
   .split
    .split
     .rename_i h _;split
      .exact((((iM (by assumption)).trans (bR _ _)).trans (dj _ _ _)).trans (aG _ _ _)).trans (kJ a r (j+1) _)
      exact(((iM (by assumption)).trans (bR _ _)).trans (dj _ _ _)).trans (kJ a r (j+1) _)
     exact kJ a r (j+1) s
    exact kJ a r (j+1) s
   exact kJ a r (j+1) s
  exact Ext.refl s
theorem Vm(sh:List (TypeId×List Sh))(s:St)(t:TypeId)(v:Operand):Ext s (KO sh s t v):=by
 unfold KO
 grind [kJ,Ext.refl]
theorem Gb{e:En}{x hi:Operand}(hk:∀s',Ext s s'->k s'->k' s')(h:nK e s t x hi d k):nK e s t x hi d k':=by
 unfold nK at h|-;split at h
 .split at h
  .split at h
   .split at h
    .rename_i hb;exact⟨h.1,hk _ ((((iM hb).trans (bR _ _)).trans (dj _ _ _)).trans (aG _ _ _)) h.2⟩
    omega
   omega
  omega
 omega
theorem UI{e:En}(hk:∀s',Ext s s'->k s'->k' s')(h:Lw e o s k):Lw e o s k':=by
 unfold Lw at h|-;split at h
 .exact Gb hk h
 .exact KI hk h
 .grind [KJ]
 .dsimp only at h|-;split at h
  .split at h
   .exact pd (λv hv=>hk _ ((qJ _ _).trans (aG _ _ _)) hv) h
   omega
  omega
 omega
theorem Eg:∀{row:List C}{l:List a8},BD row=some l->row=l.map C.s
 |[],_,h=>by cases h;rfl
 |c::r,l,h=>by
  cases c with
  |s x=>
   simp only[BD]at h;split at h
   .rename_i l' hr;cases h;rw[Eg hr];rfl
   grind
  |_=>simp[BD]at h
theorem ahC{e:En}(l:e.ok)(hk:∀s',Ext s s'->k s'->k' s')(h:lT e o s k):lT e o s k':=by
 unfold lT at h|-;cases g:o.op with
 |store t x v=>rw[g]at h;exact OY (λs' l a=>hk _ ((((Vm _ _ _ _).trans (Rp _ _ _)).trans l).trans (aG _ _ _)) a) h
 |alloc t=>grind [Mq]
 |box t x=>grind [Wt]
 |buildSlice t n ps=>
  rw[g]at h;cases hd:o.dst with
  |none=>grind
  |some d=>
   rw[hd]at h;dsimp only at h|-;split at h
   all_goals grind [ya,wa,vY]
 |call c=>
  rw[g]at h;dsimp only at h|-;split at h
  .grind (splits:=20) [IF,EH]
  .exact KH (λs' f a=>hk _ (f.trans (aG _ _ _)) a) h
  .skip
   split at h
   .rename_i C j hf;exact(En.ok_get l j hf).ext _ _ _ _ _ (λs' v f a=>hk _ (f.trans (aG _ _ _)) a) h
   omega
  .skip
   split at h
   .skip
    split at h
    .rename_i C j hf;exact(En.ok_get l j hf).ext _ _ _ _ _ (λs' v f a=>hk _ (f.trans (aG _ _ _)) a) h
    omega
   .split at h
    .split at h
     .rename_i p _ C j;exact((En.ok_get' l j).2 (SX p)).ext _ _ _ _ _ (λs' v f a=>hk _ (f.trans (aG _ _ _)) a) h
     omega
    omega
   omega
  omega
 |makeMap t r=>
  rw[g]at h
  grind [Fw]
 |lookup t x i ok=>grind [FB,Fz,aG]
 |mapUpdate t m i v=>
  rw[g]at h;dsimp only at h|-;split at h
  .exact KL (λs' f a=>hk _ (f.trans (aG _ _ _)) a) h
  exact KM (λs' f a=>hk _ (((iH _ _).trans f).trans (aG _ _ _)) a) h
 |makeSlice t n c=>grind [AK]
 |makeFunc fn first caps=>grind [Ci]
 |range t x=>grind [OI]
 |next x b=>rw[g]at h;cases b<;>grind [Ub]
 |entry x=>grind [MW]
 |_=>grind
theorem KX{e:En}(a:e.ok)(hk:∀s',Ext s s'->k s'->k' s')(h:A0 e o s k):A0 e o s k':=by
 unfold A0 at h|-;split at h
 .rename_i hq;exact FZ (λv hv=>hk _ ((GC _ _).trans (aG _ _ _)) hv) h
 grind [ahC]
theorem ac8{e:En}(a:e.ok)(hk:∀s',Ext s s'->k s'->k' s')(h:opT e o s k):opT e o s k':=by grind [opT,UI,KX]
end
variable{K:S->Prop}{all:List Oper}
section
variable {P:Program} {g:G} {Q:Exit->S->Prop} {s:St}
def AOt(P:Program)(g:G)(o:Oper)(k:St->Prop)(Q:Exit->S->Prop)(s:St):Prop:=∀a w,R g s.toS a w->o.wp P a w (λa' w'=>∃s':St,k s'/\R g s'.toS a' w') (lift g Q)
def PQ(pk:PKt):Exit->S->Prop:=λx s=>∃v,∃t:St,x=.panic (chn v)/\s=t.toS/\pk v t
section
variable {g:G} {a:Act} {w:World} {H:FH}
theorem jL{s:St}(h:gtA s.t i=v):aW s.toS.t i=v.toV:=by rw[<- h];exact dP i s.t
theorem Wg{γ:Gam}{F:Nm->Fp}{s:St}(d:RX g s.toS a w H γ F){c j:Nat}{t:Tt}(e:gtA s.t c=.one (.agg ts))(hj:ts[j]? = some t) :
  ∃vs v,g.tv a c=.agg vs/\vs.toList[j]? = some v/\TR w H γ s.toS.m t.toT (λ_=>0) v:=by
 have h:=d.t c
 rw[jL e]at h;obtain⟨vs,h1,_,h3⟩:=h;obtain⟨_,v,g',_,h4,h5,h6⟩:=sC h3 (k:=j) (x:=t.toT) (by grind);refine⟨vs,v,h1,h4,?_⟩;have:g'=λ_=>0:=funext λb=>by grind
 grind
theorem kK(k:Nat):∀(sh:List Sh)(j:Nat)(s:St)(γ:Gam)(F:Nm->Fp),RX g s.toS a w H γ F->∃γ' F',RX g (AP k sh j s).toS a w H γ' F'
 |[],_,s,γ,F,e=>⟨γ,F,e⟩
 |.fr::r,j,s,γ,F,e=>kK k r (j+1) s γ F e
 |.ow _::r,j,s,γ,F,e=>by
  simp only[AP];split
  .rename_i ts E;split
   .rename_i q hj;split
    .rename_i u M _ _ _;split
     .rename_i s1 sub l hb;obtain⟨vs,v,C,G,D⟩:=Wg e E hj;have hy:AR w H γ s.toS.m (.one (.c (.rf q))) v:=D
      obtain⟨b1,b2,_⟩:=mX (size:=nc u) rfl (fZ e) (λL y=>by cases y;exact qh D.2.1) hb
      obtain⟨kb,f,F1,k1,k2,k3,k4,k5⟩:=mY e hy b1;have A:=cY k2 (.gh (700000+j))
      have p:∀b,tot F1 (s1.toS.fresh (.gh (700000+j))).m b<=tot F1 s1.toS.m b:=by
       intro b;unfold S.fresh;split
       .omega
       show tot F1 (aM _ _) b<=_
       rw[bg];exact gp
      obtain⟨γ',F',d,z⟩:=dR A (n:=.gh (700000+j)) rfl (b9 k2 (.gh (700000+j))) (v:=v) (t:=.ow sub (l.map (ap u))) (f:=f) ⟨kb,k1⟩
       (λb=>by have h1:=p b;have h2:=k4 b;have h3:=e.mem.le1 b;omega) (λb hb=>⟨(k5 b hb).1,(k5 b hb).2.1⟩) (λb hb=>(k5 b hb).2.2)
      have B:((s1.fresh (.gh (700000+j))).root (.gh (700000+j)) ⟨false,[.ow sub u l],none⟩).toS=⟨(s1.toS.fresh (.gh (700000+j))).t,(.gh (700000+j),⟨false,[.ow sub (l.map (ap u))]⟩)::(s1.toS.fresh (.gh (700000+j))).m⟩:=by rw[<- bx b2];rfl
      rw[<- B]at d;generalize hs2:(s1.fresh (.gh (700000+j))).root (.gh (700000+j)) ⟨false,[.ow sub u l],none⟩=s2 at d B;split
      .rename_i o x;refine kK k r (j+1) _ γ' F' ⟨d.mem,d.fr,d.nt,d.df,λi=>?_⟩;show AR w H γ' s2.toS.m (aW ((k,At.toV (.one (.agg (o.set j (.rf ⟨.gh (700000+j),0,[]⟩)))))::s2.toS.t) i) _
       simp only[aW];split
       .rename_i hi;subst hi;have h:=d.t k
        rw[jL x,C]at h;obtain⟨cs,h1,h2,h3⟩:=h;obtain rfl:=Value.agg.inj h1;rw[C];refine⟨vs,rfl,by grind,?_⟩;by_cases I:j<o.length
        .obtain⟨_,_,_,K,fr,_,_,_,a4,_,J,_⟩:=cX _ _ _ _ j h3 (by grind);have hr:TR w H γ' s2.toS.m (.rf ⟨.gh (700000+j),0,[]⟩) (λ_=>0) v:=(g8 (H:=H) (w:=w) (sub:=sub) (l:=l.map (ap u)) (by grind [ah]) z:AR w H γ' s2.toS.m (.one (.c (.rf ⟨.gh (700000+j),0,[]⟩))) v)
         have:=J (λ_=>TR w H γ' s2.toS.m) (.rf ⟨.gh (700000+j),0,[]⟩) v (λ_=>0) (λ_ _ _ _ _ h=>h) hr
         rw[qA G]at this;unfold Ts;rw[akV]at this|-;rw[amG,alM];exact pv (λb=>by grind) this
        grind
       exact d.t i
      exact kK k r (j+1) _ γ' F' d
     exact kK k r (j+1) s γ F e
    exact kK k r (j+1) s γ F e
   exact kK k r (j+1) s γ F e
  grind
theorem V5(sh:List (TypeId×List Sh)){s:St}{γ:Gam}{F:Nm->Fp}(t:TypeId)(v:Operand)(b:RX g s.toS a w H γ F):∃γ' F',RX g (KO sh s t v).toS a w H γ' F':=by
 unfold KO;split
 .exact kK _ _ _ _ _ _ b
 grind
end
theorem ab2{w:World}{H:FH}{γ:Gam}{m:Mm}(h:AR w H γ m v.toV y){f:Nat}(hf:ab1 v=some f):y=.func (.func f) #[] #[]:=by
 unfold ab1 at hf;split at hf
 .rename_i f' x z;split at hf
  .rename_i b a;simp only[akO]at hf;subst hf;obtain⟨_,m,h3⟩:=h;have d:y=.func (.func f') x z:=by cases m<;>exact h3.1
   grind
  grind
 .rename_i c;split at hf
  .rename_i hc;simp only[akO]at hf;subst hf;obtain⟨_,m,h3⟩:=h;cases m with
   |zero=>exact h3.elim
   |succ m=>
    obtain⟨ps,h4,h5,_⟩:=h3
    grind
  grind
 grind
theorem Xa{w:World}{H:FH}{γ:Gam}{m:Mm}(h:AR w H γ m v.toV y){key:Nat}(hf:Dj v=some key):∃f ps,key=f+1000000/\y=.func (.func f) #[] ps:=by
 unfold Dj at hf;split at hf
 .rename_i c;simp only[akO]at hf;subst hf;obtain⟨_,m,h3⟩:=h;cases m with
  |zero=>exact h3.elim
  |succ m=>
   obtain⟨ps,h4,_⟩:=h3
   grind
 grind
theorem Yx{e:En}{c:Call}(a:o.op=.call c)(hd:o.dst=some d)(h:Yw e o=true):∃t kt et,c.callee=.builtin .len/\c.argTypes.toList=[t]/\(ty e.P t).k=.mp kt et:=by grind [Yw]
theorem afS{e:En}(Y:e.ok)(S:∀x s,PQ e.pk x s->Q x s){k:St->Prop}(hc:opC g.nt o=true)(hq:isQ o=false)(h:lT e o s k):AOt e.P g o k Q s:=by
 intro a w hR;obtain⟨H,γ,F,p⟩:=hR;have hn:=fZ p
 have W:∀{s1:St},(∃H' F',RX g s1.toS a w H' γ F')->opK e.P [] o s1.toS (upS k)->o.wp e.P a w (λa' w'=>∃s':St,k s'/\R g s'.toS a' w') (lift g Q):=by intro s1 ⟨H',F',D⟩ hop;exact bY (λa' w'⟨s',⟨t,e,hk⟩,O⟩=>⟨t,hk,C9 e O⟩) (λ_ _ _ h=>h) (LU (Q:=Q) CT.ok0 hc hop a w ⟨H',γ,F',D⟩)
 have j:=hc
 unfold opC at j;rw[akP]at j;obtain⟨hd,j⟩:=j;unfold lT at h;cases L:o.op with
 |store t x v=>rw[L]at h j;simp only[akP]at j;obtain⟨Z,F0,h0⟩:=V5 e.sh t v p;obtain⟨H1,F1,h1⟩:=RG h0 (evA (KO e.sh s t v) x) (evA (KO e.sh s t v) v);refine bY (λa' w'⟨s',⟨t,e,hk⟩,O⟩=>⟨t,hk,C9 e O⟩) (λ_ _ _ h=>h) (LU (Q:=Q) CT.ok0 hc (?_:opK e.P [] o _ (upS k)) a w ⟨H1,Z,F1,h1⟩);unfold opK;rw[L];dsimp only;rw[ak j.1,ak j.2];exact UP (λt' hk=>⟨_,aQ t' o.dst .any,hk⟩) (fZ h1) h
 |alloc t=>grind [opK,RT]
 |box t x=>grind [opK,aaK]
 |buildSlice t n ps=>
  rw[L]at h j;cases B:o.dst with
  |none=>grind
  |some d=>
   rw[B]at h hd;have D:=iI (ps.toList.map λx=>evA s x.2) s H F p
   dsimp only at h;split at h
   .grind [opK,zD,fZ]
   split at h
   .obtain⟨t',y,w',γ',F',K,hk,J⟩:=x9 p hd j h;unfold Oper.wp;have:(execOp a.eval o).run e.P w=.ok (.value y) w':=by simp_all[execOp]
    rw[this];exact⟨t',hk,_,γ',F',by rw[B];exact J⟩
   obtain⟨H1,F1,h1⟩:=D;obtain⟨s',y,w',H',γ',F',K,⟨t',et,hk⟩,J⟩:=xZ (P:=e.P) h1 hd j (x8 j (fZ h1) h);unfold Oper.wp;have:(execOp a.eval o).run e.P w=.ok (.value y) w':=by simp_all[execOp]
   rw[this];exact⟨t',hk,H',γ',F',bJ et (by grind)⟩
 |call c=>
  rw[L]at h j;obtain⟨M,args,A⟩:=c;obtain⟨args⟩:=args;obtain⟨A⟩:=A;dsimp only at h j;cases M with
  |builtin b=>
   cases b with
   |append=>
    match args,A,h with
    |[x,y],[t,u],h=>
     have h1:aI x=true/\aI y=true:=by grind
     cases B:o.dst with
     |none=>grind
     |some d=>
      rw[B]at h hd;dsimp only at h;split at h
      rotate_left
      .obtain⟨s',y',w',H',γ',F',K,⟨t',et,hk⟩,J⟩:=ID (P:=e.P) (tt:=o.type) p hd h1.1 h1.2 (IE h1.1 h1.2 hn (λq hq=>by
         have h3:=aL p h1.2
         rw[ak h1.2,hq]at h3;obtain⟨_,h4,_⟩:=h3;exact qh h4) (λsize s1 sub l q ac hb hq=>by
         have hy:=aL p h1.2
         rw[ak h1.2]at hy;obtain⟨_,_,F1,_,D,_⟩:=mY p hy hb;have h3:=aL D h1.1
         rw[ak h1.1,hq]at h3;obtain⟨_,h4,_⟩:=h3;exact qh h4) h)
       unfold Oper.wp;have:(execOp a.eval o).run e.P w=.ok (.value y') w':=by simp_all[execOp,resolve,invoke,builtin]
       rw[this];exact⟨t',hk,H',γ',F',bJ et (by grind)⟩
      have D:=gP p (evA s y)
      refine W D ?_;unfold opK;rw[L,B];obtain⟨H1,F1,h2⟩:=D;exact Mu h1.1 h1.2 (fZ h2) (λq hq=>by
       have h3:=aL h2 h1.1
       rw[ak h1.1,hq]at h3;obtain⟨_,h4,_⟩:=h3;exact qh h4) h
   |delete=>
    match args,A,h with
    |[x,i],t::ts,h=>
     have h1:aI x=true/\aI i=true:=by grind
     have h2:=aL p h1.1
     have h3:=aL p h1.2
     rw[ak h1.1]at h2;rw[ak h1.2]at h3;obtain⟨t',w',F',K,I,J⟩:=N1 (tt:=o.type) p h2 h3 h;unfold Oper.wp;have:(execOp a.eval o).run e.P w=.ok (.value (.tuple #[])) w':=by simp only[execOp,L,resolve,invoke,builtin,Sem.run_bind,Sem.run_pure,Result.andThen_ok,List.map_toArray,List.map_cons,List.map_nil];rw[K];rfl
     rw[this];exact⟨_,I,H,γ,F',bJ (aQ t' o.dst (.tup [])) (J.put hd ⟨#[],rfl,trivial⟩)⟩
   |_=>grind
  |value v=>
   cases v with
   |func f=>
    dsimp only at h;split at h
    .rename_i C V hf;have T:=En.ok_get Y V hf
     have hr:(execOp a.eval o).run e.P w=.ok (.enter f (args.map a.eval).toArray) w:=by grind [execOp,resolve,Act.eval,Deferred.ofValue,invoke,Cont.run]
     unfold Oper.wp;rw[hr];refine Calls.mono (T.call g e.pk s a w H γ F args _ p j h) (λe' w' hp=>?_);rcases hp with⟨r,s',av,H',γ',F',k1,k2,k3,k4⟩|⟨v,s',k1,k2,k4⟩
     .subst k1;exact⟨_,k2,H',γ',F',bJ (aQ s' o.dst av) (k4.put hd k3)⟩
     subst k1;exact⟨_,S _ _ ⟨v,s',rfl,rfl,k2⟩,k4⟩
    grind
   |tmp t=>
    dsimp only at h;have N:Nat.blt t 100000=true->AR w H γ s.toS.m (gtA s.t t).toV (a.tmps.getD t undef):=λU=>by
     have h3:=p.t t
     rw[G.tv_lo (show t<TB from akZ U),show aW s.toS.t t=(gtA s.t t).toV from dP t s.t]at h3;exact h3
    split at h
    .rename_i f U hf;split at h
     .rename_i C V aa;have T:=En.ok_get Y V aa
      have hv:a.eval (.tmp t)=.func (.func f) #[] #[]:=ab2 (N U) hf
      have hr:(execOp a.eval o).run e.P w=.ok (.enter f (args.map a.eval).toArray) w:=by grind [execOp,resolve,Deferred.ofValue,invoke,Cont.run]
      unfold Oper.wp;rw[hr];refine Calls.mono (T.call g e.pk s a w H γ F args _ p j h) (λe' w' hp=>?_);rcases hp with⟨r,s',av,H',γ',F',k1,k2,k3,k4⟩|⟨v,s',k1,k2,k4⟩
      .subst k1;exact⟨_,k2,H',γ',F',bJ (aQ s' o.dst av) (k4.put hd k3)⟩
      subst k1;exact⟨_,S _ _ ⟨v,s',rfl,rfl,k2⟩,k4⟩
     grind
    .rename_i U hf;split at h
     .rename_i key X;split at h
      .rename_i C V;obtain⟨f,ps,rfl,hv⟩:=Xa (N U) X;have ab:a.eval (.tmp t)=.func (.func f) #[] ps:=hv
       have T:=(En.ok_get' Y V).2 kQ1
       .have hr:(execOp a.eval o).run e.P w=.ok (.enter f ((args.map a.eval).toArray++ps)) w:=by
         have h5:=T.run
         grind [execOp,resolve,Deferred.ofValue,invoke]
        unfold Oper.wp;rw[hr];have h6:=T.call g e.pk s a w H γ F t args _ ps p j (akZ U) (by grind) h
        rw[Nat.add_sub_cancel]at h6;refine Calls.mono h6 (λe' w' hp=>?_);rcases hp with⟨r,s',av,H',γ',F',k1,k2,k3,k4⟩|⟨v,s',k1,k2,k4⟩
        .subst k1;exact⟨_,k2,H',γ',F',bJ (aQ s' o.dst av) (k4.put hd k3)⟩
        subst k1;exact⟨_,S _ _ ⟨v,s',rfl,rfl,k2⟩,k4⟩
      grind
     grind
    grind
   |_=>grind
  |invoke r n=>grind
 |makeMap t r=>
  rw[L]at h j;have key:∀d,o.dst=some d->gi e.P e.E (fI e.sh (4000000+t)).isSome s t d k->(∀v,r.map a.eval=some v->∃κ n,v=.int κ n)->o.wp e.P a w (λa' w'=>∃s':St,k s'/\R g s'.toS a' w') (lift g Q):=by
   intro d B h hr;rw[B]at hd;obtain⟨t',y,w',γ',F',K,I,J⟩:=KG p hd h hr;unfold Oper.wp;have:(execOp a.eval o).run e.P w=.ok (.value y) w':=by simp_all[execOp]
   rw[this];exact⟨t',I,H,γ',F',by grind⟩
  dsimp only at h;split at h
  .grind
  .rename_i d x B;split at h
   .rename_i κ n hx;refine key d B h (λv hv=>?_);have h3:=aL p (show aI x=true from j)
    rw[ak j,hx]at h3;exact⟨κ,n,by rw[<- Option.some.inj hv];exact(nV h3).1⟩
   grind
  grind
 |lookup t x i ok=>
  rw[L]at h j;have h1:aI x=true/\aI i=true:=by grind
  have h2:=aL p h1.1
  have h3:=aL p h1.2
  rw[ak h1.1]at h2;rw[ak h1.2]at h3;dsimp only at h;split at h
  .rename_i d _ B;rw[B]at hd;obtain⟨t',y,γ',F',K,I,J⟩:=KN p hd h1.1 h1.2 h;unfold Oper.wp;have:(execOp a.eval o).run e.P w=.ok (.value y) w:=by simp_all[execOp]
   rw[this];exact⟨_,I,H,γ',F',by grind⟩
  obtain⟨z,v,K,I,J⟩:=N4 p h2 h3 h;unfold Oper.wp;have:(execOp a.eval o).run e.P w=.ok (.value z) w:=by simp_all[execOp]
  rw[this];exact⟨_,J,H,γ,F,bJ (aQ s o.dst v) (p.put hd I)⟩
 |mapUpdate t m i v=>
  rw[L]at h j;have h1:(aI m=true/\aI i=true)/\aI v=true:=by grind
  dsimp only at h;split at h
  .have h2:=aL p h1.1.1
   have h3:=aL p h1.1.2
   have h4:=aL p h1.2
   rw[ak h1.1.1]at h2;rw[ak h1.1.2]at h3;rw[ak h1.2]at h4;obtain⟨t',w',F',K,I,J⟩:=N6 p h2 h3 h4 h;unfold Oper.wp;have:(execOp a.eval o).run e.P w=.ok .skip w':=by simp_all[execOp]
   rw[this];exact⟨_,I,H,γ,F',bJ (aQ t' o.dst .any) (J.put hd trivial)⟩
  obtain⟨H1,F1,D⟩:=gP p (evA s v);generalize fW s (evA s v)=s1 at h D;have h2:=aL D h1.1.1
  have h3:=aL D h1.1.2
  have h4:=aL D h1.2
  rw[ak h1.1.1]at h2;rw[ak h1.1.2]at h3;rw[ak h1.2]at h4;obtain⟨t',w',F',K,I,J⟩:=N8 D h2 h3 h4 h;unfold Oper.wp;have:(execOp a.eval o).run e.P w=.ok .skip w':=by simp_all[execOp]
  rw[this];exact⟨_,I,H1,γ,F',bJ (aQ t' o.dst .any) (J.put hd trivial)⟩
 |makeSlice t n c=>
  rw[L]at h j;have h1:aI n=true/\aI c=true:=by grind
  cases B:o.dst with
  |none=>grind
  |some d=>
   rw[B]at h hd;obtain⟨t',y,w',γ',F',K,I,J⟩:=Ck p hd h1.1 h;unfold Oper.wp;have:(execOp a.eval o).run e.P w=.ok (.value y) w':=by simp_all[execOp]
   rw[this];exact⟨t',I,H,γ',F',by grind⟩
 |makeFunc fn first caps=>
  rw[L]at h j;dsimp only at h;split at h
  .rename_i f ad;obtain⟨t',H',K,I⟩:=Fv p hd j h;unfold Oper.wp;have hf0:first=#[]:=by grind
   have:(execOp a.eval o).run e.P w=.ok (.value (.func (.func f) #[] (caps.toList.map a.eval).toArray)) w:=by simp only[execOp,L,hf0,Instr.makeFunc,Sem.run_bind,Sem.run_pure,Result.andThen_ok,Array.map_empty];simp[<- Array.toList_map]
   rw[this];exact⟨t',K,H',γ,F,I⟩
  grind
 |range t x=>
  rw[L]at h j;cases B:o.dst with
  |none=>grind
  |some d=>
   rw[B]at h hd;obtain⟨t',y,w',H',γ',F',K,I,J⟩:=Uw p hd j h;unfold Oper.wp;have:(execOp a.eval o).run e.P w=.ok (.value y) w':=by simp_all[execOp]
   rw[this];exact⟨t',I,H',γ',F',by grind⟩
 |next x b=>
  rw[L]at h j;cases b with
  |true=>grind
  |false=>
   have h1:=aL p (show aI x=true from j)
   rw[ak j]at h1;obtain⟨t',z,w',F',K,I,J⟩:=Yo p hd h1 o.type h;unfold Oper.wp;have:(execOp a.eval o).run e.P w=.ok (.value z) w':=by simp only[execOp,L];rw[Sem.run_bind,K];rfl
   rw[this];exact⟨t',I,H,γ,F',J⟩
 |entry x=>
  rw[L]at h j;have h1:=aL p (show aI x=true from j)
  rw[ak j]at h1;obtain⟨t',z,K,I,J⟩:=S1 p hd h1 h;unfold Oper.wp;have:(execOp a.eval o).run e.P w=.ok (.value z) w:=by simp only[execOp,L];rw[Sem.run_bind,K];rfl
  rw[this];exact⟨t',I,H,γ,F,J⟩
 |_=>grind
theorem Gs{e:En}(n:e.ok)(l:∀x s,PQ e.pk x s->Q x s){k:St->Prop}(hc:opC g.nt o=true)(h:A0 e o s k):AOt e.P g o k Q s:=by
 unfold A0 at h;split at h
 .rename_i hq;intro a w ⟨H,γ,F,c⟩;obtain⟨H1,F1,b⟩:=zk c o;obtain⟨z,d,B,_,i,f,j⟩:=Bh b hc (YW b hc h);obtain⟨m,rfl,hk⟩:=j;unfold Oper.wp;rw[i w (λ_ _=>rfl)];exact⟨_,hk,H1,γ,F1,bJ (aQ _ _ _) (b.put (fO hc) f)⟩
 grind [afS]
theorem ZJ{e:En}(T:e.ok)(M:∀x s,PQ e.pk x s->Q x s){k:St->Prop}(hc:opC g.nt o=true)(h:opT e o s k):AOt e.P g o k Q s:=by
 unfold opT at h;split at h
 .rename_i D;intro a w ⟨H,γ,F,u⟩;unfold Lw at h;have b:=hc
  unfold opC at b;rw[akP]at b;obtain⟨hd,b⟩:=b;split at h
  .rename_i t x hi d j f;rw[j]at b;rw[f]at hd;simp only[akP,Option.all_none,Option.all_some,and_true]at b;obtain⟨t',y,γ',F',J,n,G⟩:=Lf u hd b.1 b.2 h;unfold Oper.wp;have:(execOp a.eval o).run e.P w=.ok (.value y) w:=by simp_all[execOp]
   rw[this];exact⟨t',n,H,γ',F',by grind⟩
  .rename_i x d j f;rw[j]at b;rw[f]at hd;obtain⟨t',H',F',n,G⟩:=N2 u hd b h;unfold Oper.wp;have:(execOp a.eval o).run e.P w=.ok (.value (a.eval x)) w:=by simp_all[execOp]
   rw[this];exact⟨t',n,H',γ,F',by grind⟩
  .rename_i c d j f;rw[j]at b;rw[f]at hd;split at h
   .rename_i x hx;obtain⟨t,kt,et,N,L,I⟩:=Yx j f D;have C:aI x=true:=by grind
    have h1:=aL u C
    rw[ak C]at h1;obtain⟨t',z,J,n,G⟩:=N5 (tt:=o.type) u hd h1 I h;unfold Oper.wp;have:(execOp a.eval o).run e.P w=.ok (.value z) w:=by
     obtain⟨E,⟨args⟩,⟨r⟩⟩:=c
     simp_all[builtin,execOp,resolve,invoke]
    rw[this];exact⟨t',n,H,γ,F,by grind⟩
   grind
  .rename_i t x i d j f;rw[j]at b;simp only[akP]at b;obtain⟨H1,p⟩:=qN [evA s x] s H u;dsimp only at h;generalize se s [evA s x]=s1 at h p;split at h
   .rename_i row A;split at h
    .rename_i l hl;have J:=Eg hl
     have hk:=si (m:=s1.m) (P:=e.P) (t:=t) (x:=.one (.c (.ga .s l 0))) (i:=evA s1 i) (λq hq=>by grind) h
     have n:(At.one (.c (.ga .s l 0))).toV=ev s1.toS x:=by
      rw[ak b.1,A,J];show AV.one (.c (.el _ 0))=AV.one (.c (.el _ 0))
      rw[al3];rfl
     rw[n,<- ak b.2]at hk;have hq:qK e.P o s1.toS (up λv=>k (s1.put (some d) v)):=by unfold qK;rw[j];exact hk
     obtain⟨z,R,B,_,G,K,S,rfl,O⟩:=Bh p hc hq;unfold Oper.wp;rw[G w (λ_ _=>rfl)];exact⟨_,O,H1,γ,F,by rw[f];exact bJ (aQ _ _ _) (p.put (by grind) K)⟩
    grind
   grind
  grind
 grind [Gs]
theorem U1{s s':S}(e:SEq s s')(h:AO P g o K Q s'):AO P g o K Q s:=λa w b=>h a w (C9 e b)
theorem LR{ops rest:List Oper}{s s':S}(e:SEq s s')(h:AL P g ops rest Q s'):AL P g ops rest Q s:=λa w b=>h a w (C9 e b)
theorem ZI(h:AOt P g o (λt=>K t.toS) Q s):AO P g o K Q s.toS:=λa w c=>bY (λa' w'⟨s',hk,b⟩=>⟨s'.toS,hk,b⟩) (λ_ _ _ h=>h) (h a w c)
theorem u7(s:St)(d:Nat)(b:Bool):SEq (s.toS.put (some d) (.one (.c (.d (.bool b))))) (s.put (some d) (sct (.bo b))).toS:=aQ s (some d) (sct (.bo b))
theorem Be(s:St)(d:Nat)(b:Bool)(o:Option Tmp):SEq ((s.toS.put (some d) (.one (.c (.d (.bool b))))).put o (.tup [])) ((s.put (some d) (sct (.bo b))).put o (.tup [])).toS:=by
 have h1:=u7 s d b
 have h2:=aQ (s.put (some d) (sct (.bo b))) o (.tup [])
 refine⟨λi=>?_,?_⟩
 .rw[<- h2.1 i];cases o with
  |none=>exact h1.1 i
  |some o=>show aW (tw _ o _) i=aW (tw _ o _) i;rw[iT,iT,h1.1 i];rfl
 rw[<- h2.2];cases o<;>exact h1.2
theorem tJ{e:En}(u:e.ok)(f:∀x s,PQ e.pk x s->Q x s){k:St->Prop}:∀{rest:List Oper}{s:St},ac9 g.nt all rest=true->nG e all rest s k->(∀t:St,k t->Q .normal t.toS)->AL e.P g all rest Q s.toS
 |[],s,_,h,n=>afR (n s h)
 |o::r,s,hc,h,n=>by
  simp only[ac9,akP]at hc;obtain⟨⟨i,b⟩,l⟩:=hc;simp only[nG]at h;have run:∀{s:St},opT e o s (λs'=>nG e all r s' k)->AO e.P g o (AL e.P g all r Q) Q s.toS:=λ{s}h=>ZI (λa w z=>bY (λa' w'⟨s',hk,y⟩=>⟨s',tJ u f l hk n,y⟩) (λ_ _ _ h=>h) (ZJ u f i h a w z))
  cases v:o.guard with
  |none=>grind [ZH]
  |some q=>
   obtain⟨j,want⟩:=q;rw[v]at h b;dsimp only at h b;cases hj:(all[j]?).bind (·.dst)with
   |none=>grind
   |some d=>
    rw[hj]at h b;dsimp only at h b;split at h
    .rename_i c m;have p:aW s.toS.t d=.one (.c (.d (.bool c))):=jL m
     cases want with
     |true=>
      dsimp only at h;refine Gq v hj p b (fO i) (λhc=>?_) (λhc=>?_)
      .grind [U1,u7]
      subst hc;rw[if_neg (by simp)]at h;exact LR (Be s d _ _) (tJ u f l h n)
     |false=>
      dsimp only at h;refine Gq v hj p b (fO i) (λhc=>?_) (λhc=>?_)
      .grind [U1,u7]
      subst hc;rw[if_pos (by rfl)]at h;exact LR (Be s d _ _) (tJ u f l h n)
    .rename_i m;exact LS v hj (jL m) (fO i) (LR (aQ s o.dst (.tup [])) (tJ u f l h n))
    grind
theorem A2{e:En}(b:e.ok){k k':St->Prop}:∀{rest:List Oper}{s:St},(∀s',Ext s s'->k s'->k' s')->nG e all rest s k->nG e all rest s k'
 |[],s,hk,h=>hk s (Ext.refl s) h
 |o::r,s,hk,h=>by
  have run:∀{s1:St},Ext s s1->opT e o s1 (λs'=>nG e all r s' k)->opT e o s1 (λs'=>nG e all r s' k'):=λ{s1}h1 h=>ac8 b (λs' h2 f=>A2 b (λa h3=>hk a ((h1.trans h2).trans h3)) f) h
  have rest:∀{s1:St},Ext s s1->nG e all r s1 k->nG e all r s1 k':=λ{s1}h1 h=>A2 b (λa h3=>hk a (h1.trans h3)) h
  simp only[nG]at h|-;split at h
  .grind [Ext.refl]
  rename_i j want i;split at h
  .rename_i d hj;split at h
   .rename_i c g;cases want<;>cases c<;>simp only[akS,if_true,if_false]at h|-
    .grind [aG]
    .exact rest ((aG _ _ _).trans (aG _ _ _)) h
    .exact rest ((aG _ _ _).trans (aG _ _ _)) h
    grind [aG]
   all_goals grind [aG]
  omega
end
variable{fuel:Nat}{listed:Array Bool}{no:St->Prop}{ops:Array Oper}
section
variable {e:En} {g:G} {k:St->Prop} {Q:Exit->S->Prop}
theorem Tp(h:XM x=true):JO x.toV=true:=by
 unfold XM at h;split at h
 .rfl
 .rfl
 grind
theorem M2{s:St}(hc:opC g.nt o=true)(h:l4 s o=true):gG s.toS o:=by grind [l4,gG,opC,ak,Tp]
theorem ae6{ops:List Oper}{s:St}{f:St->Prop}(h:gT ops o s f no):gK ops o s.toS (upS f) (upS no):=by
 unfold gT at h;unfold gK;cases b:o.guard with
 |none=>rw[b]at h;exact⟨s,⟨λ_=>rfl,rfl⟩,h⟩
 |some q=>
  obtain⟨j,want⟩:=q;rw[b]at h;dsimp only at h|-;cases hj:(ops[j]?).bind (·.dst)with
  |none=>grind
  |some d=>
   rw[hj]at h;dsimp only at h|-;split at h
   .rename_i c a;rw[jL a]
    grind [At.toV,A1.toV,Tt.toT,C.toD,gsel,u7,Be]
   .rename_i a;rw[jL a];exact⟨_,aQ s o.dst (.tup []),h⟩
   grind
theorem Xx{ops:List Oper}{s:St}{f f' a:St->Prop}(hf:∀s',Ext s s'->f s'->f' s')(hn:∀s',Ext s s'->no s'->a s')(h:gT ops o s f no):gT ops o s f' a:=by
 unfold gT at h|-;cases b:o.guard with
 |none=>grind [Ext.refl]
 |some q=>
  obtain⟨j,want⟩:=q;rw[b]at h;dsimp only at h|-;cases hj:(ops[j]?).bind (·.dst)with
  |none=>grind
  |some d=>
   rw[hj]at h;dsimp only at h|-;split at h
   .rename_i c _;cases want<;>cases c<;>simp only[akS,if_true,if_false]at h|-
    .grind [aG]
    .exact hn _ ((aG _ _ _).trans (aG _ _ _)) h
    .exact hn _ ((aG _ _ _).trans (aG _ _ _)) h
    grind [aG]
   all_goals grind [aG]
theorem Gp{A:List Nat}{fz:Bool}(x:l8 g.nt ops=true)(hs:Region.noSelect ops=true)(hi:ops[i]? = some o)
  (t:BG ops listed i A fz=true) {s:St} {D:St->Prop} (r:∀s:St,D s->AD e.P g ops Q K fuel (listed.setIfInBounds i true) s.toS)
  (h:gT ops.toList o s (λs=>(fz=true->l4 s o=true)/\qT e o s λv=>D (s.put o.dst v)) D):AD e.P g ops Q K (fuel+1) listed s.toS:=by
 intro a w H γ F Pr y m;simp only[BG,akP]at t;obtain⟨⟨⟨⟨q,J⟩,t3⟩,t4⟩,t5⟩:=t;obtain⟨p,L⟩:=jv x hi;have c:=Region.ready_mem_of_contains J
 have k:behind .any ops i (λj=>A.contains j) listed:=by
  intro j hj f;have:=ak0.1 t4 j (by grind)
  rw[fT.2 f]at this;cases N:ops[j]?<;>grind [fT]
 have n:∀j,(listed.setIfInBounds i true).getD j true=false->listed.getD j true=false:=λj h=>(iS h).1
 rcases uA y (ae6 h) (fO p) L with⟨hw,s0,⟨s',e0,hf,hq⟩,hX0⟩|⟨hw,s0,⟨s',e0,hno⟩,hX0⟩
 .have hX':=bJ e0 hX0
  obtain⟨z,d,B,e0,G,u,M,I,hk⟩:=Bh hX' p (YW hX' p hq);subst I;refine kl (ub g Q) (A:=λj=>A.contains j) (B:=B) (v:=z) hi (Region.noSelect_spec hs) fuel listed Pr (λj b=>Pr j b\/(A.contains j=false/\B b)) a w (λj b h=>.inl h) (λj b h1 h2=>.inr ⟨h1,h2⟩)
   (Region.free_spec hi q) k c (.inl ⟨hw,λw2 hs2=>G w2 hs2⟩) (r _ hk (a.put o.dst z) w H γ F _ (bJ (aQ _ _ _) (hX'.put (fO p) u)) ?_)
  intro j E hj f;obtain⟨l,C⟩:=iS f;rcases m j E hj l with hp|hp
  all_goals grind [M2,fT]
 have hX':=bJ e0 hX0
 refine kl (ub g Q) (A:=λ_=>false) (B:=λ_=>False) (v:=undef) hi (Region.noSelect_spec hs) fuel listed Pr Pr a w (λj b h=>h) (λj b _ h2=>h2.elim)
  (Region.free_spec hi q) (λj h=>by cases h) c (.inr ⟨hw,rfl⟩) (r _ hno (a.put o.dst undef) w H γ F _ hX' (m.mono n (λ_ _ _ h=>h)))
theorem U0(U:e.ok)(E:∀x s,PQ e.pk x s->Q x s)(O:l8 g.nt ops=true)(I:listed.getD i true=false)(hi:ops[i]? = some o){s:St}
  {D:St->Prop} (L:∀s:St,D s->AD e.P g ops Q K fuel (listed.setIfInBounds i true) s.toS) (h:gT ops.toList o s (λs=>A0 e.cl o s D) D) {a:Act} {w:World} {H:FH} {γ:Gam} {F:Nm->Fp} {Pr:Nat->Bs} (S:RX g s.toS a w H γ F) (k:Rx ops listed H Pr) :
  lOp e.P ops (Zx g Q) Pr i (λa' w'=>∃r:Nat->Bs,(∀j b,Pr j b->r j b)/\tG e.P .any ops (Zx g Q) (λa w=>∃s',K s'/\R g s' a w) fuel (listed.setIfInBounds i true) r a' w') a w:=by
 have f:∀j,(listed.setIfInBounds i true).getD j true=false->listed.getD j true=false:=λj h=>(iS h).1
 unfold lOp;rw[hi];obtain⟨q,W⟩:=jv O hi;dsimp only;rcases uA S (ae6 h) (fO q) W with⟨hw,s0,⟨s',e0,hop⟩,hX0⟩|⟨hw,s0,⟨s',e0,hno⟩,hX0⟩
 .have hX':=bJ e0 hX0
  rw[if_pos hw];by_cases hq:isQ o=true
  .unfold A0 at hop;rw[hq]at hop;dsimp only at hop;obtain⟨H1,F1,l,A⟩:=Iu hX' (λg' H F hx=>zk hx o);obtain⟨z,d,B,_,T,N,V⟩:=Bh l q (YW l q hop);obtain⟨X,rfl,hk⟩:=V;unfold Oper.wp;rw[T w (λ_ _=>rfl)];exact⟨λ_ _=>rfl,Pr,λ_ _ h=>h,L _ hk (a.put o.dst z) w H1 γ F1 Pr (bJ (aQ _ _ _) (l.put (fO q) N)) (k.mono f A)⟩
  have hp:∀b,Pr i b->∃x y,H b x=some y:=by
   rcases k i o hi I with h|h
   all_goals grind
  let g':G:=⟨g.nt,w,H,tot F s'.toS.m,g.out,g.ex,g.dfs⟩
  have u:RX g' s'.toS a w H γ F:=⟨hX'.mem,Fr.refl' rfl rfl rfl rfl (λ_ h=>h),hX'.nt,⟨hX'.df.1,hX'.df.2.1,ji hX'⟩,hX'.t⟩
  refine bY ?_ (λx a' w' h=>?_) (Gs (g:=g') (e:=e.cl) (Q:=PQ e.cl.pk) U (λ_ _ h=>h) q hop a w ⟨H,γ,F,u⟩)
  .intro a' w' ⟨s2,hs2,J,n,C,c⟩;have p:=c.fr
   refine⟨λb hb=>?_,Pr,λ_ _ h=>h,?_⟩
   .obtain⟨x,y,M⟩:=hp b hb;have hc:=hX'.mem.agree b x y M
    refine p.block b ?_ ?_
    .exact hc.lt
    show tot F s'.toS.m b=0
    rcases alO (tot F s'.toS.m b)with h|h
    .exact h
    have:=hX'.mem.nofz b kQ1 x
    grind
   exact L _ hs2 a' w' J n C Pr ⟨c.mem,hX'.fr.trans p,c.nt,⟨c.df.1,c.df.2.1,hX'.df.2.2⟩,c.t⟩ (k.mono f p.hold)
  obtain⟨s2,⟨v,t,rfl,rfl,hv⟩,J,n,C,c⟩:=h;exact⟨t.clr.toS,rfl,E _ _ ⟨v,t.clr,rfl,rfl,hv⟩,J,n,C,V0 ⟨c.mem,hX'.fr.trans c.fr,c.nt,⟨c.df.1,c.df.2.1,hX'.df.2.2⟩,c.t⟩ rfl rfl⟩
 have hX':=bJ e0 hX0
 rw[if_neg (by grind)];exact⟨Pr,λ_ _ h=>h,L _ hno (a.put o.dst undef) w H γ F Pr hX' (k.mono f (λ_ _ _ h=>h))⟩
theorem lh{s:St}{A:List Nat}{fz:Bool}:∀{a:List Nat},xC ops listed s a=some (i,A,fz) ->
  ∃o,ops[i]? = some o/\BG ops listed i A fz=true/\(fz=true->l4 s o=true)/\isQ o=true
 |[],h=>by cases h
 |j::r,h=>by
  simp only[xC]at h;split at h
  .exact lh h
  rename_i o b;split at h
  .exact lh h
  rename_i hq;split at h
  .rename_i hf;split at h
   .grind
   exact lh h
  split at h
  .grind
  exact lh h
theorem IB{f:Nat->Prop}:∀{l:List Nat},RQ f l->∀i∈l,f i
 |[i],h,j,hj=>by simp only[ak6]at hj;subst hj;exact h
 |i::i'::r,h,j,hj=>by
  simp only[akX]at hj;rcases hj with rfl|hj
  .exact h.1
  exact IB h.2 j (by grind)
theorem Um{s:St}{x:Operand}(h:o.op=.load t x):Co s o=s:=by grind [Co]
theorem tH(l:e.ok)(c:∀x s,PQ e.pk x s->Q x s)(f:l8 g.nt ops=true)(hs:Region.noSelect ops=true)(r:∀t:St,k t->K t.toS) :
  ∀(fuel:Nat)(listed:Array Bool)(s:St),gS e ops fuel listed s k->AD e.P g ops Q K fuel listed s.toS
 |0,listed,s,h=>by grind [gS,UZ]
 |fuel+1,listed,s,h=>by
  simp only[gS]at h;split at h
  .grind [UZ]
  rename_i E G hr;split at h
  .rename_i i A fz hp;obtain⟨o,hi,y,hf,hq⟩:=lh hp;rw[hi]at h;dsimp only at h;obtain⟨B,C⟩:=jv f hi;split at h
   .rename_i z;intro a w H γ F Pr m d;obtain⟨H1,F1,u,n⟩:=Iu m (λg' H F hx=>zk hx o);refine Gp (D:=λs'=>gS e ops fuel (listed.setIfInBounds i true) s' k) f hs hi y (λs' b=>tH l c f hs r fuel _ _ b) ?_ a w H1 γ F1 Pr u (d.mono (λ_ h=>h) n)
    grind [gT,Um,l4]
   rename_i q z;refine Gp (D:=λs'=>gS e ops fuel (listed.setIfInBounds i true) s' k) f hs hi y (λs' b=>tH l c f hs r fuel _ _ b) ?_
   grind
  intro a w H γ F Pr m d;refine⟨λh0=>absurd (hr ▸ h0) (by simp),λi hi=>?_⟩;have p:listed.getD i true=false:=(mem_ready.1 hi).1
  have j:=IB h i (hr ▸ hi)
  cases v:ops[i]? with
  |none=>grind
  |some o=>rw[v]at j;exact U0 l c f p v (λs b=>tH l c f hs r fuel _ s b) j m d
theorem Vb{id:Nat}{l:List Oper}(i:e.ok)(c:∀x s,PQ e.pk x s->Q x s)(hm:e.P.follows .mixedOrders=true)(m:l8 g.nt l.toArray=true)(hs:Region.noSelect l.toArray=true){s:St}
  (n:∀t:St,k t->Q .normal t.toS) (h:gS e l.toArray l.toArray.size (Array.replicate l.toArray.size false) s k):AW e.P g (.region id l.toArray true) Q s.toS:=by
 intro a w f;refine wp_region_any hm (o9 (Z:=Zx g Q) (Q:=λa w=>∃s',Q .normal s'/\R g s' a w) (λa w h=>h) (λe a w h=>Z4 h) _ _ (λ_ _=>False) _ _ ?_);obtain⟨H,γ,F,d⟩:=f;exact tH (Q:=Q) i c m hs n _ _ s h a _ H γ F _ (VW d _ rfl rfl rfl rfl) (λj o _ _=>.inr λb hb=>hb.elim)
theorem IA{f f':Nat->Prop}(h:∀i,f i->f' i):∀{l:List Nat},RQ f l->RQ f' l
 |[],_=>trivial
 |[i],a=>h i a
 |i::i'::r,a=>⟨h i a.1,IA h (l:=i'::r) a.2⟩
theorem ko(b:e.ok){k':St->Prop}:∀{fuel:Nat}{listed:Array Bool}{s:St},(∀s',Ext s s'->k s'->k' s')->gS e ops fuel listed s k->gS e ops fuel listed s k'
 |0,listed,s,hk,h=>by grind [gS,Ext.refl]
 |fuel+1,listed,s,hk,h=>by
  simp only[gS]at h|-;split at h
  .grind [Ext.refl]
  split at h
  .split at h
   .split at h
    .exact FZ (λv hv=>ko b (λs' a=>hk s' (((GC _ _).trans (aG _ _ _)).trans a)) hv) h
    refine Xx (λs1 h1 hs1=>?_) (λs1 h1 hs1=>ko b (λs' a=>hk s' (h1.trans a)) hs1) h;split at hs1
    .exact FZ (λv hv=>ko b (λs' a=>hk s' ((h1.trans (aG _ _ _)).trans a)) hv) hs1
    omega
   omega
  refine IA (λi hi=>?_) h;split at hi
  .exact Xx (λs1 h1 hs1=>KX (e:=e.cl) b (λs2 h2 hs2=>ko b (λs' a=>hk s' ((h1.trans h2).trans a)) hs2) hs1) (λs1 h1 hs1=>ko b (λs' a=>hk s' (h1.trans a)) hs1) hi
  omega
end
def rP(N:List Nm):T->Prop
 |.pl p=>p.root∈N
 |.rf p=>p.root∈N
 |_=>True
def yC(N:List Nm):AV1->Prop
 |.c t=>rP N t
 |.agg ts=>∀t∈ts,rP N t
def LV(N:List Nm):AV->Prop
 |.one x=>yC N x
 |.tup xs=>∀x∈xs,yC N x
 |.any=>True
def mE(r:Root):Root:=⟨r.blk,r.cells.map T.canon⟩
def nW(r a:Root):Prop:=a.blk=r.blk/\a.cells.length=r.cells.length/\∀(i:Nat)t t',r.cells[i]? = some t->a.cells[i]? = some t'->t'=t\/t'=t.canon
theorem nW.refl(r:Root):nW r r:=⟨rfl,rfl,λi t t' h1 h2=>.inl (by grind)⟩
theorem nW.canon(r:Root):nW r (mE r):=⟨rfl,by simp[mE],λi t t' h1 h2=>.inr (by grind [mE])⟩
theorem nW.of{r r':Root}(h:r'=r\/r'=mE r):nW r r':=by grind [nW.refl,nW.canon]
theorem sS:∀{m:Mm}{n:Nm}{r:Root},(m.map (·.1)).Nodup->(n,r)∈m->ah m n=some r
 |[],_,_,_,h=>by cases h
 |(k,x)::m,n,r,hn,h=>by
  simp only[List.map_cons,alG]at hn;simp only[ah];rcases akX.1 h with h|h
  .grind
  rw[if_neg (λe=>hn.1 (by grind)),sS hn.2 h]
theorem LH{F:Nm->Fp}{b:Nat}:∀{m' m:Mm},(m'.map (·.1)).Nodup->(m.map (·.1)).Nodup->(∀x∈m',∃r,ah m x.1=some r)->tot F m' b<=tot F m b
 |[],_,_,_,_=>alL _
 |x::m',m,h1,h2,h=>by
  simp only[List.map_cons,alG]at h1;obtain⟨r,hr⟩:=h x (by simp);have e:=ms (F:=F) hr b
  have ih:=LH (F:=F) (b:=b) (m':=m') (m:=bQ m x.1) h1.2 (AS h2) (λy hy=>by grind [ng])
  grind [tot]
section
variable {g:G} {a:Act} {w:World} {H:FH} {γ:Gam} {F:Nm->Fp}
theorem L0{R a:T->Fp->Value->Prop}:∀{ts:List T}{ts':List T}{f:Fp}{vs:List Value},ts'.length=ts.length->(∀(i:Nat)t t' f v,ts[i]? = some t->ts'[i]? = some t'->R t f v->a t' f v)->Ts R ts f vs->Ts a ts' f vs
 |[],[],_,_,_,_,h=>h
 |t::ts,t'::ts',f,vs,hl,hi,h=>by obtain⟨v,r,f1,d,b,c,h1,h2⟩:=h;exact⟨v,r,f1,d,b,c,hi 0 t t' _ _ rfl rfl h1,L0 (by grind) (λi=>hi (i+1)) h2⟩
theorem V3{s s':S}(j:RX g s a w H γ F)(I:(s'.m.map (·.1)).Nodup)
  (hm:∀x∈s'.m,∃r,ah s.m x.1=some r/\nW r x.2/\∀t∈r.cells,rP (s'.m.map (·.1)) t)
  (Q:∀i,aW s'.t i=.any\/((aW s'.t i=aW s.t i\/aW s'.t i=(aW s.t i).map T.canon)/\LV (s'.m.map (·.1)) (aW s.t i))):RX g s' a w H γ F:=by
 have hget:∀n,n∈s'.m.map (·.1)->∃r o,ah s.m n=some r/\ah s'.m n=some o/\nW r o:=by grind [sS]
 have cell:∀{r o:Root},nW r o->o.cells.length=r.cells.length/\∀(i:Nat)sub l,r.cells[i]? = some (.ow sub l)->o.cells[i]? = some (.ow sub l):=by
  rintro r o ⟨_,h2,h3⟩
  refine⟨h2,λi sub l h=>?_⟩;have k:i<o.cells.length:=by grind
  rw[akQ k];rcases h3 i _ _ h (akQ k)with e|e
  .rw[e]
  rw[e];rfl
 have pl:∀p,p.root∈s'.m.map (·.1)->bU s.m p->bU s'.m p:=by
  intro p hp h;obtain⟨r,o,B,D,C⟩:=hget _ hp;obtain⟨M,P⟩:=cell C;unfold bU at h|-
  grind (splits:=20)
 have rf:∀p,p.root∈s'.m.map (·.1)->gY s.m p->gY s'.m p:=by
  intro p hp h;obtain⟨r,o,B,D,C⟩:=hget _ hp;obtain⟨M,P⟩:=cell C;unfold gY at h|-;rw[B]at h;rw[D];dsimp only at h|-;split at h
  .grind
  .rename_i l hc A;have k:p.off<o.cells.length:=by grind
   have L:o.cells[p.off]? = some (.mp l):=by
    rw[akQ k];rcases C.2.2 p.off _ _ hc (akQ k)with e|e
    .rw[e]
    rw[e];rfl
   grind
  .rename_i cur l hc A;have k:p.off<o.cells.length:=by grind
   have L:∃J,o.cells[p.off]? = some (.it J l):=by
    rw[akQ k];rcases C.2.2 p.off _ _ hc (akQ k)with e|e
    .grind
    exact⟨none,by rw[e];rfl⟩
   grind
  all_goals grind
 have tr:∀{t:T}{f:Fp}{v:Value},rP (s'.m.map (·.1)) t->TR w H γ s.m t f v->TR w H γ s'.m t f v:=by
  intro t f v d h;cases t with
  |pl p=>exact⟨h.1,pl p d h.2.1,h.2.2⟩
  |rf p=>exact⟨h.1,rf p d h.2.1,h.2.2⟩
  |_=>exact h
 have N:∀{t:T}{f:Fp}{v:Value},rP (s'.m.map (·.1)) t->TR w H γ s.m t f v->TR w H γ s'.m t.canon f v:=by
  intro t f v d h;have h':=tr d h
  cases t with
  |nil=>exact⟨h'.1,(fp (w:=w) (H:=H) (γ:=γ) (m:=s'.m) .nil v ⟨λ_=>rfl,h'.2⟩).2⟩
  |it cur rest=>exact aeU h'
  |_=>exact h'
 have G:∀b,tot F s'.m b<=tot F s.m b:=λb=>LH I j.mem.keys (λx hx=>by grind)
 refine⟨⟨j.mem.agree,λx hx=>?_,I,λb=>alC (G b) (j.mem.le1 b),λb hb=>j.mem.lt b (by grind),λb hb=>j.mem.nofz b (by grind)⟩,
  ⟨j.fr.size,j.fr.os,j.fr.tape,j.fr.output,j.fr.block,j.fr.hold,j.fr.hnew,λb hb=>j.fr.tt b (by grind),j.fr.nz⟩,j.nt,j.df,λi=>?_⟩
 .obtain⟨r,h1,h2,h3⟩:=hm x hx;have K:=j.mem.roots _ (aj h1)
  have q:=(cell h2).1
  have key:∀(i:Nat)t t' f v,r.cells[i]? = some t->x.2.cells[i]? = some t'->TR w H γ s.m t f v->TR w H γ s'.m t' f v:=by
   intro i t t' f v B D h;have d:=h3 t (alU B)
   rcases h2.2.2 i t t' B D with e|e
   all_goals grind
  have E:x.2.blk=r.blk:=h2.1
  unfold bv at K|-;rw[E];split at K
  .rename_i hb;rw[if_pos hb];obtain⟨b,cs,ty,fz,g',k1,k2,k3,k4,k5,k6⟩:=K;exact⟨b,cs,ty,fz,g',k1,k2,k3,by grind,L0 q key k5,k6⟩
  rename_i hb;rw[if_neg hb];obtain⟨v,t,k1,k2,k3⟩:=K;dsimp only at k2;rw[k2]at q key
  match hc:x.2.cells,q with
  |[t'],_=>exact⟨v,t',k1,rfl,key 0 t t' _ _ rfl (by grind) k3⟩
 rcases Q i with h|⟨h,d⟩
 .rw[h];trivial
 have hv:=j.t i
 have one:∀{x:AV1}{y:Value},yC (s'.m.map (·.1)) x->AR1 w H γ s.m x y->AR1 w H γ s'.m x y:=by
  intro x y d h;cases x with
  |c t=>exact tr d h
  |agg ts=>obtain⟨cs,B,D,C⟩:=h;refine⟨cs,B,D,L0 rfl (λi t t' f v h1 h2 h=>?_) C⟩;rw[h1]at h2;obtain rfl:=Option.some.inj h2;exact tr (d t (alU h1)) h
 have all:AR w H γ s'.m (aW s.t i) (g.tv a i):=by
  revert hv d
  cases aW s.t i with
  |one x=>exact λd hv=>one d hv
  |tup xs=>
   rintro d ⟨l,e,hl⟩
   refine⟨l,e,?_⟩;have:∀(xs:List AV1)(u:List Value),(∀x∈xs,yC (s'.m.map (·.1)) x)->ARs w H γ s.m xs u->ARs w H γ s'.m xs u:=by
    intro xs;induction xs with
    |nil=>intro u _ h;cases u<;>exact h
    |cons x xs ih=>
     intro u d h;cases u with
     |nil=>exact h.elim
     |cons y u=>exact⟨one (d x (by simp)) h.1,ih u (λz O=>d z (alJ _ O)) h.2⟩
   exact this xs _ d hl
  |any=>exact λ_ _=>trivial
 grind [iG,fp]
end
variable{rs:List Nm}{s0:St}{σ:Sg}{J:FSp σ.sp->Prop}
section
variable {g:G} {a:Act} {w:World}
theorem V7{s:S}{H:FH}{γ:Gam}{F:Nm->Fp}(h:RX g s a w H γ F):R g s a w:=⟨H,γ,F,h⟩
theorem Ai(n:Nm):∀m:List (Nm×Nat×Rt),bK (e8 m n) n=none
 |[]=>rfl
 |(k,j,v)::m=>by
  simp only[e8];by_cases h:k=n
  .rw[if_pos h];exact Ai n m
  rw[if_neg h];simp only[bK];rw[if_neg h];exact Ai n m
theorem M4(s:St)(n:Nm):bK (s.fresh n).m n=none:=by
 unfold St.fresh;split
 .omega
 show bK (cc _ _ (e8 s.m n)) n=none
 rw[Dy,Ai];rfl
theorem CC(s:St)(k:Nat)(sh:List Sh)(u:U):Ext s (DT s k sh u):=by
 unfold DT;split
 .refine(bR s (kh k)).trans ⟨alN _,vK _ _ _ (akR _),km _ _ _ (akR _)⟩
 .split
  .refine((tS s _).trans (bR _ (kh k))).trans ⟨alN _,vK _ _ _ (akR _),km _ _ _ (akR _)⟩
  exact Ext.refl s
 exact Ext.refl s
theorem Qb{s:St}(h:R g s.toS a w)(k:Nat)(sh:List Sh)(u:U):R g (DT s k sh u).toS a w:=by
 obtain⟨H,γ,F,b⟩:=h;have hn:=fZ b
 unfold DT;split
 .rename_i hv;obtain⟨γ',F',h'⟩:=P7 b k (kh k) sh;refine C9 ?_ (V7 h');unfold Uj;rw[jL hv];simp only[At.toV,A1.toV,Tt.toT];have e:ah (s.toS.fresh (kh k)).m (kh k)=none:=by rw[<- bx hn,show(s.fresh (kh k)).toS.m=toM (s.fresh (kh k)).m from rfl,uz,M4];rfl
  rw[e];show SEq ⟨tw (s.toS.fresh (kh k)).t k _,_⟩ _
  rw[<- bx hn];refine⟨λi=>?_,rfl⟩;show aW (tw _ k _) i=aW ((k,_)::_) i
  rw[iT];rfl
 .rename_i n hv;split
  .rename_i c u' l' d hr;obtain⟨γ',F',h'⟩:=P7 b k (kh k) sh;refine C9 ?_ (V7 h');unfold Uj;rw[jL hv];simp only[At.toV,A1.toV,Tt.toT];rw[show ah s.toS.m n=some (⟨false,[.ow c u' l'],none⟩:Rt).toR from bi hr];show SEq ⟨tw ((s.toS.drop n).fresh (kh k)).t k _,_⟩ _
   rw[<- bF hn,<- bx (P4 hn)];refine⟨λi=>?_,rfl⟩;show aW (tw _ k _) i=aW ((k,_)::_) i
   rw[iT];rfl
  exact⟨H,γ,F,b⟩
 exact⟨H,γ,F,b⟩
theorem dI(n:Nm)(us:List U):∀(sh:List Sh)(off:Nat)(s:St),Ext s (br s n us sh off)
 |[],_,s=>Ext.refl s
 |.ow sub::r,off,s=>by
  simp only[br];split
  .split
   .rename_i cells hr _ _ u hc a;have h1:Ext s ⟨s.nx+1,s.t,dv s.m n s.nx ⟨true,cells.set off (.ow sub u []),none⟩⟩:=⟨alN _,λ_ _ _ h _=>h,dx _ _ (akR _) _⟩
    exact h1.trans (dI n us r (off+1) _)
   exact dI n us r (off+1) s
  exact Ext.refl s
 |.fr::r,off,s=>by
  simp only[br];split
  .split
   .exact(vL s _).trans (dI n us r (off+1) _)
   exact dI n us r (off+1) s
  exact Ext.refl s
theorem Qa{s:St}(h:R g s.toS a w)(q:Pl):R g (uy s q).toS a w:=by obtain⟨H,γ,F,b⟩:=h;obtain⟨H',F',h'⟩:=vP b q;exact⟨H',γ,F',h'⟩
theorem P9{s:St}(h:R g s.toS a w)(v:At):R g (fW s v).toS a w:=by obtain⟨H,γ,F,b⟩:=h;obtain⟨H',F',h'⟩:=gP b v;exact⟨H',γ,F',h'⟩
theorem d9(n:Nm)(us:List U):∀(sh:List Sh)(off:Nat){s:St},R g s.toS a w->R g (br s n us sh off).toS a w
 |[],_,_,h=>h
 |.ow sub::r,off,s,h=>by
  simp only[br];split
  .rename_i cells hr;split
   .rename_i u hc d;refine d9 n us r (off+1) ?_;obtain⟨H,γ,F,b⟩:=h;have h':=Z1 b n off sub
    have e:s.toS.ownR n off sub=(⟨s.nx+1,s.t,dv s.m n s.nx ⟨true,cells.set off (.ow sub u []),none⟩⟩:St).toS:=by
     unfold S.ownR;rw[show ah s.toS.m n=some (⟨true,cells,none⟩:Rt).toR from bi hr];have c:(⟨true,cells,none⟩:Rt).toR.cells[off]? = some .nil:=by
      show(cells.map Tt.toT)[off]? = _
      rw[akT,hc];rfl
     show(match(⟨true,cells,none⟩:Rt).toR.cells[off]? with|some .nil=>_|_=>_)=_
     rw[c];refine bF.S_ext rfl ?_;show _=toM (dv s.m n s.nx _)
     rw[fH]
     congr 1
     grind [Rt.toR,holed,alM,Tt.toT]
    grind [V7]
   exact d9 n us r (off+1) h
  omega
 |.fr::r,off,s,h=>by
  simp only[br];split
  .split
   .exact d9 n us r (off+1) (Qa h _)
   exact d9 n us r (off+1) h
  omega
theorem g9:∀(sp:List Sp)(s:St),Ext s (prep sp s)
 |[],s=>Ext.refl s
 |.sl k u::r,s=>(iH s _).trans (g9 r _)
 |.ow k sh u::r,s=>(CC s k sh u).trans (g9 r _)
 |.rt n sh u::r,s=>(dI n _ (unmark sh) 0 s).trans (g9 r _)
 |.mp _ _ _::r,s=>g9 r s
 |.mo _ _ _::r,s=>g9 r s
 |.it _ _ _::r,s=>g9 r s
 |.gw _ _ _::r,s=>g9 r s
theorem nZ:∀(sp:List Sp){s:St},R g s.toS a w->R g (prep sp s).toS a w
 |[],_,h=>h
 |.sl k u::r,_,h=>nZ r (P9 h _)
 |.ow k sh u::r,_,h=>nZ r (Qb h k sh u)
 |.rt n sh u::r,_,h=>nZ r (d9 n _ (unmark sh) 0 h)
 |.mp _ _ _::r,_,h=>nZ r h
 |.mo _ _ _::r,_,h=>nZ r h
 |.it _ _ _::r,_,h=>nZ r h
 |.gw _ _ _::r,_,h=>nZ r h
mutual
theorem adV:∀{a b:Sh},ajC a b=true->a=b
 |.fr,.fr,_=>rfl
 |.ow a,.ow b,h=>by rw[jE (show nQ a b=true from h)]
theorem jE:∀{a b:List Sh},nQ a b=true->a=b
 |[],[],_=>rfl
 |a::r,b::q,h=>by simp only[nQ,akP]at h;rw[adV h.1,jE h.2]
end
def CL:List Tt->List C->Prop
 |[],[]=>True
 |t::ts,c::cs=>((t=.d c\/t=.d .nm/\∃k v,c=.mp k v none)\/(t=.nil/\∃u',c=.li u' []))/\CL ts cs
 |_,_=>False
theorem Qk{t:Tt}{x:El u}(h:BU u t=some x):(t=.d (ao u x)\/t=.d .nm/\∃k v,ao u x=.mp k v none)\/(t=.nil/\∃u',ao u x=.li u' []):=by
 unfold BU at h;split at h
 .split at h
  .simp only[akO]at h;subst h;exact .inl (.inr ⟨rfl,_,_,rfl⟩)
  grind
 .grind [dW]
 .split at h
  .simp only[akO]at h;subst h;exact .inr ⟨rfl,_,rfl⟩
  grind
 grind
theorem I5:∀{us:List U}{ts:List Tt}{x:Fl us},lS us ts=some x->CL ts (fq us x)
 |[],[],_,_=>trivial
 |u::r,c::cs,x,h=>by
  simp only[lS]at h;cases h1:BU u c with
  |none=>grind
  |some y=>
   cases h2:lS r cs with
   |none=>grind
   |some z=>rw[h1,h2]at h;simp only[akO]at h;subst h;rw[fq,uB,vw];exact⟨Qk h1,I5 h2⟩
 |[],_::_,_,h=>by simp[lS]at h
 |_::_,[],_,h=>by simp[lS]at h
theorem om{x:El u}(h:lI u ts=some x):CL ts (flat u x):=by
 cases u with
 |st n=>
  simp only[lI]at h;cases h1:lS (sd n).fs ts with
  |none=>grind
  |some y=>
   rw[h1]at h;have:=Option.some.inj h
   subst this;show CL ts (fq (sd n).fs ((sd n).un ((sd n).mkF y)))
   rw[(sd n).l2];exact I5 h1
 |_=>
  cases ts with
  |nil=>cases h
  |cons t r=>cases r with
   |nil=>rw[kp rfl];exact⟨Qk h,trivial⟩
   |cons _ _=>cases h
theorem yG:∀{ts:List Tt}{cs:List C},CL ts cs->(cs.map Tt.d).map Tt.toT=(ts.map Tt.toT).map T.canon/\∀N,∀t∈ts.map Tt.toT,rP N t
 |[],[],_=>⟨rfl,λ_ _ h=>by simp at h⟩
 |t::ts,c::cs,h=>by
  obtain⟨h1,h2⟩:=h;obtain⟨k1,k2⟩:=yG h2;simp only[List.map_cons,k1];rcases h1 with(rfl|⟨rfl,k,v,rfl⟩)|⟨rfl,u',rfl⟩
  .exact⟨rfl,λN t a=>by
    rcases akX.1 a with rfl|a
    .trivial
    grind⟩
  .exact⟨rfl,λN t a=>by
    rcases akX.1 a with rfl|a
    .trivial
    grind⟩
  exact⟨rfl,λN t a=>by
   rcases akX.1 a with rfl|a
   .trivial
   grind⟩
 |[],_::_,h=>h.elim
 |_::_,[],h=>h.elim
theorem zO{x:El u}(h:pQ u v=some x):(BH u x).toV=v.toV.map T.canon/\∀N,LV N v.toV:=by
 unfold pQ at h;split at h
 .rename_i y;unfold W5 at h;split at h
  .rename_i t;split at h
   .rename_i hl;have hc:=om h
    rw[kp hl]at hc;obtain⟨k1,k2⟩:=yG hc;have e:(BH u x)=sct (ao u x):=by cases u<;>first|rfl|cases hl
    rw[e];refine⟨?_,λN=>k2 N t.toT (by simp)⟩
    grind [At.toV,A1.toV,AV.map,AV1.map]
   grind
  rename_i ts;split at h
  .cases h
  rename_i hl;obtain⟨k1,k2⟩:=yG (om h);have e:(BH u x)=.one (.agg ((flat u x).map Tt.d)):=by cases u<;>first|rfl|cases hl
  rw[e];exact⟨by grind [At.toV,A1.toV,AV.map,AV1.map],λN=>k2 N⟩
 grind
theorem yz:∀{sh:List Sh}{cells ts:List Tt}{cs:List C},gZ sh cells=some ts->CL ts cs->(bf sh cs).map Tt.toT=(cells.map Tt.toT).map T.canon/\∀N,∀t∈cells.map Tt.toT,rP N t
 |[],[],ts,cs,h,hc=>by
  simp only[gZ,akO]at h;subst h;cases cs with
  |nil=>exact⟨rfl,λ_ _ h=>by simp at h⟩
  |cons _ _=>exact hc.elim
 |.ow s::r,c::cells,ts,cs,h,hc=>by
  cases c with
  |ow s' u l=>
   simp only[gZ]at h;split at h
   .rename_i ts' hs hr;simp only[akO]at h;subst h;cases cs with
    |nil=>exact hc.elim
    |cons c cs=>
     obtain⟨h1,h2⟩:=hc;obtain⟨k1,k2⟩:=yz hr h2;rcases h1 with(h1|⟨h1,_⟩)|⟨h1,_⟩
     .simp only[Tt.d.injEq]at h1;subst h1;rw[jE hs];simp only[bf,List.map_cons,k1];exact⟨rfl,λN t a=>by
       rcases akX.1 a with rfl|a
       .trivial
       grind⟩
     all_goals grind
   grind
  |_=>simp[gZ]at h
 |.fr::r,c::cells,ts,cs,h,hc=>by
  have f:∀{t:Tt}{ts':List Tt},c=t->gZ r cells=some ts'->ts=t::ts'->(∃x,t=.d x)\/t=.nil->(bf (.fr::r) cs).map Tt.toT=((c::cells).map Tt.toT).map T.canon/\∀N,∀t∈(c::cells).map Tt.toT,rP N t:=by
   rintro t ts' rfl hr rfl hk
   cases cs with
   |nil=>exact hc.elim
   |cons b cs=>
    obtain⟨h1,h2⟩:=hc;obtain⟨k1,k2⟩:=yz hr h2;have e:bf (.fr::r) (b::cs)=.d b::bf r cs:=by rfl
    rw[e];simp only[List.map_cons,k1];rcases h1 with(rfl|⟨rfl,k,v,rfl⟩)|⟨rfl,u',rfl⟩
    .exact⟨rfl,λN t a=>by
      rcases akX.1 a with rfl|a
      .trivial
      grind⟩
    .exact⟨rfl,λN t a=>by
      rcases akX.1 a with rfl|a
      .trivial
      grind⟩
    exact⟨rfl,λN t a=>by
     rcases akX.1 a with rfl|a
     .trivial
     grind⟩
  cases c<;>grind [gZ]
 |[],_::_,_,_,h,_=>by simp[gZ]at h
 |.ow _::_,[],_,_,h,_=>by simp[gZ]at h
 |.fr::_,[],_,_,h,_=>by simp[gZ]at h
theorem Zq:∀{sh:List Sh}{cells ts:List Tt}{cs:List C},iF sh cells=some ts->CL ts cs ->
  (((dD sh cs).map Tt.toT).length=(cells.map Tt.toT).length/\∀(i:Nat)t t',(cells.map Tt.toT)[i]? = some t->((dD sh cs).map Tt.toT)[i]? = some t'->t'=t\/t'=t.canon)/\∀N,∀t∈cells.map Tt.toT,rP N t:=by
 intro sh;induction sh with
 |nil=>
  intro cells ts cs h hc;cases cells with
  |nil=>
   simp only[iF,akO]at h;subst h;cases cs with
   |nil=>exact⟨⟨rfl,λi t t' h=>by simp at h⟩,λ_ _ h=>by simp at h⟩
   |cons _ _=>exact hc.elim
  |cons _ _=>simp[iF]at h
 |cons s r ih=>
  intro cells ts cs h hc;cases cells with
  |nil=>grind [iF]
  |cons c cells=>
   have j:∀{t0:Tt}{g:C}{f:List C}{ts':List Tt},iF r cells=some ts'->CL ts' f->dD (s::r) (g::f)=t0::dD r f->(t0.toT=c.toT\/t0.toT=c.toT.canon)->(∀N,rP N c.toT) ->
     (((dD (s::r) (g::f)).map Tt.toT).length=((c::cells).map Tt.toT).length/\∀(i:Nat)t t',((c::cells).map Tt.toT)[i]? = some t->((dD (s::r) (g::f)).map Tt.toT)[i]? = some t'->t'=t\/t'=t.canon)/\∀N,∀t∈(c::cells).map Tt.toT,rP N t:=by
    grind
   cases s with
   |fr=>
    have m:∀{t:Tt}{ts':List Tt},c=t->iF r cells=some ts'->ts=t::ts'->(∃x,t=.d x)\/t=.nil->(((dD (.fr::r) cs).map Tt.toT).length=((c::cells).map Tt.toT).length/\∀(i:Nat)t t',((c::cells).map Tt.toT)[i]? = some t->((dD (.fr::r) cs).map Tt.toT)[i]? = some t'->t'=t\/t'=t.canon)/\∀N,∀t∈(c::cells).map Tt.toT,rP N t:=by
     rintro t ts' rfl hr rfl hk
     cases cs with
     |nil=>exact hc.elim
     |cons g cs=>
      have e:dD (.fr::r) (g::cs)=.d g::dD r cs:=by rfl
      obtain⟨h1,h2⟩:=hc;refine j hr h2 e ?_ ?_
      .rcases h1 with(h1|⟨h1,k,v,h1'⟩)|⟨h1,u',h1'⟩
       .grind
       .rw[h1,h1'];exact .inl rfl
       rw[h1,h1'];exact .inr rfl
      intro N;rcases hk with⟨x,hx⟩|hx
      .rw[hx];trivial
      rw[hx];trivial
    cases c with
    |d x=>grind [iF]
    |nil=>grind [iF]
    |_=>simp[iF]at h
   |ow a=>
    cases a with
    |nil=>
     cases c with
     |nil=>
      simp only[iF]at h;split at h
      .rename_i ts' hr;simp only[akO]at h;subst h;cases cs with
       |nil=>exact hc.elim
       |cons g cs=>exact j hr hc.2 rfl (.inl rfl) (λN=>trivial)
      grind
     |_=>simp[iF]at h
    |cons a b=>
     cases c with
     |ow s' u l=>
      simp only[iF]at h;split at h
      .rename_i ts' hs hr;simp only[akO]at h;subst h;cases cs with
       |nil=>exact hc.elim
       |cons g cs=>
        obtain⟨h1,h2⟩:=hc;rcases h1 with(h1|⟨h1,_⟩)|⟨h1,_⟩
        .simp only[Tt.d.injEq]at h1;subst h1;refine j hr h2 rfl (.inl ?_) (λN=>trivial)
         grind [jE]
        all_goals grind
      grind
     |_=>simp[iF]at h
theorem kq(k:Nat):∀t:List (Nat×Nat×At),gtA t k=match cg t k with|some (_,v)=>v|none=>.any
 |[]=>rfl
 |(i,j,v)::t=>by
  simp only[gtA,cg];cases Nat.beq i k with
  |true=>rfl
  |false=>exact kq k t
theorem E5{t:Tt}(h:t.inR rs=true):rP rs t.toT:=by
 cases t with
 |pl p=>show p.root∈rs;grind [Tt.inR]
 |rf p=>show p.root∈rs;grind [Tt.inR]
 |_=>trivial
theorem XI{x:A1}(h:x.inR rs=true):yC rs x.toV:=by
 cases x with
 |c t=>exact E5 h
 |agg ts=>intro t a;obtain⟨t',h1,rfl⟩:=ak8.1 a;exact E5 (ak0.1 h t' h1)
theorem ag8(h:x.inR rs=true):LV rs x.toV:=by
 cases x with
 |one x=>exact XI h
 |tup xs=>intro t a;obtain⟨t',h1,rfl⟩:=ak8.1 a;exact XI (ak0.1 h t' h1)
 |any=>trivial
theorem Qz{p:Nat->At->Prop}:∀{t:List (Nat×Nat×At)},(∀x∈t,p x.1 x.2.2)->∀i,gtA t i=.any\/p i (gtA t i)
 |[],_,_=>.inl rfl
 |(k,j,v)::t,h,i=>by
  simp only[gtA];cases hb:Nat.beq k i with
  |true=>simp_all
  |false=>exact Qz (λx hx=>h x (alJ _ hx)) i
theorem ro{t:List (Nat×Nat×At)}:∀{ks:List Nat}{x:Nat×Nat×At},x∈DE t ks->x.1∈ks/\cg t x.1=some x.2
 |[],x,h=>by simp[DE]at h
 |k::r,x,h=>by
  simp only[DE]at h;split at h
  .rename_i j v hl;rcases akX.1 h with rfl|h
   .grind
   have:=ro h;grind
  have:=ro h;grind
theorem rm{t:List (Nm×Nat×Rt)}:∀{ks:List Nm}{x:Nm×Nat×Rt},x∈qd t ks->x.1∈ks/\cZ t x.1=some x.2
 |[],x,h=>by simp[qd]at h
 |k::r,x,h=>by
  simp only[qd]at h;split at h
  .rename_i j v hl;rcases akX.1 h with rfl|h
   .grind
   have:=rm h;grind
  have:=rm h;grind
theorem Jp{s:St}:∀{ks:List Nat},abY s0 s rs ks=true->∀k∈ks,∃j v0 v,cg s0.t k=some (j,v0)/\cg s.t k=some (j,v)/\j<s0.nx/\v.inR rs=true
 |[],_,k,hk=>by grind
 |i::r,h,k,hk=>by
  simp only[abY,akP]at h;rcases akX.1 hk with rfl|hk
  .have h1:=h.1
   split at h1
   .rename_i j v0 j' v a b;simp only[akP]at h1;have:=akU h1.1.1
    simp_all
   grind
  exact Jp h.2 k hk
theorem zZ{s:St}:∀{ks:List Nm},S8 s0 s rs ks=true->∀k∈ks,∃j v0 v,cZ s0.m k=some (j,v0)/\cZ s.m k=some (j,v)/\j<s0.nx/\v.cells.all (·.inR rs)=true
 |[],_,k,hk=>by grind
 |i::r,h,k,hk=>by
  simp only[S8,akP]at h;rcases akX.1 hk with rfl|hk
  .have h1:=h.1
   split at h1
   .rename_i j v0 j' v a b;simp only[akP]at h1;have:=akU h1.1.1
    simp_all
   grind
  exact zZ h.2 k hk
theorem Jo{s:St}:∀{ps:List (Nat×Nm×Nat)},abX s rs ps=true->∀p∈ps,gtA s.t p.1=.one (.c (.pl ⟨p.2.1,p.2.2,[]⟩))/\p.2.1∈rs
 |[],_,p,hp=>by grind
 |(k,n,o)::r,h,p,hp=>by
  simp only[abX,akP]at h;rcases akX.1 hp with rfl|hp
  .grind [akU]
  exact Jo h.2 p hp
theorem Ay{s:St}:∀{ks:List Nm},S8 s0 s rs ks=true->(qd s0.m ks).map (·.1)=ks
 |[],_=>rfl
 |k::r,h=>by
  have b:=h
  simp only[S8,akP]at h;obtain⟨j,v0,v,a,_⟩:=zZ b k (by simp);simp only[qd,a,List.map_cons,Ay h.2]
theorem gV(nx:Nat):∀(sp:List Sp)(x:FSp sp),(fi nx sp x).map (·.1)=sp.flatMap Sp.rn
 |[],_=>rfl
 |.sl k u::r,x=>by simp only[fi,alW,Sp.rn,alV];exact gV nx r _
 |.ow k sh u::r,x=>by simp only[fi,alW,Sp.rn,List.map_cons,amJ];rw[gV nx r]
 |.rt n sh u::r,x=>by simp only[fi,alW,Sp.rn,List.map_cons,amJ];rw[gV nx r]
 |.mp n ku vu::r,x=>by simp only[fi,alW,Sp.rn,List.map_cons,amJ];rw[gV nx r]
 |.mo n ku vu::r,x=>by simp only[fi,alW,Sp.rn,List.map_cons,amJ];rw[gV nx r]
 |.it n ku vu::r,x=>by simp only[fi,alW,Sp.rn,List.map_cons,amJ];rw[gV nx r]
 |.gw n sh u::r,x=>by simp only[fi,alW,Sp.rn,List.map_cons,amJ];rw[gV nx r]
theorem DQ:∀{l:List Nm},FK l=true->l.Nodup
 |[],_=>List.nodup_nil
 |n::r,h=>by simp only[FK,akP,alA,List.contains_eq_mem,decide_eq_false_iff_not]at h;exact alG.2 ⟨h.1,DQ h.2⟩
theorem zQ{b a:U}{l:List (El ku×El vu)}{x:List (El b×El a)}(h:I7 ku vu b a l=some x):∃(c:ku=b)(d:vu=a),x=c ▸ d ▸ l:=by grind [I7]
theorem X6{s:St}{nx:Nat}:∀{sp:List Sp}{x:FSp sp},unS s sp=some x ->
  (∀y∈mH nx sp x,(y.2.2.toV=(gtA s.t y.1).toV\/y.2.2.toV=(gtA s.t y.1).toV.map T.canon)/\∀N,(∀n∈sp.flatMap Sp.rn,n∈N)->LV N (gtA s.t y.1).toV) /\
  (∀y∈fi nx sp x,∃r,bK s.m y.1=some r/\nW r.toR y.2.2.toR/\∀N,∀t∈r.toR.cells,rP N t)
 |[],_,_=>⟨λy h=>by simp[mH]at h,λy h=>by simp[fi]at h⟩
 |p::r,x,h=>by
  simp only[unS]at h;cases h1:LJ s p with
  |none=>grind
  |some a=>
   cases h2:unS s r with
   |none=>grind
   |some b=>
    rw[h1,h2]at h;simp only[akO]at h;obtain⟨z,A⟩:=X6 (nx:=nx) h2;cases p with
    |sl k u=>
     have ha:FSp.hd (.sl k u) r x=a:=by grind [sD]
     have hb:FSp.tl (.sl k u) r x=b:=by grind [sE]
     refine⟨λy hy=>?_,λy hy=>?_⟩
     .simp only[mH,ha,hb,akX]at hy;rcases hy with rfl|hy
      .obtain⟨k1,k2⟩:=zO (v:=gtA s.t k) h1
       grind
      grind
     grind [fi]
    |ow k sh u=>
     have ha:FSp.hd (.ow k sh u) r x=a:=by grind [sD]
     have hb:FSp.tl (.ow k sh u) r x=b:=by grind [sE]
     simp only[LJ]at h1;split at h1
     .rename_i n g u' l hv hr;cases hn:decide (n=kh k)<;>cases d:nQ sh g<;>rw[hn,d]at h1
      .cases h1
      .cases h1
      .cases h1
      have hn':n=kh k:=by grind
      subst hn';obtain⟨e,rfl⟩:=js h1;subst e;obtain rfl:=jE d;refine⟨λy hy=>?_,λy hy=>?_⟩
      .simp only[mH,hb,akX]at hy;rcases hy with rfl|hy
       .refine⟨.inl (by rw[hv]),λN hN=>?_⟩;rw[hv];exact hN _ (by grind [Sp.rn])
       grind
      simp only[fi,ha,hb,akX]at hy;rcases hy with rfl|hy
      .exact⟨_,hr,nW.refl _,λN t c=>by simp only[Rt.toR,holed,List.map_cons,List.map_nil,ak6]at c;subst c;trivial⟩
      grind
     grind
    |mp n ku vu=>
     have ha:FSp.hd (.mp n ku vu) r x=a:=by grind [sD]
     have hb:FSp.tl (.mp n ku vu) r x=b:=by grind [sE]
     simp only[LJ]at h1;split at h1
     .rename_i o q l hr;obtain⟨j,f,rfl⟩:=zQ h1;subst j;subst f;refine⟨λy hy=>?_,λy hy=>?_⟩
      .grind [mH]
      simp only[fi,ha,hb,akX]at hy;rcases hy with rfl|hy
      .exact⟨_,hr,nW.refl _,λN t c=>by simp only[Rt.toR,holed,List.map_cons,List.map_nil,ak6]at c;subst c;trivial⟩
      grind
     grind
    |it n ku vu=>
     have ha:FSp.hd (.it n ku vu) r x=a:=by grind [sD]
     have hb:FSp.tl (.it n ku vu) r x=b:=by grind [sE]
     simp only[LJ]at h1;split at h1
     .rename_i o q cur l hr;obtain⟨j,f,rfl⟩:=zQ h1;subst j;subst f;refine⟨λy hy=>?_,λy hy=>?_⟩
      .grind [mH]
      simp only[fi,ha,hb,akX]at hy;rcases hy with rfl|hy
      .exact⟨_,hr,⟨rfl,rfl,λi t t' h1 h2=>by
        cases i with
        |zero=>
         have j:T.it (cur.map (rT _ _)) (l.map (rT _ _))=t:=Option.some.inj h1
         have f:T.it none (l.map (rT _ _))=t':=Option.some.inj h2
         subst j f;exact .inr rfl
        |succ i=>grind [Rt.toR,holed]⟩,λN t c=>by simp only[Rt.toR,holed,List.map_cons,List.map_nil,ak6]at c;subst c;trivial⟩
      grind
     grind
    |gw n sh u=>
     have ha:FSp.hd (.gw n sh u) r x=a:=by grind [sD]
     have hb:FSp.tl (.gw n sh u) r x=b:=by grind [sE]
     simp only[LJ]at h1;split at h1
     .rename_i g u' l hr;cases d:nQ sh g with
      |false=>grind
      |true=>
      rw[d]at h1;obtain⟨e,rfl⟩:=js h1;subst e;obtain rfl:=jE d;refine⟨λy hy=>?_,λy hy=>?_⟩
      .grind [mH]
      simp only[fi,ha,hb,akX]at hy;rcases hy with rfl|hy
      .exact⟨_,hr,nW.refl _,λN t c=>by simp only[Rt.toR,holed,List.map_cons,List.map_nil,ak6]at c;subst c;trivial⟩
      grind
     grind
    |mo n ku vu=>
     have ha:FSp.hd (.mo n ku vu) r x=a:=by grind [sD]
     have hb:FSp.tl (.mo n ku vu) r x=b:=by grind [sE]
     simp only[LJ]at h1;split at h1
     .rename_i o q l hr;obtain⟨j,f,rfl⟩:=zQ h1;subst j;cases f;refine⟨λy hy=>?_,λy hy=>?_⟩
      .grind [mH]
      simp only[fi,ha,hb,akX]at hy;rcases hy with rfl|hy
      .exact⟨_,hr,nW.refl _,λN t c=>by simp only[Rt.toR,holed,List.map_cons,List.map_nil,ak6]at c;subst c;trivial⟩
      grind
     grind
    |rt n sh u=>
     have ha:FSp.hd (.rt n sh u) r x=a:=by grind [sD]
     have hb:FSp.tl (.rt n sh u) r x=b:=by grind [sE]
     simp only[LJ]at h1;split at h1
     .rename_i cells hr;split at h1
      .rename_i ts w;obtain⟨k1,k2⟩:=Zq w (om h1);refine⟨λy hy=>?_,λy hy=>?_⟩
       .grind [mH]
       simp only[fi,ha,hb,akX]at hy;rcases hy with rfl|hy
       .exact⟨_,hr,⟨rfl,k1.1,k1.2⟩,λN t c=>k2 N t c⟩
       grind
      grind
     grind
def jn1(σ:Sg)(s0:St)(J:FSp σ.sp->Prop)(s:St):Prop:=σ.fit s0 s=true/\∃x,unS s σ.sp=some x/\J x
theorem XN{s1:St}(f:Ext s0 s1)(h:jn1 σ s0 J s1)(o:R g s1.toS a w):∃v,J v/\R g (σ.st s0 v).toS a w:=by
   obtain⟨hf,v,hv,h⟩:=h;refine⟨v,h,?_⟩;obtain⟨H,γ,F,D⟩:=o;simp only[Sg.fit,akP]at hf;obtain⟨⟨⟨f1,C⟩,f3⟩,z⟩:=hf;obtain⟨l1,l2⟩:=X6 (nx:=s0.nx) hv;have b:(σ.st s0 v).toS.m.map (·.1)=σ.rn:=by
    show(toM (qd s0.m σ.kr++fi s0.nx σ.sp v)).map (·.1)=_
    simp only[toM,al3];show(qd s0.m σ.kr++fi s0.nx σ.sp v).map (·.1)=_
    rw[al0,Ay z,gV];rfl
   refine⟨H,γ,F,V3 D (by grind [DQ]) (λx hx=>?_) (λi=>?_)⟩
   .rw[b];obtain⟨y,hy,rfl⟩:=ak8.1 (show x∈toM (qd s0.m σ.kr++fi s0.nx σ.sp v)from hx);rcases ak3.1 hy with hy|hy
    .obtain⟨hk,hl⟩:=rm hy;obtain⟨j,v0,c,s,k,I,K⟩:=zZ z y.1 hk;have u:=f.m _ _ _ k I
     rw[hl]at u;have G:=Option.some.inj u
     have E:bK s1.m y.1=some y.2.2:=by grind [oD]
     refine⟨y.2.2.toR,bi E,nW.refl _,λt A=>?_⟩;have q:y.2.2=c:=by rw[G]
     rw[q]at A;have B:=zb c.cells c.hole
     obtain⟨i,hi,hit⟩:=List.getElem_of_mem A;have d:=B.len
     have n:i<c.cells.length:=by
      have:(c.toR.cells).length=c.cells.length:=d
      omega
     rcases B.nth i _ t (akQ n) (by rw[<- hit];exact akQ hi)with e|⟨_,_,_,_,_,e,_⟩
     .grind [E5]
     rw[e];trivial
    obtain⟨r,k1,k2,k3⟩:=l2 y hy;exact⟨r.toR,bi k1,k2,k3 _⟩
   rw[b];have key:∀y∈(σ.st s0 v).t,(y.2.2.toV=(gtA s1.t y.1).toV\/y.2.2.toV=(gtA s1.t y.1).toV.map T.canon)/\LV σ.rn (gtA s1.t y.1).toV:=by
    intro y hy;rcases ak3.1 hy with hy|hy
    .obtain⟨hk,hl⟩:=ro hy
     grind [Jp,Ext.t,kq,ag8]
    rcases ak3.1 hy with hy|hy
    .obtain⟨p,hp,rfl⟩:=ak8.1 hy;obtain⟨s,k⟩:=Jo C p hp;dsimp only;rw[s];exact⟨.inl rfl,k⟩
    grind [Sg.rn]
   have hs1:aW s1.toS.t i=(gtA s1.t i).toV:=dP i s1.t
   have l:aW (σ.st s0 v).toS.t i=(gtA (σ.st s0 v).t i).toV:=dP i (σ.st s0 v).t
   rw[hs1,l];rcases Qz (p:=λi v=>(v.toV=(gtA s1.t i).toV\/v.toV=(gtA s1.t i).toV.map T.canon)/\LV σ.rn (gtA s1.t i).toV) key i with e|e
   .rw[e];exact .inl rfl
   grind
theorem afB{s:St}(e:Ext s0 s)(h:jn σ s0 J s)(d:R g s.toS a w):∃v,J v/\R g (σ.st s0 v).toS a w:=by
 unfold jn at h;dsimp only at h;have c:=nZ (g:=g) (a:=a) (w:=w) σ.sp d
 have b:=e.trans (g9 σ.sp s)
 split at h
 .rename_i hf;split at h
  .rename_i v hv;exact XN b ⟨hf,v,hv,h⟩ c
  grind
 grind
theorem DN{k:Nat}{y:Nat×At}:∀{t:List (Nat×Nat×At)},cg t k=some y->(k,y)∈t
 |[],h=>by cases h
 |(i,j,v)::t,h=>by
  simp only[cg]at h;split at h
  .grind [akU]
  exact alJ _ (DN h)
theorem DL{k:Nm}{y:Nat×Rt}:∀{t:List (Nm×Nat×Rt)},cZ t k=some y->(k,y)∈t
 |[],h=>by cases h
 |(i,j,v)::t,h=>by
  simp only[cZ]at h;split at h
  .grind
  exact alJ _ (DL h)
theorem qe(nx:Nat):∀(sp:List Sp)(x:FSp sp),(∀y∈mH nx sp x,y.2.1=nx)/\∀y∈fi nx sp x,y.2.1=nx
 |[],_=>⟨λy h=>by simp[mH]at h,λy h=>by simp[fi]at h⟩
 |.sl k u::r,x=>by
  obtain⟨h1,h2⟩:=qe nx r (FSp.tl (.sl k u) r x);refine⟨λy h=>?_,λy h=>h2 y h⟩
  grind [mH]
 |.ow k sh u::r,x=>by
  obtain⟨h1,h2⟩:=qe nx r (FSp.tl (.ow k sh u) r x)
  grind [mH,fi]
 |.rt n sh u::r,x=>by
  obtain⟨h1,h2⟩:=qe nx r (FSp.tl (.rt n sh u) r x);refine⟨λy h=>h1 y h,λy h=>?_⟩
  grind [fi]
 |.mp n ku vu::r,x=>by
  obtain⟨h1,h2⟩:=qe nx r (FSp.tl (.mp n ku vu) r x);refine⟨λy h=>h1 y h,λy h=>?_⟩
  grind [fi]
 |.mo n ku vu::r,x=>by
  obtain⟨h1,h2⟩:=qe nx r (FSp.tl (.mo n ku vu) r x);refine⟨λy h=>h1 y h,λy h=>?_⟩
  grind [fi]
 |.it n ku vu::r,x=>by
  obtain⟨h1,h2⟩:=qe nx r (FSp.tl (.it n ku vu) r x);refine⟨λy h=>h1 y h,λy h=>?_⟩
  grind [fi]
 |.gw n sh u::r,x=>by
  obtain⟨h1,h2⟩:=qe nx r (FSp.tl (.gw n sh u) r x);refine⟨λy h=>h1 y h,λy h=>?_⟩
  grind [fi]
theorem yO(σ:Sg)(s:St)(x:FSp σ.sp):Ext s (σ.st s x):=by
 obtain⟨l1,l2⟩:=qe s.nx σ.sp x;refine⟨alN _,λk j v h hj=>?_,λn j r h hj=>?_⟩
 .have hm:=DN h
  rcases ak3.1 hm with hm|hm
  .exact(ro hm).2
  grind
 have hm:=DL h
 rcases ak3.1 hm with hm|hm
 .exact(rm hm).2
 grind
end
def ii(nt:Nat):Code->Bool
 |.region _ ops false=>ac9 nt ops.toList ops.toList
 |.region _ ops true=>l8 nt ops&&Region.noSelect ops
 |.seq a b=>ii nt a&&ii nt b
 |.cond (.tmp t) a b=>Nat.blt t 100000&&(ii nt a&&ii nt b)
 |.block _ a=>ii nt a
 |.loop a=>ii nt a
 |_=>true
def LQ(pk:PKt)(K:Kt):Exit->S->Prop
 |.normal,s=>∃t:St,s=t.toS/\K.n t
 |.exit i,s=>∃t:St,s=t.toS/\K.x i t
 |.ret,s=>∃t:St,s=t.toS/\K.r t
 |.panic c,s=>∃v,∃t:St,c=chn v/\s=t.toS/\pk v t
 |_,_=>False
theorem aeS{pk:PKt}{K:Kt}:∀x s,PQ pk x s->LQ pk K x s:=by
 rintro x s ⟨v,t,rfl,rfl,h2⟩
 exact⟨v,t,rfl,rfl,h2⟩
theorem acI{s:St}{a:FSp σ.sp->Prop}(hj:∀v,J v->a v)(h:jn σ s0 J s):jn σ s0 a s:=by grind [jn]
theorem AJ{α:Type}{b b':(α->Prop)->α->Prop}(hb:∀R a:α->Prop,(∀v,R v->a v)->∀v,b R v->b' a v):∀n v,pf b n v->pf b' n v
 |0,_,h=>h.elim
 |n+1,v,h=>hb _ _ (AJ hb n) v h
theorem Gl{e:En}(u:e.ok):∀(c:Code)(an:An)(s:St)(K K':Kt),(∀s',Ext s s'->K.n s'->K'.n s')->(∀i s',Ext s s'->K.x i s'->K'.x i s')->(∀s',Ext s s'->K.r s'->K'.r s')->wpT e an c s K->wpT e an c s K':=by
 intro c;induction c with
 |skip=>grind [wpT,Ext.refl]
 |exit i=>grind [wpT,Ext.refl]
 |ret=>grind [wpT,Ext.refl]
 |region id ops l=>intro an s K K' hn hx hr h;cases l<;>grind [wpT,A2,ko]
 |seq a b d f=>
  intro an s K K' hn hx hr h;cases an with
  |s p q=>simp only[wpT]at h|-;exact d p s ⟨λs'=>wpT e (q.pick s') b s' K,K.x,K.r⟩ ⟨λs'=>wpT e (q.pick s') b s' K',K'.x,K'.r⟩ (λs1 h1 hs1=>f (q.pick s1) s1 K K' (λs2 h2=>hn s2 (h1.trans h2)) (λi s2 h2=>hx i s2 (h1.trans h2)) (λs2 h2=>hr s2 (h1.trans h2)) hs1) hx hr h
  |j σ p q=>simp only[wpT]at h|-;intro J k;refine d p s ⟨jn σ s J,K.x,K.r⟩ ⟨jn σ s J,K'.x,K'.r⟩ (λs1 _ h=>h) hx hr (h J (λv hv=>k v ?_));exact f q _ K K' (λs2 h2=>hn s2 ((yO σ s v).trans h2)) (λi s2 h2=>hx i s2 ((yO σ s v).trans h2)) (λs2 h2=>hr s2 ((yO σ s v).trans h2)) hv
  |_=>grind [wpT]
 |cond t a b d f=>
  intro an s K K' hn hx hr h;cases an with
  |c p q=>cases t<;>grind [wpT]
  |_=>grind [wpT]
 |block id a d=>intro an s K K' hn hx hr h;cases an<;>grind [wpT]
 |loop a d=>
  intro an s K K' hn hx hr h;cases an with
  |lp σ p=>
   simp only[wpT]at h|-;have g:=g9 σ.sp s
   generalize prep σ.sp s=s1 at h g;split at h
   .split at h
    .obtain⟨n,hl⟩:=h;refine⟨n,AJ (λR w m v hv=>?_) n _ hl⟩
     grind [Ext.trans,yO,acI]
    omega
   omega
  |un n p=>
   simp only[wpT]at h|-;have key:∀n(s1:St),Ext s s1->uL (λR s'=>wpT e p a s' ⟨R,K.x,K.r⟩) n s1->uL (λR s'=>wpT e p a s' ⟨R,K'.x,K'.r⟩) n s1:=by
    intro n;induction n with
    |zero=>intro s1 _ h;exact h.elim
    |succ n ih=>
     intro s1 o h
     grind [uL,Ext.trans]
   grind [Ext.refl]
  |_=>grind [wpT]
 |_=>grind [wpT]
theorem yF{P:Program}{g:G}{c:Code}{Q Q':Exit->S->Prop}{s:S}(h:AW P g c Q s)(hq:∀e s' a w,Q e s'->R g s' a w->∃b,Q' e b/\R g b a w):AW P g c Q' s:=λa w d=>Code.wp_mono (λe a' w'⟨s',h1,h2⟩=>hq e s' a' w' h1 h2) (h a w d)
theorem sy{e:En}(A:e.ok)(hm:e.P.follows .mixedOrders=true){g:G}:∀(c:Code)(an:An)(s:St)(K:Kt),ii g.nt c=true->wpT e an c s K->AW e.P g c (LQ e.pk K) s.toS:=by
 intro c;induction c with
 |skip=>intro an s K hc h;simp only[wpT]at h;exact ZO ⟨s,rfl,h⟩
 |exit i=>intro an s K hc h;simp only[wpT]at h;exact ZN ⟨s,rfl,h⟩
 |ret=>intro an s K hc h;simp only[wpT]at h;exact afU ⟨s,rfl,h⟩
 |region id ops O=>
  intro an s K hc h;obtain⟨l⟩:=ops;cases O with
  |false=>simp only[wpT]at h;exact Ri (tJ A aeS hc h (λt f=>⟨t,rfl,f⟩))
  |true=>simp only[wpT]at h;simp only[ii,akP]at hc;exact Vb A aeS hm hc.1 hc.2 (λt f=>⟨t,rfl,f⟩) h
 |seq a b k m=>
  intro an s K hc h;simp only[ii,akP]at hc;cases an with
  |s p q=>
   simp only[wpT]at h;refine Vc (AW.mono (k p s _ hc.1 h) (λe' s' h'=>?_));cases e' with
   |normal=>obtain⟨t,rfl,f⟩:=h';exact m (q.pick t) t K hc.2 f
   |exit i=>exact h'
   |ret=>exact h'
   |panic c=>exact h'
   |_=>exact h'
  |j σ p q=>
   simp only[wpT]at h;have h1:=h _ (λv hv=>hv)
   have h2:=Gl A a p s ⟨jn σ s (λv=>wpT e q b (σ.st s v) K),K.x,K.r⟩ ⟨λs'=>Ext s s'/\jn σ s (λv=>wpT e q b (σ.st s v) K) s',K.x,K.r⟩ (λs' o u=>⟨o,u⟩) (λ_ _ _ h=>h) (λ_ _ h=>h) h1
   refine Vc (AW.mono (k p s _ hc.1 h2) (λe' s' h'=>?_));cases e' with
   |normal=>obtain⟨t,rfl,o,f⟩:=h';intro a' w' H;obtain⟨v,hv,d⟩:=afB o f H;exact m q _ K hc.2 hv a' w' d
   |exit i=>exact h'
   |ret=>exact h'
   |panic c=>exact h'
   |_=>exact h'
  |_=>grind [wpT]
 |cond t a b k m=>
  intro an s K hc h;cases an with
  |c p q=>
   cases t with
   |tmp t=>
    simp only[ii,akP]at hc;simp only[wpT]at h;split at h
    .rename_i c L;refine ZM (jL L) (λhb=>?_) (λhb=>?_) (akZ hc.1)
     all_goals grind
    grind
   |_=>grind [wpT]
  |_=>grind [wpT]
 |block id a k=>
  intro an s K hc h;cases an with
  |b p=>
   simp only[wpT]at h;refine Va (AW.mono (k p s _ hc h) (λe' s' h'=>?_));cases e' with
   |normal=>exact h'
   |exit i=>
    obtain⟨t,rfl,f⟩:=h';simp only[MA];dsimp only at f;cases hb:Nat.beq i id with
    |true=>rw[hb]at f;rw[if_pos (akU hb)];exact⟨t,rfl,f⟩
    |false=>rw[hb]at f;rw[if_neg (λe=>by grind [Nat.beq_refl])];exact⟨t,rfl,f⟩
   |ret=>exact h'
   |_=>exact h'
  |_=>grind [wpT]
 |loop a k=>
  intro an s K hc h;cases an with
  |lp σ p=>
   simp only[wpT]at h;have z:∀a' w',R g s.toS a' w'->R g (prep σ.sp s).toS a' w':=λa' w' H=>nZ σ.sp H
   generalize prep σ.sp s=s1 at h z;split at h
   .rename_i hf;split at h
    .rename_i M D;obtain⟨n,hl⟩:=h;intro a0 w0 E;have hj:jn1 σ s1 (λv=>v=M) s1:=⟨hf,M,D,rfl⟩
     obtain⟨v,rfl,I⟩:=XN (Ext.refl s1) hj (z _ _ E);refine Pg (λn y=>∃v,pf (λR v=>wpT e p a (σ.st s1 v) ⟨jn σ s1 R,K.x,K.r⟩) n v/\y=(σ.st s1 v).toS) n ⟨v,hl,rfl⟩ (λn y C=>?_) a0 w0 I
     .obtain⟨v,hv,rfl⟩:=C;cases n with
      |zero=>exact hv.elim
      |succ n=>
       have h2:=Gl A a p (σ.st s1 v) ⟨jn σ s1 (pf (λR v=>wpT e p a (σ.st s1 v) ⟨jn σ s1 R,K.x,K.r⟩) n),K.x,K.r⟩ ⟨λs'=>Ext (σ.st s1 v) s'/\jn σ s1 (pf (λR v=>wpT e p a (σ.st s1 v) ⟨jn σ s1 R,K.x,K.r⟩) n) s',K.x,K.r⟩ (λs' o u=>⟨o,u⟩) (λ_ _ _ h=>h) (λ_ _ h=>h) hv
       refine yF (k p _ _ hc h2) (λe' s' a' w' h' d=>?_);cases e' with
       |normal=>obtain⟨t,rfl,o,f⟩:=h';obtain⟨N,F,J⟩:=afB ((yO σ s1 v).trans o) f d;exact⟨_,⟨n,Nat.lt_succ_self n,N,F,rfl⟩,J⟩
       |exit i=>exact⟨s',h',d⟩
       |ret=>exact⟨s',h',d⟩
       |panic c=>exact⟨s',h',d⟩
       |_=>exact h'.elim
    grind
   grind
  |un n p=>
   simp only[wpT]at h;refine Pg (λn y=>∃t:St,y=t.toS/\uL (λR s'=>wpT e p a s' ⟨R,K.x,K.r⟩) n t) n ⟨s,rfl,h⟩ (λn y C=>?_);obtain⟨t,rfl,f⟩:=C;cases n with
   |zero=>exact f.elim
   |succ n=>
    refine yF (k p t ⟨uL (λR s'=>wpT e p a s' ⟨R,K.x,K.r⟩) n,K.x,K.r⟩ hc f) (λe' s' a' w' h' d=>?_);cases e' with
    |normal=>obtain⟨Q,rfl,B⟩:=h';exact⟨_,⟨n,Nat.lt_succ_self n,Q,rfl,B⟩,d⟩
    |exit i=>exact⟨s',h',d⟩
    |ret=>exact⟨s',h',d⟩
    |panic c=>exact⟨s',h',d⟩
    |_=>exact h'.elim
  |_=>grind [wpT]
 |_=>grind [wpT]
def j6:(us:List U)->Fl us->List AV
 |[],_=>[]
 |u::r,x=>(BH u (Fl.hd u r x)).toV::j6 r (Fl.tl u r x)
def vV:(us:List U)->Fl us->List AV1
 |[],_=>[]
 |u::r,x=>(Ct u (Fl.hd u r x)).toV::vV r (Fl.tl u r x)
theorem vA(u:U)(x:El u):BH u x=.one (Ct u x):=by cases u<;>rfl
theorem sK{x:El u}(h:pQ u v=some x):v.noRf=true/\v.toV.isFz=true:=by
 have cl:∀{ts:List Tt}{cs:List C},CL ts cs->ts.all Tt.noRf=true/\(ts.map Tt.toT).all T.isFz=true:=by
  intro ts;induction ts with
  |nil=>grind
  |cons t ts ih=>
   intro cs hc;cases cs with
   |nil=>exact hc.elim
   |cons c cs=>
    obtain⟨h1,h2⟩:=ih hc.2;rcases hc.1 with(rfl|⟨rfl,_⟩)|⟨rfl,_⟩
    .exact⟨by simp only[ak2,h1];rfl,by simp only[List.map_cons,ak2,h2];rfl⟩
    .exact⟨by simp only[ak2,h1];rfl,by simp only[List.map_cons,ak2,h2];rfl⟩
    exact⟨by simp only[ak2,h1];rfl,by simp only[List.map_cons,ak2,h2];rfl⟩
 unfold pQ at h;split at h
 .unfold W5 at h;split at h
  .split at h
   .obtain⟨h1,h2⟩:=cl (om h);refine⟨?_,?_⟩
    .rename_i t _ _;show t.noRf=true;grind
    rename_i t _ _;show t.toT.isFz=true;grind
   grind
  split at h
  .cases h
  obtain⟨h1,h2⟩:=cl (om h);exact⟨h1,h2⟩
 grind
theorem kQ:∀{us:List U}{vs:List At}{x:Fl us},cG us vs=some x->vs.all At.noRf=true/\(vs.map At.toV).all AV.isFz=true/\(vs.map At.toV).map (AV.map T.canon)=j6 us x
 |[],[],_,_=>⟨rfl,rfl,rfl⟩
 |u::r,v::vs,x,h=>by
  simp only[cG]at h;cases h1:pQ u v with
  |none=>grind
  |some a=>
   cases h2:cG r vs with
   |none=>grind
   |some b=>
    rw[h1,h2]at h;simp only[akO]at h;subst h;obtain⟨e,c,d⟩:=kQ h2
    grind [sK,j6,uB,vw,zO]
 |[],_::_,_,h=>by simp[cG]at h
 |_::_,[],_,h=>by simp[cG]at h
section
variable {P:Program}
theorem uQ{s:St}{ops:List Operand}(h:ops.all aI=true):ops.map (ev s.toS)=(ops.map (evA s)).map At.toV:=by grind [ak4,ak]
theorem dY{s:St}:∀{rs:List ResultVar}{k:List At->Prop},(∀vs,¬ k vs)->¬ dC P s rs k
 |[],k,hk,h=>hk _ h
 |r::rs,k,hk,h=>by
  have key:∀v,¬ dC P s rs (λvs=>k (v::vs)):=λv=>dY λvs=>hk _
  simp only[dC]at h;unfold mm at h;cases r with
  |tmp t=>simp_all
  |cell a t=>
   dsimp only at h;split at h
   .split at h
    .split at h
     .exact loadT_false key h
     omega
    omega
   omega
where
 loadT_false {m:List (Nm×Nat×Rt)} {t:TypeId} {x:At} {k:At->Prop} (hk:∀v,¬ k v) (h:lc P m t x k):False:=by
  unfold lc at h
  grind
theorem mn{s:St}(hop:∀p i,gtA s.t i=.one (.c (.pl p))->okP (toM s.m) p):∀{rs:List ResultVar}{us:List U}{K:Fl us->Prop}{k:List At->Prop},(∀vs,k vs->∃x,cG us vs=some x/\K x)->dC P s rs k ->
  fR P s.toS rs (λxs=>∃x:Fl us,xs.map (·.map T.canon)=vV us x/\xs.all AV1.isFz=true/\K x)
 |[],us,K,k,hk,h=>by
  obtain⟨x,hx,d⟩:=hk _ h;cases us with
  |nil=>exact⟨x,rfl,rfl,d⟩
  |cons u us=>grind [cG]
 |r::rs,us,K,k,hk,h=>by
  simp only[dC]at h;simp only[fR];have step:∀{v:At},dC P s rs (λvs=>k (v::vs))->(match v.toV with
    |.one x=>fR P s.toS rs λxs=>∃y:Fl us,(x::xs).map (·.map T.canon)=vV us y/\(x::xs).all AV1.isFz=true/\K y
    |_=>False):=by
   intro v hv;cases us with
   |nil=>grind [dY,cG]
   |cons u us=>
    cases hc:pQ u v with
    |none=>grind [dY,cG]
    |some a=>
     obtain⟨g,_⟩:=zO hc;obtain⟨_,j⟩:=sK hc;have ih:=mn hop (us:=us) (K:=λy=>K (Fl.cons u us a y)) (λvs e=>by grind [cG]) hv
     rw[vA]at g;cases v with
     |one x=>
      refine resGets_mono ?_ ih;rintro xs ⟨y,z,f,d⟩
      refine⟨_,?_,?_,d⟩
      .grind [vV,uB,vw,At.toV,AV.map]
      simp only[ak2,f,amN];exact j
     |tup _=>grind [pQ]
     |any=>grind [pQ]
  cases r with
  |tmp t=>
   simp only[mm]at h;simp only[wN];rw[show aW s.toS.t t=(gtA s.t t).toV from dP t s.t]
   grind
  |cell a t=>
   simp only[mm]at h;simp only[wN];split at h
   .rename_i p hp;split at h
    .split at h
     .have hl:=AG (m:=s.m) (x:=gtA s.t a) (λq hq=>hop q a hq) h
      rw[show aW s.toS.t a=(gtA s.t a).toV from dP a s.t];refine loadK_mono ?_ hl
      grind
     grind
    grind
   grind
where
 loadK_mono {m:Mm} {t:TypeId} {x:AV} {k k':AV->Prop} (hk:∀v,k v->k' v) (h:uJ P m t x k):uJ P m t x k':=by
  unfold uJ at h|-;refine⟨h.1,?_⟩
  replace h:=h.2
  split at h
  .grind
  .split at h
   .rename_i ha;rw[if_pos ha];exact atK_mono (λts b w=>hk _ (b w)) h
   rename_i ha;rw[if_neg ha];refine atK_mono (λts b=>?_) h
   grind
  omega
 atK_mono {m:Mm} {p:Pl} {n:Nat} {k k':List T->Prop} (hk:∀v,k v->k' v) (h:atK m p n k):atK m p n k':=by
  unfold atK at h|-;split at h
  .omega
  split at h
  .grind
  .exact inK_mono hk h
  omega
 inK_mono {k k':List T->Prop} (hk:∀v,k v->k' v):∀{path:List Step}{sub:List Sh}{l:List (List D)}{n:Nat},inK sub l n path k->inK sub l n path k'
  |[],_,_,_,h=>h.elim
  |[st],sub,l,n,h=>by grind [inK]
  |st::o::r,sub,l,n,h=>by
   simp only[inK]at h|-;split at h
   .split at h
    .exact inK_mono hk h
    omega
   omega
 resGets_mono {s:S}:∀{rs:List ResultVar}{k k':List AV1->Prop},(∀v,k v->k' v)->fR P s rs k->fR P s rs k'
  |[],k,k',hk,h=>hk _ h
  |r::rs,k,k',hk,h=>by
   simp only[fR]at h|-;have st:∀v:AV,(match v with|.one x=>fR P s rs λxs=>k (x::xs)|_=>False)->(match v with|.one x=>fR P s rs λxs=>k' (x::xs)|_=>False):=by
    intro v hv;cases v with
    |one x=>exact resGets_mono (λxs=>hk _) hv
    |_=>exact hv
   cases r with
   |tmp t=>exact st _ h
   |cell a t=>exact loadK_mono st h
theorem Q1{s:S}{rs:List ResultVar}{us:List U}{K:AV->Prop}{Q:Fl us->Prop}(d:il s rs=s)(f:∀x,Q x->K (dp us x).toV)(h:fR P s rs (λxs=>∃x:Fl us,xs.map (·.map T.canon)=vV us x/\xs.all AV1.isFz=true/\Q x)):wO P s rs K:=by
 unfold wO;rw[d];refine mn.resGets_mono ?_ h;rintro xs ⟨x,b,e,hq⟩
 have c:=f x hq
 have a:∀(us:List U)(x:Fl us),(dp.resL us x).map A1.toV=vV us x:=by
  intro us;induction us with
  |nil=>intro _;rfl
  |cons u r ih=>grind [dp.resL,vV]
 match xs,e,us,x,b,c with
 |[],_,[],x,_,c=>exact⟨rfl,c⟩
 |[y],e,[u],x,b,c=>
  simp only[List.map_cons,List.map_nil,vV,List.cons.injEq,and_true]at b;refine⟨by grind,?_⟩;rw[b];have:(dp [u] x).toV=.one (Ct u (Fl.hd u [] x)).toV:=by show(BH u x).toV=_;rw[vA];rfl
  grind
 |y::i::g,e,u::v::r,x,b,c=>refine⟨e,?_⟩;rw[b,<- a];exact c
 |[],_,_::_,_,b,_=>grind [vV]
 |[_],_,[],_,b,_=>grind [vV]
 |[_],_,_::_::_,_,b,_=>grind [vV]
 |_::_::_,_,[],_,b,_=>grind [vV]
 |_::_::_,_,[_],_,b,_=>grind [vV]
end
section
variable {P:Program}
theorem Yf{k:At->Prop}(h:lc P m t x k):∃v,k v:=by grind [dY.loadT_false]
theorem Yy{t:Tt}(h:t.owned=false):∀sub l,t.toT≠.ow sub l:=by
 cases t with
 |ow _ _ _=>cases h
 |_=>intro _ _ h;cases h
theorem Ag{s:St}{r:Rt}(hr:bK s.m n=some r)(a:r.hole=none)(hc:r.cells.all (λt=>!t.owned)=true):∀i,oz s.toS n i=s.toS
 |0=>rfl
 |i+1=>by
  simp only[oz];rw[Ag hr a hc i];unfold Jw;have e:aU s.toS.m ⟨n,i,[]⟩=(r.cells.map Tt.toT)[i]? := by
   unfold aU;rw[show ah s.toS.m n=some r.toR from bi hr];show(holed (r.cells.map Tt.toT) r.hole)[i]? = _
   rw[a];rfl
  grind [Yy]
theorem sR{s:St}:∀{rs:List ResultVar}{us:List U}{k:List At->Prop},(∀vs,k vs->∃x,cG us vs=some x)->dC P s rs k->il s.toS rs=s.toS
 |[],_,_,_,_=>rfl
 |r::rs,us,k,hk,h=>by
  simp only[dC]at h;have step:∀{v:At},dC P s rs (λvs=>k (v::vs))->v.noRf=true/\il s.toS rs=s.toS:=by
   intro v hv;cases us with
   |nil=>grind [dY,cG]
   |cons u us=>
    cases hc:pQ u v with
    |none=>grind [dY,cG]
    |some a=>
     exact⟨(sK hc).1,sR (us:=us) (λvs b=>by grind [cG]) hv⟩
  simp only[il];cases r with
  |tmp t=>
   simp only[mm]at h;obtain⟨h1,h2⟩:=step h;have e:p5 s.toS (.tmp t)=s.toS:=by simp only[p5];rw[show aW s.toS.t t=(gtA s.t t).toV from dP t s.t];exact wj h1
   grind
  |cell a t=>
   simp only[mm]at h;split at h
   .rename_i p hp;split at h
    .rename_i r hr;split at h
     .rename_i hb;simp only[akP,Option.isNone_iff_eq_none]at hb;obtain⟨v,hv⟩:=Yf h;have e:p5 s.toS (.cell a t)=s.toS:=by
       simp only[p5];rw[jL hp]
       grind [At.toV,A1.toV,Tt.toT,Ag]
      rw[e];exact(step hv).2
     grind
    grind
   grind
variable {g:G} {a:Act} {w:World}
theorem zm{s:St}(h:R g s.toS a w)(n:Nm):∀i,R g (Af s n i).toS a w
 |0=>h
 |i+1=>Qa (zm h n i) _
theorem RJ{s:St}(h:R g s.toS a w)(r:ResultVar):R g (EZ s r).toS a w:=by
 cases r with
 |tmp t=>exact P9 h _
 |cell a' t=>grind [EZ,zm]
theorem sG:∀(rs:List ResultVar){s:St},R g s.toS a w->R g (kX s rs).toS a w
 |[],_,h=>h
 |r::rs,_,h=>sG rs (RJ h r)
theorem afF{s:St}(h:R g s.toS a w):∀p i,gtA s.t i=.one (.c (.pl p))->okP (toM s.m) p:=by
 intro p i e;obtain⟨H,γ,F,b⟩:=h;have:=b.t i
 rw[jL e]at this;obtain⟨_,h1,_⟩:=this;exact Oi h1
theorem Ge{rs:List ResultVar}{us:List U}{KK:Fl us->Prop}{K:AV->Prop}{t:St}(d:∀r,KK r->K (dp us r).toV)(h:pq P rs us KK t)(e:R g t.toS a w):∃c,wO P c rs K/\R g c a w:=by
 unfold pq at h;have b:=sG rs e
 refine⟨_,Q1 (us:=us) (Q:=KK) (sR (us:=us) ?_ h) d (mn (afF b) ?_ h),b⟩
 all_goals grind
theorem pU:∀(i:Nat)(us:List U)(x:Fl us),(BW i us x).map (λy=>(y.1,y.2.2.toV))=cO i (j6 us x)
 |_,[],_=>rfl
 |i,u::r,x=>by simp only[BW,List.map_cons,j6,cO,pU (i+1) r]
theorem gQ:∀(us:List U)(x:Fl us),(j6 us x).length=us.length
 |[],_=>rfl
 |u::r,x=>by simp only[j6,akY,gQ r]
end
def OL(s:S)(rs:List ResultVar)(K:List Sh->List (List D)->Prop):Prop:=
 match rs with
 |[.tmp t]=>match aW s.t t with
  |.one (.c (.rf ⟨n,0,[]⟩))=>match ah s.m n with
   |some ⟨false,[.ow sub l]⟩=>K sub l
   |_=>False
  |_=>False
 |_=>False
def ai8(rs:List ResultVar)(K:List Sh->List (List D)->Prop):Exit->S->Prop
 |.normal,s=>OL s rs K
 |.ret,s=>OL s rs K
 |_,_=>False
def Yv(a:List AV->List Sh->List (List D)->(List (List D)->Prop)->Prop):CK1:=λs ops k=>
 match ops with
 |[]=>False
 |o::os=>
  let s1:=pc s (os.map (ev s))
  match ev s1 o with
  |.one (.c (.rf ⟨r,0,[]⟩))=>match ah s1.m r with
   |some ⟨false,[.ow sub l]⟩=>(os.map (ev s1)).all AV.isFz=true /\
     a (os.map λx=>(ev s1 x).map T.canon) sub l (λl'=>k ⟨nu (bm r) s1.t,(r,⟨false,[.ow sub l']⟩)::aM (bm r) (bQ s1.m r)⟩ (.one (.c (.rf ⟨r,0,[]⟩))))
   |_=>False
  |_=>False
section
variable {P:Program}
theorem ZQ{f:Nat}{fn:Func}{c:Code}(hf:P.funcs[f]? = some fn) (au:(fn.name == "runtime.NumGoroutine")=false) (hb:fn.body=some c) (φ:List AV->List Sh->List (List D)->(List (List D)->Prop)->Prop)
  (ao:∀J sub l K,φ J sub l K->J.length+1<=fn.ntmps)
  (X:∀(g:G)J sub l K,g.nt=fn.ntmps->φ J sub l K->AW P g c (ai8 fn.results.toList (λd l'=>d=sub/\K l')) ⟨cO 0 (.one (.c (.rf ⟨.out 0,0,[]⟩))::J),[(.out 0,⟨false,[.ow sub l]⟩)]⟩):Con P f (Yv φ):=by
 refine⟨λargs w=>?_,?_⟩
 .simp_all[callFunc]
 intro g s a w H γ F ops k hX aK Y;cases ops with
 |nil=>exact Y.elim
 |cons o os=>
 unfold Yv at Y;dsimp only at Y;obtain⟨H1,F1,h1⟩:=tZ (os.map (ev s)) s H F hX;generalize pc s (os.map (ev s))=s1 at Y h1;have A:aI o=true/\os.all aI=true:=by grind
 split at Y
 rotate_left
 .grind
 rename_i r aq;split at Y
 rotate_left
 .grind
 rename_i sub l E;obtain⟨hfz,af⟩:=Y;have Q:=aL h1 A.1
 rw[aq]at Q;obtain⟨_,aJ,aO⟩:=Q;have hR:=h1.mem.roots _ (aj E)
 have ab:=hR
 unfold bv at ab;rw[if_neg (by simp)]at ab;obtain⟨v0,t0,hγr,z,aF⟩:=ab;simp only[List.cons.injEq,and_true]at z;subst z;have ar:a.eval o=v0:=by grind [plV,aH]
 have ap:=ao _ _ _ _ af
 rw[akV]at ap
 let B:Gam:=λn=>if n=.out 0 then .gh v0 else γ n
 let mc:Mm:=[(.out 0,⟨false,[.ow sub l]⟩)]
 let g1:G:=⟨fn.ntmps,w,H1,F1 r,λ_=>none,none,[]⟩
 have ad:B (.out 0)=.gh v0:=by rfl
 have aQ:bv w H1 B mc (.out 0) ⟨false,[.ow sub l]⟩ (F1 r):=by unfold bv;rw[if_neg (by simp)];exact⟨v0,_,ad,rfl,aF⟩
 have aw:∀c,F1 r c<=tot F1 s1.m c:=λc=>bD (F:=F1) (aj E) c
 let Fc:Nm->Fp:=λ_=>F1 r
 have R:∀c,tot Fc mc c=F1 r c:=λc=>(anK (F1 r c))
 have aB:Mem w H1 B mc Fc:=by
  refine⟨h1.mem.agree,λx hx=>?_,by simp[mc],λc=>by rw[R];exact alC (aw c) (h1.mem.le1 c),λc hc=>by rw[R]at hc;exact h1.mem.lt c (by grind),λc hc=>by rw[R]at hc;exact h1.mem.nofz c (by grind)⟩
  grind
 refine calls_of_wp hf hb (Code.wp_mono (λe a' w' hl=>?_) (X g1 _ _ _ _ rfl af _ w ⟨H1,B,Fc,?_⟩))
 .obtain⟨s',hq,H',γ',F',hX'⟩:=hl;have fin:OL s' fn.results.toList (λd l'=>d=sub/\k ⟨nu (bm r) s1.t,(r,⟨false,[.ow sub l']⟩)::aM (bm r) (bQ s1.m r)⟩ (.one (.c (.rf ⟨r,0,[]⟩)))) ->
    a'.defers=[]/\∃v,(results fn a'.tmps).run P w'=.ok v w'/\∃rr ac av al O ax,Ending.returned v=.returned rr/\k ac av/\AR w' al O ac.m av rr/\RX g ac a w' al O ax:=by
   intro hq;unfold OL at hq;split at hq
   rotate_left
   .grind
   rename_i t aS;split at hq
   rotate_left
   .grind
   rename_i n aC;split at hq
   rotate_left
   .grind
   rename_i d l' N;obtain⟨rfl,hk⟩:=hq;have ai:(results fn a'.tmps).run P w'=.ok (a'.tmps.getD t undef) w':=by simp_all[lr,Array.mapM_eq_mapM_toList,lq]
   have M:AR w' _ _ _ _ (a'.tmps.getD t undef):=hX'.t t
   rw[aC]at M;obtain⟨_,_,aR⟩:=M;have W:=hX'.mem.roots _ (aj N)
   unfold bv at W;rw[if_neg (by simp)]at W;obtain⟨Z,t1,aG,ak,am⟩:=W;simp only[List.cons.injEq,and_true]at ak;subst ak;have aV:a'.tmps.getD t undef=Z:=by grind [plV,aH]
   have p:=hX'.fr
   dsimp only[g1]at p;have hd:=tY h1 r
   have ag:(s1.drop r).m=aM (bm r) (bQ s1.m r):=rfl
   have u:=hd.mem
   rw[ag]at u;generalize hmd0:aM (bm r) (bQ s1.m r)=md at u hk;have I:∀c,tot F1 md c+F1 r c=tot F1 s1.m c:=λc=>by grind [bg,ms]
   have C:∀c,tot F1 md c≠0->w'.heap[c]? = w.heap[c]? := λc hc=>p.block c (h1.mem.lt c (by grind)) (by have:=I c;have:=h1.mem.le1 c;omega)
   have U:∀c,c<w.heap.size->F1 r c=0->H1 c=H' c:=by
    intro c hc h0
    funext o
    cases hh:H1 c o with
    |some y=>rw[p.hold c o y hh]
    |none=>
     cases aT:H' c o with
     |none=>rfl
     |some y=>
      rcases p.hnew c o (by grind) hh with h'|h'
      all_goals omega
   have S:=fj (w':=w') u C
   have aE:Mem w' H' γ md F1:=by refine⟨hX'.mem.agree,λx hx=>aZ S p.hold rfl (λc hc=>C c (by grind [bD])) (u.roots x hx),u.keys,u.le1,λc hc=>by grind [Mem.lt],λc hc o=>?_⟩;rw[<- U c (u.lt c hc) (by have:=I c;have:=h1.mem.le1 c;omega)];exact u.nofz c hc o
   have L:ah md r=none:=by rw[<- hmd0];exact JA h1.mem.keys
   have az:bv w' H' (upd γ r (.gh Z)) ((r,⟨false,[.ow d l']⟩)::md) r ⟨false,[.ow d l']⟩ (F' n):=by unfold bv;rw[if_neg (by simp)];exact⟨Z,_,dZ,rfl,am⟩
   have aP:∀c,F' n c<=tot F' s'.m c:=λc=>bD (F:=F') (aj N) c
   have aD:∀c,F' n c≠0->F1 r c≠0\/w.heap.size<=c:=λc hc=>p.tt c (by grind)
   have aa:∀c,F' n c≠0->tot F1 md c=0:=λc hc=>by
    rcases aD c hc with h'|h'
    .have:=I c;have:=h1.mem.le1 c;omega
    grind [Mem.lt]
   obtain⟨hM,aN⟩:=yg aE (n:=r) (rc:=.gh Z) (r:=⟨false,[.ow d l']⟩) (f:=F' n) L az (λc=>by
     by_cases hc:F' n c=0
     .grind [Mem.le1]
     have:=aa c hc;have:=hX'.mem.le1 c;grind)
    (λc hc=>⟨hX'.mem.lt c (by grind),hX'.mem.nofz c (by grind)⟩)
   have aA:Fr w H1 (tot F1 s1.m) w' H' (tot (upd F1 r (F' n)) ((r,⟨false,[.ow d l']⟩)::md)):=by
    refine⟨p.size,p.os,p.tape,p.output,λc hc h0=>p.block c hc (by grind),p.hold,λc o h2 h3=>?_,λc hc=>?_,p.nz⟩
    all_goals grind
   have ay:KeepsB (bm r) w γ s1.m w' (upd γ r (.gh Z)) ((r,⟨false,[.ow d l']⟩)::md):=by
    have aU:=mT (w:=w') (γ:=γ) (rc:=.gh Z) (r:=⟨false,[.ow d l']⟩) L
    have ae:KeepsB (bm r) w γ s1.m w γ md:=by grind [eD]
    constructor
    .intro q V hq;obtain⟨k1,k2⟩:=ae.pl q V hq;obtain⟨k3,k4⟩:=S.pl q k1
     grind [Keeps.pl]
    intro q V hq;obtain⟨k1,k2⟩:=ae.rf q V hq;obtain⟨k3,k4⟩:=S.rf q k1
    grind [Keeps.rf]
   refine⟨hX'.df.1,_,ai,_,_,_,H',upd γ r (.gh Z),_,rfl,hk,?_,hM,h1.fr.trans aA,h1.nt,⟨h1.df.1,λj b e=>?_,h1.df.2.2⟩,λi=>?_⟩
   .refine⟨λ_=>rfl,?_,?_⟩
    all_goals grind [gY,ah,plV,dZ]
   .have:=h1.df.2.1 j b e
    grind [mO]
   rw[oE];exact tM ay p.hold (h1.t i)
  cases e with
  |normal=>exact fin hq
  |ret=>exact fin hq
  |_=>exact hq.elim
 refine⟨aB,⟨akR _,rfl,rfl,rfl,λ_ _ _=>rfl,λ_ _ _ h=>h,λb o h2 h3=>absurd h3 h2,λc hc=>.inl (by grind),oO⟩,?_,⟨rfl,λi b' e=>by grind,ji h1⟩,λi=>?_⟩
 .grind
 have hget:∀x,(o::os)[i]? = some x->(((o::os).map a.eval).toArray++Array.replicate (fn.ntmps - ((o::os).map a.eval).toArray.size) undef).getD i undef=a.eval x:=by
  intro x hx;rw[al7,amA (by grind)]
  grind
 cases i with
 |zero=>
  rw[G.tv_none rfl,hget o rfl,ar];simp only[cO,aW,if_true];refine⟨λ_=>rfl,?_,?_⟩
  all_goals grind [gY,ah,plV]
 |succ i=>
  have an:aW (cO 0 (.one (.c (.rf ⟨.out 0,0,[]⟩))::os.map λx=>(ev s1 x).map T.canon)) (i+1)=((os.map λx=>(ev s1 x).map T.canon)[i]?).getD .any:=by grind [gU]
  show AR w H1 B mc (aW (cO 0 (.one (.c (.rf ⟨.out 0,0,[]⟩))::os.map λx=>(ev s1 x).map T.canon)) (i+1)) _
  rw[an,akT];cases hi:os[i]? with
  |none=>simp only[Option.map_none,Option.getD_none];trivial
  |some x=>
   have hx:=aL h1 (ak0.1 A.2 x (alU hi))
   simp only[Option.map_some,alK];have hz:(ev s1 x).isFz=true:=by grind
   rw[G.tv_none rfl,hget x (by grind)];exact iG fp (wZ (λ_ _ _ h=>h) hz hx)
end
section
variable {α β γ' δ:Type} {P:Program} {f:Nat} {fn:Func} {co:Code}
def fo0(c:Rw α)(n:Nat)(pre:List α->Prop)(f:List α->List α):List AV->List Sh->List (List D)->(List (List D)->Prop)->Prop
 |[],sub,l,K=>match dk c l with
  |some s=>sub=List.replicate n .fr/\pre s/\K ((f s).map c.enc)
  |_=>False
 |_,_,_,_=>False
def fo1(c:Rw α)(n:Nat)(a:Cd β)(pre:List α->β->Prop)(f:List α->β->List α):List AV->List Sh->List (List D)->(List (List D)->Prop)->Prop
 |[.one x],sub,l,K=>match dk c l,a.dec x with
  |some s,some x=>sub=List.replicate n .fr/\pre s x/\K ((f s x).map c.enc)
  |_,_=>False
 |_,_,_,_=>False
def fo2(c:Rw α)(n:Nat)(a:Cd β)(b:Cd δ)(pre:List α->β->δ->Prop)(f:List α->β->δ->List α):List AV->List Sh->List (List D)->(List (List D)->Prop)->Prop
 |[.one x,.one y],sub,l,K=>match dk c l,a.dec x,b.dec y with
  |some s,some x,some y=>sub=List.replicate n .fr/\pre s x y/\K ((f s x y).map c.enc)
  |_,_,_=>False
 |_,_,_,_=>False
end
attribute [push_cast] Yv fo0 fo1 fo2 OL ai8
variable{an:An}{ps:List U}
section
variable {P:Program} {g:G} {a:Act} {w:World} {H:FH} {γ:Gam} {F:Nm->Fp}
theorem Ez{m:Mm}{t:T}{f:Fp}{v:Value}(h:TR w H γ m t f v):rP (m.map (·.1)) t:=by
 have key:∀{n:Nm}{r:Root},ah m n=some r->n∈m.map (·.1):=λh=>am5 (f:=(·.1)) (aj h)
 cases t with
 |pl p=>
  obtain⟨_,h1,_⟩:=h;unfold bU at h1;split at h1
  .grind
  rename_i hr;exact key hr
 |rf p=>
  obtain⟨_,h1,_⟩:=h;unfold gY at h1;split at h1
  .grind
  rename_i hr;exact key hr
 |_=>trivial
theorem Pb{m:Mm}{x:AV1}(h:AR1 w H γ m x y):yC (m.map (·.1)) x:=by
 cases x with
 |c t=>exact Ez h
 |agg ts=>obtain⟨cs,_,_,h1⟩:=h;intro t a;obtain⟨i,hi,e⟩:=List.getElem_of_mem a;obtain⟨v,g',_,h2,_⟩:=EA h1 (i:=i) (t:=t) (by grind);exact Ez h2
theorem afT{m:Mm}{x:AV}(h:AR w H γ m x y):LV (m.map (·.1)) x:=by
 cases x with
 |one x=>exact Pb h
 |tup xs=>
  obtain⟨l,_,h1⟩:=h;have:∀(xs:List AV1)(a:List Value),ARs w H γ m xs a->∀x∈xs,yC (m.map (·.1)) x:=by
   intro xs;induction xs with
   |nil=>grind
   |cons x xs ih=>
    intro a h z b;cases a with
    |nil=>exact h.elim
    |cons y a=>
     rcases akX.1 b with rfl|b
     .exact Pb h.1
     exact ih a h.2 z b
  exact this xs _ h1
 |any=>trivial
theorem Wa{m:Mm}{r:Root}{f:Fp}(h:bv w H γ m n r f):∀t∈r.cells,rP (m.map (·.1)) t:=by
 intro t c;unfold bv at h;split at h
 .obtain⟨b,cs,ty,fz,g',_,_,_,_,h1,_⟩:=h;obtain⟨i,hi,e⟩:=List.getElem_of_mem c;obtain⟨v,a,_,h2,_⟩:=EA h1 (i:=i) (t:=t) (by grind);exact Ez h2
 grind [Ez]
theorem C7{s:S}(b:RX g s a w H γ F)(n:Nm):RX g ⟨s.t,s.m.map λx=>(x.1,if x.1=n then mE x.2 else x.2)⟩ a w H γ F:=by
 have hk:(s.m.map λx=>(x.1,if x.1=n then mE x.2 else x.2)).map (·.1)=s.m.map (·.1):=by simp_all
 refine V3 b (by rw[hk];exact b.mem.keys) (λx hx=>?_) (λi=>.inr ⟨.inl rfl,by rw[hk];exact afT (b.t i)⟩);rw[hk];obtain⟨y,hy,rfl⟩:=ak8.1 hx;refine⟨y.2,sS b.mem.keys hy,?_,Wa (b.mem.roots y hy)⟩
 grind [nW.canon,nW.refl]
theorem sM{sh:List Sh}{cells:List Tt}{j:Nm}(h:gZ sh cells=some ts):(cells.map Tt.toT).all (T.self j)=true/\∀r:Nm,(cells.map Tt.toT).map (T.ren r j)=cells.map Tt.toT:=by
 induction cells generalizing sh ts with
 |nil=>grind
 |cons c cells ih=>
  cases sh with
  |nil=>simp[gZ]at h
  |cons s sh=>
   have key:∀{ts'},gZ sh cells=some ts'->(T.self j c.toT=true/\∀r,T.ren r j c.toT=c.toT)->((c::cells).map Tt.toT).all (T.self j)=true/\∀r:Nm,((c::cells).map Tt.toT).map (T.ren r j)=(c::cells).map Tt.toT:=by grind
   cases s with
   |fr=>
    cases c with
    |d x=>
     simp only[gZ]at h;split at h
     .rename_i hr;exact key hr ⟨rfl,λ_=>rfl⟩
     grind
    |nil=>
     simp only[gZ]at h;split at h
     .rename_i hr;exact key hr ⟨rfl,λ_=>rfl⟩
     grind
    |_=>simp[gZ]at h
   |ow sub=>
    cases c with
    |ow s' u l=>
     simp only[gZ]at h;split at h
     .rename_i hr;exact key hr ⟨rfl,λ_=>rfl⟩
     grind
    |_=>simp[gZ]at h
theorem D3{a b:Nm}:∀{ts:List T}{sh:List Sh}{cs:List C},ts.map T.canon=(bf sh cs).map Tt.toT->ts.map (T.ren a b)=ts
 |[],_,_,_=>rfl
 |t::ts,sh,cs,h=>by
  cases sh with
  |nil=>simp[bf]at h
  |cons s r=>cases cs with
   |nil=>grind [bf]
   |cons c cs=>
    have hd:∃t0:Tt,(∀p,t0≠.pl p)/\bf (s::r) (c::cs)=t0::bf r cs:=by
     cases s with
     |fr=>exact⟨.d c,(λ_ h=>by cases h),(by rfl)⟩
     |ow sub=>cases c with
      |li u l=>exact⟨.ow sub u l,(λ_ h=>by cases h),rfl⟩
      |_=>exact⟨.d _,(λ_ h=>by cases h),rfl⟩
    obtain⟨t0,h0,h1⟩:=hd;rw[h1]at h;simp only[List.map_cons,List.cons.injEq]at h;rw[List.map_cons,D3 h.2]
    congr 1
    cases t with
    |pl p=>
     have:=h.1
     cases t0<;>grind [T.canon,Tt.toT]
    |_=>rfl
theorem adO:∀(us:List U)(x:Fl us),(dp us x).toV.isFz=true:=by
 have one:∀(u:U)(x:El u),(Ct u x).toV.isFz=true:=by
  intro u x;cases u with
  |st n=>simp only[Ct,A1.toV,AV1.isFz,al3,List.all_map];exact ak0.2 λ_ _=>rfl
  |_=>rfl
 have all:∀(us:List U)(x:Fl us),((dp.resL us x).map A1.toV).all AV1.isFz=true:=by
  intro us;induction us with
  |nil=>intro _;rfl
  |cons u r ih=>grind [dp.resL]
 intro us x
 match us,x with
 |[],_=>rfl
 |[u],x=>show(BH u x).toV.isFz=true;rw[vA];exact one u x
 |u::v::r,x=>exact all (u::v::r) x
theorem L3(s:St)(k:Nat)(sh:List Sh)(u:U):Ext s (wB s k sh u):=by grind [wB,CC,Ext.refl]
theorem V6{s:St}(h:R g s.toS a w)(k:Nat)(sh:List Sh)(u:U):R g (wB s k sh u).toS a w:=by grind [wB,Qb]
theorem Vh{e:En}(he:e.ok)(hm:e.P.follows .mixedOrders=true){f:Nat}{fn:Func}(hf:e.P.funcs[f]? = some fn) (A:(fn.name == "runtime.NumGoroutine")=false) (hb:fn.body.isSome=true)    {pre:List (El u)->Fl ps->Prop} {Fn:List (El u)->Fl ps->List (El u)}
  (I:Nat.ble (ps.length+1) fn.ntmps=true) (hc:ii fn.ntmps (fn.body.getD .skip)=true) (U:∀x y,pre x y->∀KK:List (El u)->Prop,KK (Fn x y)->Ws e fn an u ps x y KK):Cont e.P f (adB u ps pre Fn):=by
 have O:fn.body=some (fn.body.getD .skip):=by cases h:fn.body<;>grind
 let V:List AV->List Sh->List (List D)->(List (List D)->Prop)->Prop:=λz sub l K=>∃(x:List (El u))(y:Fl ps),z=j6 ps y/\sub=List.replicate (nc u) .fr/\l=x.map (ap u)/\pre x y/\K ((Fn x y).map (ap u))
 have o:Con e.P f (Yv V):=by
  refine ZQ hf A O V (λz sub l K⟨x,y,hx,_⟩=>by rw[hx,gQ];exact akZ I) (λg z sub l K hg⟨x,y,hx,B,hl,hp,hk⟩=>?_);subst hx;subst B;subst hl;have h:=U x y hp (λr=>r=Fn x y) rfl
  have h1:=sy (e:=⟨e.P,e.E,e.cs,e.sh,λ_ _=>False⟩) he hm (g:=g) _ an _ _ (by grind) h
  have e0:(⟨1,(0,0,.one (.c (.rf ⟨.out 0,0,[]⟩)))::BW 1 ps y,[(.out 0,0,⟨false,[.ow (List.replicate (nc u) .fr) u x],none⟩)]⟩:St).toS=⟨cO 0 (.one (.c (.rf ⟨.out 0,0,[]⟩))::j6 ps y),[(.out 0,⟨false,[.ow (List.replicate (nc u) .fr) (x.map (ap u))]⟩)]⟩:=by refine bF.S_ext ?_ rfl;simp only[List.map_cons,cO,pU];rfl
  rw[e0]at h1;refine AW.mono h1 (λex s' h'=>?_);have fin:∀t:St,Q2 fn.results.toList u (λr=>r=Fn x y) t->OL t.toS fn.results.toList (λG l'=>G=List.replicate (nc u) .fr/\K l'):=by
   intro t j;unfold Q2 at j;unfold OL;split at j
   .rename_i tt M;rw[M];dsimp only;split at j
    .rename_i n R;rw[jL R];simp only[At.toV,A1.toV,Tt.toT];split at j
     .rename_i sh u' l hr;rw[show ah t.toS.m n=some (⟨false,[.ow sh u' l],none⟩:Rt).toR from bi hr];split at j
      .rename_i l' hs d;obtain⟨N,rfl⟩:=js d;subst N;refine⟨jE hs,?_⟩
       grind
      grind
     grind
    grind
   grind
  cases ex with
  |normal=>obtain⟨t,rfl,j⟩:=h';exact fin t j
  |ret=>obtain⟨t,rfl,j⟩:=h';exact fin t j
  |exit i=>exact h'.elim (λt j=>j.2.elim)
  |panic c=>obtain⟨_,_,_,_,hf⟩:=h';grind
  |_=>exact h'.elim
 refine⟨o.run,λpk s ops k k' hk b=>?_,λg pk s a w H γ F1 ops k Z C b=>?_⟩
 .unfold adB at b|-;split at b
  .dsimp only at b|-;split at b
   .split at b
    .split at b
     .refine⟨b.1,hk _ _ ?_ b.2⟩;exact((L3 _ _ _ _).trans (eC _ _)).trans ⟨alN _,gO (akR _),((mQ _).trans (dQ (akR _))).trans (km _ _ _ (akR _))⟩
     omega
    omega
   omega
  omega
 unfold adB at b;split at b
 .rename_i t os;have p:os.all aI=true:=by grind
  dsimp only at b;obtain⟨H0,S,F0,h0⟩:=V6 (V7 Z) t (List.replicate (nc u) .fr) u;generalize wB s t (List.replicate (nc u) .fr) u=s0 at b h0;obtain⟨H1,F2,h1⟩:=iI (os.map (evA s0)) s0 H0 F0 h0;generalize cR s0 (os.map (evA s0))=s1 at b h1;have Q:=fZ h1
  split at b
  .rename_i r L;split at b
   .rename_i sh u' l q;split at b
    .rename_i l' x hs d hx;obtain⟨N,rfl⟩:=js d;subst N;obtain⟨X,c2,c3⟩:=kQ hx;refine Calls.mono (o.call g s1.toS a w H1 S F2 (.tmp t::os) (λs' av=>∃t' J,s'=t'.toS/\av=J.toV/\k t' J) h1 C ?_) ?_
     .unfold Yv;dsimp only;rw[uQ p,oA X];rw[show ev s1.toS (.tmp t)=(evA s1 (.tmp t)).toV from dP t s1.t,L];simp only[At.toV,A1.toV,Tt.toT];rw[show ah s1.toS.m r=some (⟨false,[.ow sh u' l],none⟩:Rt).toR from bi q];dsimp only[Rt.toR,holed,List.map_cons,List.map_nil,Tt.toT];refine⟨by grind [uQ],l,x,?_,jE hs,rfl,b.1,_,_,?_,?_,b.2⟩
      .have e:(os.map λx=>(ev s1.toS x).map T.canon)=(os.map (ev s1.toS)).map (AV.map T.canon):=by rw[al3];rfl
       grind [uQ]
      .refine(bF.S_ext (nr _ _ _) ?_).symm;simp only[List.map_cons]
       congr 1
       have:=eI (bm r) s1.nx (e8 s1.m r)
       rw[m8 _ _ Q]at this;exact this
      rfl
     rintro e' w' ⟨W,s',av,H',γ',F',q1,⟨t',J,rfl,rfl,q4⟩,q5,Y⟩
     exact .inl ⟨W,t',J,H',γ',F',q1,q4,q5,Y⟩
    grind
   grind
  grind
 grind
end
theorem Wp(i k:Nat):Nat.beq (i+100000) (k+100000)=Nat.beq i k:=by cases h:Nat.beq i k<;>grind [akU,Nat.beq_refl]
theorem KA(k:Nat)(t:List (Nat×Nat×At)):cg (shT t) (k+100000)=cg t k:=by induction t<;>grind [shT,cg,Wp]
theorem KB{k:Nat}(hk:k < 100000)(t:List (Nat×Nat×At)):cg (shT t) k=none:=by induction t<;>grind [akU,shT,cg]
theorem KC(k:Nat)(t:List (Nat×Nat×At)):cg (vD t) k=cg t (k+100000):=by
 induction t with
 |nil=>rfl
 |cons x r ih=>
  obtain⟨i,j,v⟩:=x;simp only[vD,cg];cases hb:Nat.ble 100000 i with
  |true=>
   have hi:100000<=i:=akZ hb
   have e:Nat.beq (i - 100000) k=Nat.beq i (k+100000):=by
    have:=Wp (i - 100000) k
    rw[Nat.sub_add_cancel hi]at this;exact this.symm
   dsimp only;rw[cg,e];cases Nat.beq i (k+100000)with
   |true=>rfl
   |false=>exact ih
  |false=>
   have hi:¬ 100000<=i:=λh=>by rw[Nat.ble_eq_true_of_le h]at hb;cases hb
   have e:Nat.beq i (k+100000)=false:=by
    cases h:Nat.beq i (k+100000)with
    |false=>rfl
    |true=>have:=akU h;omega
   rw[e];exact ih
variable{b:List (Nat×Nat×At)}
theorem ww{nx k:Nat}:∀{l:List At}{i:Nat},i+l.length<=k->cg (EI nx i l++b) k=cg b k
 |[],_,_=>rfl
 |v::r,i,h=>by
  have e:Nat.beq i k=false:=by grind [akU]
  simp only[EI,amU,cg,e];exact ww (by grind)
theorem xz{nx k:Nat}:∀{l:List At}{i:Nat}{v:At},i<=k->l[k-i]? = some v->cg (EI nx i l++b) k=some (nx,v)
 |[],_,_,_,h=>by simp at h
 |v::r,i,x,hi,h=>by
  simp only[EI,amU,cg];rcases Nat.lt_or_eq_of_le hi with a|rfl
  .have e:Nat.beq i k=false:=by grind [akU]
   rw[e];refine xz kQ1 ?_
   grind
  grind [Nat.beq_refl]
abbrev inS(s:St)(vs:List At):St:=⟨s.nx+1,EI s.nx 0 vs++shT s.t,s.m⟩
variable{vs:List At}
theorem afW{s:St}(hl:vs.length<=100000)(h:Ext (inS s vs) s'):Ext s ⟨s'.nx,vD s'.t,s'.m⟩:=by
 refine⟨alC (alN _) h.nx,λk j v hk hj=>?_,λn j r hk hj=>h.m n j r hk (Nat.lt_succ_of_lt hj)⟩;rw[KC]at hk;have:=h.t _ j v hk (Nat.lt_succ_of_lt hj)
 grind [ww,KA]
theorem JJ{P:Program}{s:St}{res:List ResultVar}{k k':St->At->Prop}(hl:vs.length<=100000)(hk:∀s' v,Ext s s'->k s' v->k' s' v)(a:Ext (inS s vs) s')(h:rV P res k s'):rV P res k' s':=by grind [rV,afW]
variable{nt:Nat}{w':World}
section
variable {g:G} {a:Act} {w:World} {H:FH} {γ:Gam} {F:Nm->Fp}
theorem Z0{s:St}(c:RX g s.toS a w H γ F){b:List Value}(hl:b.length=vs.length)(hv:∀(i:Nat) (v:At) (y:Value),vs[i]? = some v->b[i]? = some y->AR w H γ s.toS.m v.toV y)(k:vs.length<=nt)(h:nt<=100000) :
  RX ⟨nt,g.w0,g.H0,g.own0,g.out,some (g.tv a),[]⟩ (inS s vs).toS ⟨b.toArray++Array.replicate (nt-b.toArray.size) undef,[]⟩ w H γ F:=by
 have f:(b.toArray++Array.replicate (nt-b.toArray.size) undef).size=nt:=by grind
 refine⟨c.mem,c.fr,f,⟨rfl,c.df.2⟩,λi=>?_⟩;rw[show aW (inS s vs).toS.t i=(gtA (EI s.nx 0 vs++shT s.t) i).toV from dP i _,kq];rcases al8 i vs.length with hi|hi
 .rw[xz (alL i) (v:=vs[i]) (by grind)];have d:i<b.length:=by omega
  rw[G.tv_lt (by grind)];have e:(b.toArray++Array.replicate (nt-b.toArray.size) undef).getD i undef=b[i]:=by simp_all[amA]
  rw[e];exact hv i _ _ (akQ hi) (akQ d)
 rw[ww kQ1];rcases al8 i 100000 with hb|hb
 .rw[KB hb];trivial
 obtain⟨j,rfl⟩:∃j,i=j+100000:=⟨i - 100000,by omega⟩
 rw[KA,<- kq];have e:G.tv ⟨nt,g.w0,g.H0,g.own0,g.out,some (g.tv a),[]⟩ ⟨b.toArray++Array.replicate (nt-b.toArray.size) undef,[]⟩ (j+100000)=g.tv a j:=by
  unfold G.tv;dsimp only;rw[if_neg (by grind [TB])]
  simp_all[TB]
 rw[e,<- dP];exact c.t j
theorem af1{s:St}(d:RX g s.toS a w H γ F){ops:List Operand}(b:ops.all aI=true)(e:ops.length<=nt)(c:nt<=100000) :
  RX ⟨nt,g.w0,g.H0,g.own0,g.out,some (g.tv a),[]⟩ (inS s (ops.map (evA s))).toS ⟨(ops.map a.eval).toArray++Array.replicate (nt - (ops.map a.eval).toArray.size) undef,[]⟩ w H γ F:=by
 refine Z0 d (by simp) (λi v y hv hy=>?_) (by grind) c;rw[akT]at hv hy;obtain⟨x,hx,rfl⟩:=ak5.1 hv;rw[hx]at hy;obtain rfl:=Option.some.inj hy;have hop:=ak0.1 b x (alU hx)
 have:=aL d hop
 grind [ak]
theorem It{s0:S}(b:RX g s0 a w H γ F)(c:nt<=100000){a':Act}{H':FH}{γ':Gam}{F':Nm->Fp}(h:RX ⟨nt,g.w0,g.H0,g.own0,g.out,some (g.tv a),[]⟩ s'.toS a' w' H' γ' F') :
  RX g (⟨s'.nx,vD s'.t,s'.m⟩:St).toS a w' H' γ' F':=by
 refine⟨h.mem,h.fr,b.nt,⟨b.df.1,h.df.2⟩,λi=>?_⟩;rw[show aW (⟨s'.nx,vD s'.t,s'.m⟩:St).toS.t i=(gtA (vD s'.t) i).toV from dP i _,kq,KC,<- kq,<- dP];have:=h.t (i+100000)
 have e:G.tv ⟨nt,g.w0,g.H0,g.own0,g.out,some (g.tv a),[]⟩ a' (i+100000)=g.tv a i:=by
  have hs:a'.tmps.size=nt:=h.nt
  unfold G.tv;dsimp only;rw[if_neg (by grind [TB])]
  simp_all[TB]
 rw[e]at this;exact this
theorem Ye{P:Program}{v:A1}(h:Yd P m t x=some v):lc P m t x (λw=>w=.one v):=by unfold Yd at h;grind [lc]
theorem Ga{P:Program}{s:St}(h:RX g s.toS a w H γ F):∀{rs:List ResultVar}{xs:List A1},Le P s rs=some xs->∃b,(rs.mapM (lq a.tmps)).run P w=.ok b w/\ARs w H γ (toM s.m) (xs.map A1.toV) b/\b.length=rs.length/\xs.length=rs.length
 |[],xs,e=>by simp only[Le,akO]at e;subst e;exact⟨[],rfl,trivial,rfl,rfl⟩
 |.tmp t::r,xs,e=>by
  simp only[Le]at e;split at e
  .rename_i x k h1 h2 h3;simp only[akO]at e;subst e;obtain⟨b,k1,k2,k3,k4⟩:=Ga (P:=P) h h2;have f:=h.t t
   rw[show aW s.toS.t t=(gtA s.t t).toV from dP t s.t,h1,G.tv_lo (show t<TB from akZ h3)]at f;have j:((r.mapM (lq a.tmps)).run P w)=.ok b w:=k1
   refine⟨a.tmps.getD t undef::b,?_,⟨f,k2⟩,by simp[k3],by simp[k4]⟩
   simp_all[lq]
  grind
 |.cell c t::r,xs,e=>by
  simp only[Le]at e;split at e
  .rename_i x k h1 h2 h3;simp only[akO]at e;subst e;obtain⟨b,k1,k2,k3,k4⟩:=Ga (P:=P) h h2;have f:=h.t c
   rw[show aW s.toS.t c=(gtA s.t c).toV from dP c s.t,G.tv_lo (show c<TB from akZ h3)]at f;have hl:lc P s.m t (gtA s.t c) (λv=>v=.one x):=Ye h1
   obtain⟨z,d,B,_,i,n,o,rfl,rfl⟩:=AF (P:=P) h.mem (AG (λq hq=>by rw[hq]at f;exact Oi f.2.1) hl) f
   replace i:=i w (λ_ _=>rfl)
   have j:((r.mapM (lq a.tmps)).run P w)=.ok b w:=k1
   have l:(lq a.tmps (.cell c t)).run P w=.ok z w:=by
    simp only[lq];simp only[Instr.loadAt]at i;generalize a.tmps.getD c undef=u at i;cases u with
    |pointer ad=>
     cases ad with
     |some ad=>grind [asAddr,Instr.sureAddr]
     |none=>simp[Instr.sureAddr]at i
    |_=>simp[Instr.sureAddr]at i
   refine⟨z::b,?_,⟨n,k2⟩,by simp[k3],by simp[k4]⟩
   simp_all
  grind
theorem acA{P:Program}{fn:Func}{s:St}{k:St->At->Prop}(h:RX g s.toS a w H γ F)(hk:rV P fn.results.toList k s) :
  ∃y v,(results fn a.tmps).run P w=.ok y w/\AR w H γ (toM s.m) v.toV y/\k ⟨s.nx,vD s.t,s.m⟩ v:=by
 unfold rV at hk;split at hk
 .rename_i xs hx;obtain⟨b,k1,k2,k3,k4⟩:=Ga (P:=P) h hx;have c:(results fn a.tmps).run P w=.ok (if h:b.toArray.size=1 then b.toArray[0]else .tuple b.toArray) w:=by simp_all[lr,Array.mapM_eq_mapM_toList]
  refine⟨_,_,c,?_,hk⟩
  match xs,b,k2 with
  |[],[],_=>exact⟨#[],by simp,trivial⟩
  |[x],[y],k2=>exact k2.1
  |f::i::xs,d::e::b,k2=>exact⟨(d::e::b).toArray,by simp,by omega⟩
 grind
end
theorem wP{P:Program}{f:Nat}{fn:Func}(hf:P.funcs[f]? = some fn) (a:(fn.name == "runtime.NumGoroutine")=false) (hb:fn.body.isSome=true):∀args w,(callFunc f args).run P w=.ok (.enter f args) w:=by
 intro args w;have h1:fn.name ≠ "runtime.NumGoroutine" := by grind
 obtain⟨c,h⟩:=Option.isSome_iff_exists.1 hb
 simp_all[callFunc]
theorem Gz{e:En}(B:e.ok)(hm:e.P.follows .mixedOrders=true){f:Nat}{fn:Func}(hf:e.P.funcs[f]? = some fn) (l:(fn.name == "runtime.NumGoroutine")=false) (hb:fn.body.isSome=true) 
  (hc:ii fn.ntmps (fn.body.getD .skip)=true) (r:Nat.ble fn.ntmps 100000=true):Cont e.P f (M9 e fn an):=by
 have A:fn.body=some (fn.body.getD .skip):=by cases h:fn.body<;>grind
 have d:=akZ r
 refine⟨wP hf l hb,λpk s ops k k' hk b=>?_,λg pk s a w H γ F ops k u o b=>?_⟩
 .unfold M9 at b|-;split at b
  .rename_i j;have hl:(ops.map (evA s)).length<=100000:=by rw[akV];exact alC (akZ j) d
   exact Gl (e:=⟨e.P,e.E,e.cs,e.sh,λv s=>pk v ⟨s.nx,vD s.t,s.m⟩⟩) B _ an _ ⟨rV e.P fn.results.toList k,λ_ _=>False,rV e.P fn.results.toList k⟩ ⟨rV e.P fn.results.toList k',λ_ _=>False,rV e.P fn.results.toList k'⟩ (λs' z h=>JJ hl hk z h) (λ_ _ _ h=>h) (λs' z h=>JJ hl hk z h) b
  omega
 unfold M9 at b;split at b
 .rename_i j;have p:=akZ j
  refine calls_of_wp hf A (Code.wp_mono (λx a' w' hl=>?_) (sy (e:=⟨e.P,e.E,e.cs,e.sh,λv s=>pk v ⟨s.nx,vD s.t,s.m⟩⟩) B hm (g:=⟨fn.ntmps,g.w0,g.H0,g.own0,g.out,some (g.tv a),[]⟩) _ an _ _ hc b _ w ⟨H,γ,F,af1 u o p d⟩));obtain⟨s',hq,H',γ',F',hX'⟩:=hl;have fin:∀t:St,s'=t.toS->rV e.P fn.results.toList k t->a'.defers=[]/\∃v,(results fn a'.tmps).run e.P w'=.ok v w'/\pP g a pk k (.returned v) w':=by
   rintro t rfl n
   obtain⟨y,v,k1,k2,k3⟩:=acA (P:=e.P) hX' n;exact⟨hX'.df.1,y,k1,.inl ⟨y,_,v,H',γ',F',rfl,k3,k2,It u d hX'⟩⟩
  cases x with
  |normal=>obtain⟨t,q,n⟩:=hq;exact fin t q n
  |ret=>obtain⟨t,q,n⟩:=hq;exact fin t q n
  |exit i=>obtain⟨t,q,n⟩:=hq;grind
  |panic c=>obtain⟨v,t,rfl,rfl,hv⟩:=hq;exact⟨hX'.df.1,.inr ⟨v,_,rfl,hv,H',γ',F',It u d hX'⟩⟩
  |_=>exact hq.elim
 grind
theorem Vi{P:Program}{f t:Nat}{C D:CKt}(h1:Cont P f C)(h2:Cont P f D):Cont P f (adT t C D):=by
 refine⟨h1.run,λpk s ops k k' hk hc=>?_,λg pk s a w H γ F ops k c b hc=>?_⟩
 .unfold adT at hc|-;split at hc
  .split at hc
   .exact h1.ext pk s _ k k' hk hc
   exact h2.ext pk s _ k k' hk hc
  exact h2.ext pk s _ k k' hk hc
 unfold adT at hc
 grind [Cont.call,Cont.call]
section
variable {g:G} {s1:S} {a:Act} {w:World} {H1:FH} {γ:Gam} {F1:Nm->Fp}
theorem ZX(h1:RX g s1 a w H1 γ F1){w':World}{e:FH}{tt:Fp}(c:Fr w H1 (λ_=>0) w' e tt)(k:∀b o y,e b o=some y->RdV w' b o y):RX g s1 a w' e γ F1:=by
 have hold:∀b,b<w.heap.size->w'.heap[b]? = w.heap[b]? := λb hb=>c.block b hb rfl
 have hnew:∀b,b<w.heap.size->H1 b=e b:=by
  intro b hb
  funext o
  cases hc:H1 b o with
  |some y=>rw[c.hold b o y hc]
  |none=>
   cases n:e b o with
   |none=>rfl
   |some y=>
    rcases c.hnew b o (by grind) hc with h'|h'
    all_goals omega
 have d:∀b,tot F1 s1.m b≠0->w'.heap[b]? = w.heap[b]? := λb hb=>hold b (h1.mem.lt b hb)
 have j:=fj (w':=w') h1.mem d
 have f:Mem w' e γ s1.m F1:=by refine⟨k,λx hx=>aZ j c.hold rfl (λb hb=>d b (by grind [bD])) (h1.mem.roots x hx),h1.mem.keys,h1.mem.le1,λb hb=>by have:=h1.mem.lt b hb;grind,λb hb o=>?_⟩;rw[<- hnew b (h1.mem.lt b hb)];exact h1.mem.nofz b hb o
 have l:Fr w H1 (tot F1 s1.m) w' e (tot F1 s1.m):=
  ⟨c.size,c.os,c.tape,c.output,λb hb _=>hold b hb,c.hold,λb o h2 h3=>by grind,λb hb=>.inl hb,c.nz⟩
 exact j4 h1 f l (λi=>dw j c.hold (h1.t i)) (λ_=>rfl)
theorem Ip(a:∀b o y,H1 b o=some y->RdV w b o y)(c:Globs H1){args:List Value}{x:Fl ps}(hl:args.length=ps.length)(ha:∀(i:Nat) v,(j6 ps x)[i]? = some v->∃y,args[i]? = some y/\AR w H1 γ [] v y)(d:ps.length<=nt) :
  RX ⟨nt,w,H1,λ_=>0,λ_=>none,none,[]⟩ (EW ps x).toS ⟨args.toArray++Array.replicate (nt-args.toArray.size) undef,[]⟩ w H1 γ F1:=by
 rw[show(EW ps x).toS=⟨cO 0 (j6 ps x),[]⟩from bF.S_ext (pU 0 ps x) rfl];refine⟨⟨a,λx hx=>(by cases hx),by simp,λb=>alL _,λb hb=>absurd rfl hb,λb hb=>absurd rfl hb⟩,⟨akR _,rfl,rfl,rfl,λ_ _ _=>rfl,λ_ _ _ h=>h,λb o h2 h3=>absurd h3 h2,λb hb=>absurd rfl hb,oO⟩,by simp;omega,⟨rfl,λj b e=>by simp at e,c⟩,λi=>?_⟩;show AR w H1 γ [] (aW (cO 0 (j6 ps x)) i) (Array.getD _ i undef)
 rw[gU];simp only[alL,if_true,Nat.sub_zero];cases hi:(j6 ps x)[i]? with
 |none=>trivial
 |some v=>
  obtain⟨y,h1,h2⟩:=ha i v hi;have e:(args.toArray++Array.replicate (nt-args.toArray.size) undef).getD i undef=y:=by rw[al7,amA (by simpa using bT h1)];simp[h1]
  rw[e];exact h2
end
def Mo{α β γ:Type}(a:α->(β->Prop)->γ->Prop):Prop:=∀x K K' P,(∀y,K y->K' y)->a x K P->a x K' P
theorem Ep{P:Program}{f:Nat}{rs:List U}{p:Fl ps->(Fl rs->Prop)->(Value->Prop)->Prop}(mo:Mo p)(l:∀args w,(callFunc f args).run P w=.ok (.enter f args) w)
  (c:∀(x:Fl ps)K z(args:List Value)(w:World)(H:FH)(γ:Gam),p x K z->args.length=ps.length->(∀(i:Nat)v,(j6 ps x)[i]? = some v->∃y,args[i]? = some y/\AR w H γ [] v y)->Globs H->(∀b o y,H b o=some y->RdV w b o y) ->
   Calls P f args.toArray w (λe w'=>∃d tt,Fr w H (λ_=>0) w' d tt/\(∀b o y,d b o=some y->RdV w' b o y)/\((∃r y,e=.returned r/\K y/\AR w' d γ [] (dp rs y).toV r)\/∃v,e=.panicked (chn v)/\z v))):Cont P f (phT ps rs p):=by
 refine⟨l,λpk s ops k k' hk hc=>?_,λg pk s a w H γ F1 ops k A j hc=>?_⟩
 .unfold phT at hc|-;dsimp only at hc|-;split at hc
  .exact mo _ _ _ _ (λy hy=>hk _ _ (eC _ _) hy) hc
  exact hc.elim
 unfold phT at hc;dsimp only at hc;obtain⟨H1,t,h1⟩:=iI (ops.map (evA s)) s H F1 A;generalize cR s (ops.map (evA s))=s1 at hc h1;split at hc
 .rename_i x hx;obtain⟨C,D,u⟩:=kQ hx;have hl:ops.length=ps.length:=by
   have:=congrArg List.length u
   grind [gQ]
  refine(c x _ _ (ops.map a.eval) w H1 γ hc (by simpa using hl) (λi v hi=>?_) (ji h1) h1.mem.agree).mono ?_
  .rw[<- u,akT,akT,akT]at hi;cases m:ops[i]? with
   |none=>simp[m]at hi
   |some y=>
    have hop:=ak0.1 j y (alU m)
    have hy:=aL h1 hop
    rw[ak hop]at hy;have B:(evA s1 y).toV.isFz=true:=by grind
    rw[m]at hi;obtain rfl:=Option.some.inj hi;exact⟨a.eval y,by simp[m],iG fp (wZ (λ_ _ _ h=>h) B hy)⟩
  rintro e w' ⟨d,tt,q,n,h⟩
  have hb:=ZX h1 q n
  rcases h with⟨r,y,rfl,hk,har⟩|⟨v,rfl,hk⟩
  .exact .inl ⟨r,s1,_,d,γ,t,rfl,hk,wZ (λ_ _ _ h=>h) (adO _ _) har,hb⟩
  exact .inr ⟨v,s1,rfl,hk,d,γ,t,hb⟩
 exact hc.elim
theorem yK{P:Program}{f:Nat}{rs:List U}{d b:Fl ps->(Fl rs->Prop)->(Value->Prop)->Prop}(mo:Mo b)(hi:∀x K e,b x K e->d x K e)(h:Cont P f (phT ps rs d)):Cont P f (phT ps rs b):=by
 have key:∀pk s ops k,phT ps rs b pk s ops k->phT ps rs d pk s ops k:=by
  intro pk s ops k hc;unfold phT at hc|-;dsimp only at hc|-;split at hc
  .exact hi _ _ _ hc
  exact hc
 refine⟨h.run,λpk s ops k k' hk hc=>?_,λg pk s a w H γ F1 ops k i c hc=>h.call g pk s a w H γ F1 ops k i c (key _ _ _ _ hc)⟩;unfold phT at hc|-;dsimp only at hc|-;split at hc
 .exact mo _ _ _ _ (λy hy=>hk _ _ (eC _ _) hy) hc
 exact hc.elim
theorem Q4{g:G}{P:Program}{fn:Func}{rs:List U}{K:Fl rs->Prop}{t:St}{a':Act}(u:pq P fn.results.toList rs K t)(m:R g t.toS a' w')(h0:g.ex=none) :
  ∃v c tt y,(results fn a'.tmps).run P w'=.ok v w'/\Fr g.w0 g.H0 g.own0 w' c tt/\(∀b o y,c b o=some y->RdV w' b o y)/\K y/\(∀γ,AR w' c γ [] (dp rs y).toV v)/\a'.defers=g.dfs:=by
 obtain⟨s2,e,c,n,x,f⟩:=Ge (K:=λr=>∃y,r=(dp rs y).toV/\K y) (λr hr=>⟨r,rfl,hr⟩) u m;obtain⟨y,v,A,k,z,p,d,s,i,j,l,q⟩:=F9 f h0 e;refine⟨y,k,_,j,p,d.fr,d.mem.agree,q,λγ=>?_,d.df.1⟩;rw[<- l];exact iG fp (wZ (λ_ _ _ h=>h) i s)
theorem yI{e:En}(L:e.ok)(hm:e.P.follows .mixedOrders=true){f:Nat}{fn:Func}(hf:e.P.funcs[f]? = some fn) (j:(fn.name == "runtime.NumGoroutine")=false) (hb:fn.body.isSome=true)  {rs:List U} {p:Fl ps->(Fl rs->Prop)->(Value->Prop)->Prop} (mo:Mo p)
  (m:Nat.ble ps.length fn.ntmps=true) (hc:ii fn.ntmps (fn.body.getD .skip)=true) (B:∀x K n,p x K n->∃K' d,(∀y,K' y->K y)/\(∀v,d v->n v)/\zA e fn an ps rs x K' d):Cont e.P f (phT ps rs p):=by
 have A:fn.body=some (fn.body.getD .skip):=by cases h:fn.body<;>grind
 refine Ep mo (wP hf j hb) λx K n args w H γ hp hl ha G z=>?_
 have hX0:=Ip (F1:=λ_ _=>0) z G hl ha (nt:=fn.ntmps) (akZ m)
 obtain⟨K',d,J,q,h⟩:=B x K n hp;refine calls_of_wp hf A (Code.wp_mono (λex a' w' hl=>?_) (sy (e:=⟨e.P,e.E,e.cs,e.sh,λv _=>d v⟩) L hm _ an _ _ hc h _ w ⟨H,γ,_,hX0⟩));obtain⟨s',hq,C⟩:=hl;have fin:∀t:St,s'=t.toS->pq e.P fn.results.toList rs K' t->a'.defers=[]/\∃v,(results fn a'.tmps).run e.P w'=.ok v w'/\∃l tt,Fr w H (λ_=>0) w' l tt/\(∀b o y,l b o=some y->RdV w' b o y)/\((∃r y,Ending.returned v=.returned r/\K y/\AR w' l γ [] (dp rs y).toV r)\/∃u,Ending.returned v=.panicked (chn u)/\n u):=by
  rintro t rfl g
  obtain⟨v,l,tt,y,k,I,N,D,O,M⟩:=Q4 g C rfl;exact⟨M,v,k,l,tt,I,N,.inl ⟨v,y,rfl,J y D,O γ⟩⟩
 cases ex with
 |normal=>obtain⟨t,k,g⟩:=hq;exact fin t k g
 |ret=>obtain⟨t,k,g⟩:=hq;exact fin t k g
 |exit i=>obtain⟨t,k,g⟩:=hq;exact g.elim
 |panic c=>obtain⟨v,t,rfl,rfl,hv⟩:=hq;obtain⟨H',γ',F',hX'⟩:=C;exact⟨hX'.df.1,H',_,hX'.fr,hX'.mem.agree,.inr ⟨v,rfl,q v hv⟩⟩
 |_=>exact hq.elim
theorem yJ{e:En}(i:e.ok)(hm:e.P.follows .mixedOrders=true){f:Nat}{fn:Func}(hf:e.P.funcs[f]? = some fn) (a:(fn.name == "runtime.NumGoroutine")=false) (hb:fn.body.isSome=true)  {rs:List U} {d:Fl ps->(Fl rs->Prop)->(Value->Prop)->Prop} (mo:Mo d)
  (b:Nat.ble ps.length fn.ntmps=true) (hc:ii fn.ntmps (fn.body.getD .skip)=true) (g:∀x KK c,d x KK c->zA e fn an ps rs x KK c):Cont e.P f (phT ps rs d):=
 yI i hm hf a hb mo b hc λx K c h=>⟨K,c,λ_ h=>h,λ_ h=>h,g x K c h⟩
theorem Pi{P:Program}{f:Nat}{rs:List U}{F:Fl ps->Fl rs}(h:Cont P f (lk ps rs (λ_=>True) F)):Cont P f (tc ps rs F):=yK (λ_ _ _ _ h h'=>h _ h') (λ_ _ _ h=>⟨trivial,h⟩) h
end Go.Am
end

section
namespace Go.Am
open Go Go.RowKit Go.Proofs
variable{H:FH}{f:Nat}{l:a8}{ps rs:List U}{γ:Gam}{pre:Fl ps->Prop}
section
variable {P:Program}
theorem VO{w w':World}{a:FH}(hb:Below w.heap.size w w')(e:∀b o y,H b o=some y->a b o=some y)(hn:∀b o,a b o≠none->H b o=none->w.heap.size<=b)(d:∀b o x l c,a b o=some (.c (.slice x l c))->H b o=none->Thawed w' b):Fr w H (λ_=>0) w' a (λ_=>0):=⟨hb.size,hb.os,hb.tape,hb.output,λb h _=>hb.block b h,e,λb o h2 h3=>.inr (hn b o h2 h3),λb hb=>absurd rfl hb,λb h0=>h0.of_block (hb.block b h0.lt),d⟩
theorem w6{post:Fl ps->Fl rs->Prop}(g:∀args w,(callFunc f args).run P w=.ok (.enter f args) w)
  (a:∀(x:Fl ps)(args:List Value)(w:World)(H:FH)(γ:Gam),pre x->args.length=(j6 ps x).length->(∀(i:Nat)v,(j6 ps x)[i]? = some v->∃y,args[i]? = some y/\AR w H γ [] v y)->Globs H ->
   (∀b o y,H b o=some y->RdV w b o y) ->
   Calls P f args.toArray w (λe w'=>∃r d y,e=.returned r/\post x y/\Below w.heap.size w w'/\(∀b o y,H b o=some y->d b o=some y)/\(∀b o,d b o≠none->H b o=none->w.heap.size<=b)/\(∀b o x l c,d b o=some (.c (.slice x l c))->H b o=none->Thawed w' b) /\
    (∀b o y,d b o=some y->RdV w' b o y)/\AR w' d γ [] (dp rs y).toV r)):Cont P f (phT ps rs λx K _=>pre x/\∀y,post x y->K y):=
 Ep (λ_ _ _ _ h h'=>⟨h'.1,λy hy=>h y (h'.2 y hy)⟩) g λx K n args w H γ hp hl ha k j=>(a x args w H γ hp.1 (hl.trans (gQ ps x).symm) ha k j).mono λe w'⟨r,d,y,h1,hy,h2,h3,h4,m,h5,h6⟩=>⟨d,_,VO h2 h3 h4 m,h5,.inl ⟨r,y,h1,hp.2 y hy,h6⟩⟩
theorem kI{F:Fl ps->Fl rs}(g:∀args w,(callFunc f args).run P w=.ok (.enter f args) w)
  (a:∀(x:Fl ps)(args:List Value)(w:World)(H:FH)(γ:Gam),pre x->args.length=(j6 ps x).length->(∀(i:Nat)v,(j6 ps x)[i]? = some v->∃y,args[i]? = some y/\AR w H γ [] v y)->Globs H ->
   (∀b o y,H b o=some y->RdV w b o y) ->
   Calls P f args.toArray w (λe w'=>∃r d,e=.returned r/\Below w.heap.size w w'/\(∀b o y,H b o=some y->d b o=some y)/\(∀b o,d b o≠none->H b o=none->w.heap.size<=b)/\(∀b o x l c,d b o=some (.c (.slice x l c))->H b o=none->Thawed w' b) /\
    (∀b o y,d b o=some y->RdV w' b o y)/\AR w' d γ [] (dp rs (F x)).toV r)):Cont P f (lk ps rs pre F):=
 yK (λ_ _ _ _ h h'=>⟨h'.1,h _ h'.2⟩) (λx K m h=>⟨h.1,λy e=>e ▸ h.2⟩) (w6 (post:=λx y=>y=F x) g λx args w H γ hp hl ha k j=>(a x args w H γ hp hl ha k j).mono λe w'⟨r,d,h1,h⟩=>⟨r,d,_,h1,rfl,h⟩)
theorem mq{fn:Func}(hf:P.funcs[f]? = some fn) (a:(fn.name == "runtime.NumGoroutine")=false) (hb:fn.body.isSome=true) (args:Array Value) (w:World):(callFunc f args).run P w=.ok (.enter f args) w:=by
 have h1:fn.name ≠ "runtime.NumGoroutine" := by grind
 cases hc:fn.body with
 |none=>grind
 |some c=>simp_all[callFunc]
theorem lK{w:World}{y:Value}(h:AR w H γ [] (.one (.c (.d (.str l)))) y):y=.string ⟨l.toArray⟩/\l.length<=BIG:=by obtain⟨_,m,h⟩:=h;cases m<;>exact h
theorem U7{w:World}{m:Mm}(h:l.length<=BIG):AR w H γ m (.one (.c (.d (.str l)))) (.string ⟨l.toArray⟩):=⟨λ_=>rfl,0,rfl,h⟩
theorem qW(l:a8):(⟨l.toArray⟩:ByteArray).data.toList=l:=by simp
theorem ui(l:a8):(⟨l.toArray⟩:ByteArray).size=l.length:=by rfl
theorem Qf{args:List Value}{x y:AV}{w:World}(hl:args.length=2)(ha:∀(i:Nat) v,[x,y][i]? = some v->∃y,args[i]? = some y/\AR w H γ [] v y):∃u v,args=[u,v]/\AR w H γ [] x u/\AR w H γ [] y v:=by
 match args,hl with
 |[u,v],_=>
  obtain⟨u',h1,h2⟩:=ha 0 x rfl;obtain⟨a,h3,h4⟩:=ha 1 y rfl
  grind
theorem IJ(B:Nat)(w:World)(n:Nat):Below B w (w.drewN n):=⟨rfl,rfl,rfl,akR _,λ_ _=>rfl⟩
theorem DA{w:World}(c:Globs H)(a:∀b o y,H b o=some y->RdV w b o y){k:Nat}(hk:acZ=some k):∃n,w.cell? ⟨k,0,none⟩=some (.int .i64 n):=by
 obtain⟨n,m,h⟩:=c.2 k hk;obtain⟨y,h1,h2⟩:=h 0 (by simp);have h2:FD H m (.int .i64 n) y:=h2
 have:y=.int .i64 n:=by cases m<;>exact h2.1
 subst this;exact⟨n,a k 0 _ h1⟩
end
end Go.Am
end
