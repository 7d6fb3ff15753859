/-
  Part 1: AmCore · AmGlob · AmMem · AmState · AmStore · AmPut · AmPutTwo · AmPutThree · AmTake · AmTakeTwo · AmRoots · AmCode · AmOps.
-/
import Derived.WalkKit
import Derived.ProofKit
set_option linter.unusedSimpArgs false
set_option linter.unusedVariables false
set_option linter.unusedSectionVars false
set_option linter.unnecessarySimpa false
section
namespace Go.Am
inductive D where
 | int (k:IntKind) (n:Int)
 | bool (b:Bool)
 | str (l:List UInt8)
 | li (l:List (List D))
 | v (x:Value)
 | any
 deriving Inhabited
inductive Sh where
 | fr
 | ow (sub:List Sh)
 deriving Inhabited
inductive Nm where
 | loc (i:Nat)
 | out (i:Nat)
 | gh (i:Nat)
 deriving DecidableEq,Inhabited
def Nm.isOut:Nm->Bool
 | .out _=>true
 | _=>false
structure Step where
 idx:Nat
 esz:Nat
 off:Nat
structure Pl where
 root:Nm
 off:Nat
 path:List Step
inductive T where
 | d (x:D)
 | nil
 | ow (sub:List Sh) (l:List (List D))
 | el (row:List D) (off:Nat)
 | pl (p:Pl)
 | rf (p:Pl)
 | any
 deriving Inhabited
inductive AV1 where
 | c (t:T)
 | agg (ts:List T)
 deriving Inhabited
inductive AV where
 | one (x:AV1)
 | tup (vs:List AV1)
 | any
 deriving Inhabited
structure Root where
 blk:Bool
 cells:List T
abbrev FH:=Nat->Nat->Option Value
def BIG:Nat:=2 ^ 62
def oneC:Value->Bool
 | .agg _ | .tuple _=>false
 | _=>true
def FD (H:FH):Nat->D->Value->Prop
 | _,.int k n,x=>x=.int k n/\(Lit.int k n).wf=true
 | _,.bool b,x=>x=.bool b
 | _,.str l,x=>x=.string ⟨l.toArray⟩/\l.length<=BIG
 | _,.v y,x=>x=y/\oneC y=true
 | _,.any,_=>True
 | 0,.li _,_=>False
 | m+1,.li l,x=>∃ a c,x=.slice a l.length c/\l.length<=c/\l.length<=BIG /\
   (l=[]\/∃ b o e,a=some ⟨b,o,none⟩ /\
    ∀ i,i<l.length->(l.getD i []).length=e /\
     ∀ j,j<e->∃ y,H b (o+i*e+j)=some y/\FD H m ((l.getD i []).getD j default) y)
def FDx (H:FH) (x:D) (y:Value):Prop:=∃ m,FD H m x y
def FEl (H:FH) (m:Nat) (l:List (List D)) (b o e:Nat):Prop:=
 ∀ i,i<l.length->(l.getD i []).length=e/\∀ j,j<e->∃ y,H b (o+i*e+j)=some y/\FD H m ((l.getD i []).getD j default) y
def FRow (H:FH) (m:Nat) (row:List D) (b o:Nat):Prop:=
 ∀ j,j<row.length->∃ y,H b (o+j)=some y/\FD H m (row.getD j default) y
theorem FD_li {H:FH} {m:Nat} {l:List (List D)} {x:Value}:FD H (m+1) (.li l) x ↔
  ∃ a c,x=.slice a l.length c/\l.length<=c/\l.length<=BIG/\(l=[]\/∃ b o e,a=some ⟨b,o,none⟩/\FEl H m l b o e):=by
 simp only [FD,FEl]
theorem FD_mono {H H':FH} (hH:∀ b o y,H b o=some y->H' b o=some y):∀ (m m':Nat) (x:D) (y:Value),m<=m'->FD H m x y->FD H' m' x y:=by
 intro m
 induction m with
 | zero=>
  intro m' x y _ h
  cases x with
  | li l=>simp [FD] at h
  | int k n=>cases m' <;> simpa [FD] using h
  | bool b=>cases m' <;> simpa [FD] using h
  | str l=>cases m' <;> simpa [FD] using h
  | v z=>cases m' <;> simpa [FD] using h
  | any=>cases m' <;> simp [FD]
 | succ m ih=>
  intro m' x y hm h
  cases m' with
  | zero=>omega
  | succ m'=>
   cases x with
   | li l=>
    rw [FD_li] at h ⊢
    obtain ⟨a,c,hx,hc,hb,h⟩:=h
    refine ⟨a,c,hx,hc,hb,?_⟩
    rcases h with h | ⟨b,o,e,ha,h⟩
    ·exact .inl h
    ·refine .inr ⟨b,o,e,ha,fun i hi=>⟨(h i hi).1,fun j hj=>?_⟩⟩
     obtain ⟨z,hz,hf⟩:=(h i hi).2 j hj
     exact ⟨z,hH _ _ _ hz,ih _ _ _ (by omega) hf⟩
   | int k n=>simpa [FD] using h
   | bool b=>simpa [FD] using h
   | str l=>simpa [FD] using h
   | v z=>simpa [FD] using h
   | any=>simp [FD]
theorem FDx_mono {H H':FH} (hH:∀ b o y,H b o=some y->H' b o=some y) {x:D} {y:Value} (h:FDx H x y):FDx H' x y:=by
 obtain ⟨m,h⟩:=h; exact ⟨m,FD_mono hH m m x y (Nat.le_refl _) h⟩
theorem FRow_mono {H H':FH} (hH:∀ b o y,H b o=some y->H' b o=some y) {m:Nat} {row:List D} {b o:Nat} (h:FRow H m row b o):FRow H' m row b o:=by
 intro j hj
 obtain ⟨z,hz,hf⟩:=h j hj
 exact ⟨z,hH _ _ _ hz,FD_mono hH _ _ _ _ (Nat.le_refl _) hf⟩
theorem FEl_of_x {H:FH} {l:List (List D)} {b o e:Nat}
  (h:∀ i,i<l.length->(l.getD i []).length=e/\∀ j,j<e->∃ y,H b (o+i*e+j)=some y/\FDx H ((l.getD i []).getD j default) y) :
  ∃ m,FEl H m l b o e:=by
 have key:∀ n,n<=l.length->∃ m,∀ i,i<n->∀ j,j<e->∃ y,H b (o+i*e+j)=some y/\FD H m ((l.getD i []).getD j default) y:=by
  intro n
  induction n with
  | zero=>exact fun _=>⟨0,fun i hi=>by omega⟩
  | succ n ih=>
   intro hn
   obtain ⟨m1,h1⟩:=ih (by omega)
   have h2:∀ k,k<=e->∃ m,∀ j,j<k->∃ y,H b (o+n*e+j)=some y/\FD H m ((l.getD n []).getD j default) y:=by
    intro k
    induction k with
    | zero=>exact fun _=>⟨0,fun j hj=>by omega⟩
    | succ k ihk=>
     intro hk
     obtain ⟨m2,h2⟩:=ihk (by omega)
     obtain ⟨y,hy,m3,hf⟩:=(h n (by omega)).2 k (by omega)
     refine ⟨m2+m3,fun j hj=>?_⟩
     by_cases hjk:j=k
     ·subst hjk; exact ⟨y,hy,FD_mono (fun _ _ _ h=>h) _ _ _ _ (by omega) hf⟩
     ·obtain ⟨z,hz,hf⟩:=h2 j (by omega)
      exact ⟨z,hz,FD_mono (fun _ _ _ h=>h) _ _ _ _ (by omega) hf⟩
   obtain ⟨m2,h2⟩:=h2 e (Nat.le_refl _)
   refine ⟨m1+m2,fun i hi j hj=>?_⟩
   by_cases hin:i=n
   ·subst hin
    obtain ⟨z,hz,hf⟩:=h2 j hj
    exact ⟨z,hz,FD_mono (fun _ _ _ h=>h) _ _ _ _ (by omega) hf⟩
   ·obtain ⟨z,hz,hf⟩:=h1 i (by omega) j hj
    exact ⟨z,hz,FD_mono (fun _ _ _ h=>h) _ _ _ _ (by omega) hf⟩
 obtain ⟨m,hm⟩:=key l.length (Nat.le_refl _)
 exact ⟨m,fun i hi=>⟨(h i hi).1,fun j hj=>hm i hi j hj⟩⟩
abbrev Fp:=Nat->Nat
def Cs {α β:Type} (R:α->β->Fp->Value->Prop):List α->List β->Fp->List Value->Prop
 | [],[],f,_=>∀ b,f b=0
 | s::ss,x::xs,f,vs=>∃ v r f1 f2,vs=v::r/\(∀ b,f b=f1 b+f2 b)/\R s x f1 v/\Cs R ss xs f2 r
 | _,_,_,_=>False
def okFr (fr:Nat×Nat) (_:Nat):Prop:=fr=(0,0)
def OD (w:World) (H:FH):Nat->Sh->D->Fp->Value->Prop
 | _,.fr,x,f,y=>(∀ b,f b=0)/\FDx H x y
 | _,.ow _,.any,f,_=>∀ b,f b=0
 | m+1,.ow sub,.li l,f,y=>
   (l=[]/\y=.slice none 0 0/\∀ b,f b=0) \/
   ∃ b c cs ty fr g,y=.slice (some ⟨b,0,none⟩) l.length c/\w.heap[b]? = some (.cells cs ty fr)/\okFr fr cs.size /\
    cs.size=c*sub.length/\l.length<=c/\l.length<=BIG/\(∀ x∈l,x.length=sub.length) /\
    Cs (OD w H m) (List.replicate l.length sub).flatten l.flatten g cs.toList/\∀ k,f k=g k+if k=b then 1 else 0
 | _,_,_,_,_=>False
end Go.Am
end

section
namespace Go.Am
def gw:List (List UInt8):=[[],[97,100,100],[115,117,98],[109,117,108],[100,105,118],[114,101,109],[97,110,100],[111,114],[120,111,114],[115,104,108],[115,104,114],[101,113],[110,101],[108,116],[108,101],[102,97,100,100],[102,115,117,98],[102,109,117,108],[102,100,105,118],[102,101,113],[102,108,116],[102,108,101],[105,116,111,102],[102,116,111,105],[109,111,118],[110,101,119],[108,111,97,100],[115,116,111,114,101],[115,97,109,101],[103,108,111,97,100],[103,115,116,111,114,101],[99,97,108,108],[101,120,116],[111,117,116],[103,117,97,114,100]]
def globT (k:Nat):Option (List D):=if k=0 then some (gw.map D.str) else none
def maxK:Option Nat:=some 1
end Go.Am
end

section
namespace Go.Am
theorem Cs_mono {α β:Type} {R R':α->β->Fp->Value->Prop}:∀ (ss:List α) (xs:List β) (f:Fp) (vs:List Value),
  (∀ s x g v,(∀ b,g b<=f b)->R s x g v->R' s x g v)->Cs R ss xs f vs->Cs R' ss xs f vs
 | [],[],_,_,_,h=>h
 | s::ss,x::xs,f,vs,hR,h=>by
  obtain ⟨v,r,f1,f2,hv,hf,h1,h2⟩:=h
  exact ⟨v,r,f1,f2,hv,hf,hR _ _ _ _ (fun b=>by have:=hf b; omega) h1,
   Cs_mono ss xs f2 r (fun s x g v hg=>hR s x g v (fun b=>by have:=hf b; have:=hg b; omega)) h2⟩
 | [],_::_,_,_,_,h=>h.elim
 | _::_,[],_,_,_,h=>h.elim
theorem Cs_length {α β:Type} {R:α->β->Fp->Value->Prop}:∀ (ss:List α) (xs:List β) (f:Fp) (vs:List Value),
  Cs R ss xs f vs->ss.length=xs.length/\xs.length<=vs.length
 | [],[],_,_,_=>⟨rfl,Nat.zero_le _⟩
 | s::ss,x::xs,f,vs,h=>by
  obtain ⟨v,r,f1,f2,hv,_,_,h2⟩:=h
  have:=Cs_length ss xs f2 r h2
  subst hv; simp; omega
 | [],_::_,_,_,h=>h.elim
 | _::_,[],_,_,h=>h.elim
theorem Cs_congr {α β:Type} {R:α->β->Fp->Value->Prop} {ss:List α} {xs:List β} {f g:Fp} {vs:List Value} (hg:∀ b,f b=g b) (h:Cs R ss xs f vs):Cs R ss xs g vs:=by
 have e:f=g:=funext hg
 subst e; exact h
theorem Cs_append {α β:Type} {R:α->β->Fp->Value->Prop}:∀ (ss ss':List α) (xs xs':List β) (f f':Fp) (vs vs':List Value),
  vs.length=xs.length->Cs R ss xs f vs->Cs R ss' xs' f' vs'->Cs R (ss++ss') (xs++xs') (fun b=>f b+f' b) (vs++vs')
 | [],ss',[],xs',f,f',vs,vs',hl,h,h'=>by
  have:vs=[]:=by simpa using hl
  subst this
  exact Cs_congr (fun b=>by have:=h b; omega) h'
 | s::ss,ss',x::xs,xs',f,f',vs,vs',hl,h,h'=>by
  obtain ⟨v,r,f1,f2,hv,hf,h1,h2⟩:=h
  subst hv
  refine ⟨v,r++vs',f1,fun b=>f2 b+f' b,rfl,fun b=>by have:=hf b; simp only; omega,h1,?_⟩
  exact Cs_append ss ss' xs xs' f2 f' r vs' (by simpa using hl) h2 h'
 | [],_,_::_,_,_,_,_,_,_,h,_=>h.elim
 | _::_,_,[],_,_,_,_,_,_,h,_=>h.elim
theorem Cs_tail {α β:Type} {R:α->β->Fp->Value->Prop}:∀ (ss:List α) (xs:List β) (f:Fp) (vs ws:List Value),
  Cs R ss xs f vs->Cs R ss xs f (vs++ws)
 | [],[],_,_,_,h=>h
 | s::ss,x::xs,f,vs,ws,h=>by
  obtain ⟨v,r,f1,f2,hv,hf,h1,h2⟩:=h
  subst hv
  exact ⟨v,r++ws,f1,f2,rfl,hf,h1,Cs_tail ss xs f2 r ws h2⟩
 | [],_::_,_,_,_,h=>h.elim
 | _::_,[],_,_,_,h=>h.elim
theorem Cs_take {α β:Type} {R:α->β->Fp->Value->Prop}:∀ (ss:List α) (xs:List β) (f:Fp) (vs:List Value) (n:Nat),
  xs.length<=n->Cs R ss xs f vs->Cs R ss xs f (vs.take n)
 | [],[],_,_,_,_,h=>h
 | s::ss,x::xs,f,vs,n,hn,h=>by
  obtain ⟨v,r,f1,f2,hv,hf,h1,h2⟩:=h
  subst hv
  cases n with
  | zero=>simp at hn
  | succ n=>exact ⟨v,r.take n,f1,f2,by simp,hf,h1,Cs_take ss xs f2 r n (by simpa using hn) h2⟩
 | [],_::_,_,_,_,_,h=>h.elim
 | _::_,[],_,_,_,_,h=>h.elim
theorem Cs_focus {α β:Type} {R:α->β->Fp->Value->Prop}:∀ (ss:List α) (xs:List β) (f:Fp) (vs:List Value) (k:Nat),
  Cs R ss xs f vs->k<xs.length ->
  ∃ s x v,∃ fk fr:Fp,ss[k]? = some s/\xs[k]? = some x/\vs[k]? = some v/\(∀ b,f b=fk b+fr b)/\R s x fk v /\
   (∀ (R':α->β->Fp->Value->Prop) (x':β) (v':Value) (f':Fp),
    (∀ s x g v,(∀ b,g b<=fr b)->R s x g v->R' s x g v)->R' s x' f' v' ->
    Cs R' ss (xs.set k x') (fun b=>f' b+fr b) (vs.set k v')) /\
   (∀ k',k'≠k->k'<xs.length->∃ s' x' v' g,ss[k']? = some s'/\xs[k']? = some x'/\vs[k']? = some v'/\R s' x' g v'/\∀ b,g b<=fr b)
 | [],[],_,_,k,_,hk=>by simp at hk
 | s::ss,x::xs,f,vs,0,h,_=>by
  obtain ⟨v,r,f1,f2,hv,hf,h1,h2⟩:=h
  subst hv
  refine ⟨s,x,v,f1,f2,rfl,rfl,rfl,hf,h1,?_,?_⟩
  ·intro R' x' v' f' hR hx'
   exact ⟨v',r,f',f2,rfl,fun _=>rfl,hx',Cs_mono _ _ _ _ hR h2⟩
  ·intro k' hk' hlt
   cases k' with
   | zero=>exact absurd rfl hk'
   | succ k'=>
    obtain ⟨s',x',v',fk,fr,a1,a2,a3,a4,a5,_,_⟩:=Cs_focus ss xs f2 r k' h2 (by simpa using hlt)
    exact ⟨s',x',v',fk,by simpa using a1,by simpa using a2,by simpa using a3,a5,fun b=>by have:=a4 b; (try dsimp only at *); omega⟩
 | s::ss,x::xs,f,vs,k+1,h,hk=>by
  obtain ⟨v,r,f1,f2,hv,hf,h1,h2⟩:=h
  subst hv
  obtain ⟨s',x',v',fk,fr,a1,a2,a3,a4,a5,a6,a7⟩:=Cs_focus ss xs f2 r k h2 (by simpa using hk)
  refine ⟨s',x',v',fk,fun b=>f1 b+fr b,by simpa using a1,by simpa using a2,by simpa using a3,(show ∀ b,f b=fk b+(f1 b+fr b) from fun b=>by have:=hf b; have:=a4 b; omega),a5,?_,?_⟩
  ·intro R' y w g hR hy
   refine ⟨v,r.set k w,f1,fun b=>g b+fr b,rfl,fun b=>by (try dsimp only at *); omega,hR _ _ _ _ (fun b=>by (try dsimp only at *); omega) h1,?_⟩
   exact a6 R' y w g (fun s x g v hg=>hR s x g v (fun b=>by have:=hg b; (try dsimp only at *); omega)) hy
  ·intro k' hk' hlt
   cases k' with
   | zero=>exact ⟨s,x,v,f1,rfl,rfl,rfl,h1,fun b=>by (try dsimp only at *); omega⟩
   | succ k'=>
    obtain ⟨s2,x2,v2,g,b1,b2,b3,b4,b5⟩:=a7 k' (by omega) (by simpa using hlt)
    exact ⟨s2,x2,v2,g,by simpa using b1,by simpa using b2,by simpa using b3,b4,fun b=>by have:=b5 b; (try dsimp only at *); omega⟩
 | [],_::_,_,_,_,h,_=>h.elim
 | _::_,[],_,_,_,h,_=>h.elim
theorem OD_fr {w:World} {H:FH} {m:Nat} {x:D} {f:Fp} {y:Value}:OD w H m .fr x f y ↔ (∀ b,f b=0)/\FDx H x y:=by
 cases m <;> simp [OD]
theorem OD_ow {w:World} {H:FH} {m:Nat} {sub:List Sh} {l:List (List D)} {f:Fp} {y:Value}:OD w H (m+1) (.ow sub) (.li l) f y ↔
   ((l=[]/\y=.slice none 0 0/\∀ b,f b=0) \/
   ∃ b c cs ty fr g,y=.slice (some ⟨b,0,none⟩) l.length c/\w.heap[b]? = some (.cells cs ty fr)/\okFr fr cs.size /\
    cs.size=c*sub.length/\l.length<=c/\l.length<=BIG/\(∀ x∈l,x.length=sub.length) /\
    Cs (OD w H m) (List.replicate l.length sub).flatten l.flatten g cs.toList/\∀ k,f k=g k+if k=b then 1 else 0):=by
 simp [OD]
theorem OD_congr {w:World} {H:FH} {m:Nat} {s:Sh} {x:D} {f g:Fp} {y:Value} (hg:∀ b,f b=g b) (h:OD w H m s x f y):OD w H m s x g y:=by
 have:f=g:=funext hg
 subst this; exact h
theorem OD_frame {w w':World} {H H':FH} (hH:∀ b o y,H b o=some y->H' b o=some y):∀ (m m':Nat) (s:Sh) (x:D) (f:Fp) (y:Value),m<=m' ->
  (∀ b,f b≠0->w'.heap[b]? = w.heap[b]?)->OD w H m s x f y->OD w' H' m' s x f y:=by
 intro m
 induction m with
 | zero=>
  intro m' s x f y _ _ h
  cases s with
  | fr=>rw [OD_fr] at h ⊢; exact ⟨h.1,FDx_mono hH h.2⟩
  | ow sub=>
   cases x with
   | any=>simpa [OD] using h
   | _=>simp [OD] at h
 | succ m ih=>
  intro m' s x f y hm hw h
  cases s with
  | fr=>rw [OD_fr] at h ⊢; exact ⟨h.1,FDx_mono hH h.2⟩
  | ow sub=>
   cases m' with
   | zero=>omega
   | succ m'=>
    cases x with
    | li l=>
     rw [OD_ow] at h ⊢
     rcases h with h | ⟨b,c,cs,ty,fr,g,h1,h2,h3,h4,h5,h6,h7,h8,h9⟩
     ·exact .inl h
     ·refine .inr ⟨b,c,cs,ty,fr,g,h1,?_,h3,h4,h5,h6,h7,?_,h9⟩
      ·rw [hw b (by rw [h9]; simp)]; exact h2
      ·refine Cs_mono _ _ _ _ ?_ h8
       intro s x g' v hg' hx
       exact ih m' s x g' v (by omega) (fun k hk=>hw k (by have:=hg' k; rw [h9]; omega)) hx
    | int k n=>simp [OD] at h
    | bool k=>simp [OD] at h
    | str k=>simp [OD] at h
    | v k=>simp [OD] at h
    | any=>simpa [OD] using h
def walkV (w:World):Value->List Step->Option Addr
 | .slice (some ⟨b,o,none⟩) _ _,[st]=>some ⟨b,o+st.idx*st.esz+st.off,none⟩
 | .slice (some ⟨b,o,none⟩) _ _,st::r=>
  match w.cell? ⟨b,o+st.idx*st.esz+st.off,none⟩ with
  | some y=>walkV w y r
  | none=>none
 | _,_=>none
def lookO (sub:List Sh) (l:List (List D)):List Step->Option (Sh×D)
 | []=>none
 | [st]=>(sub[st.off]?).map fun s=>(s,(l.getD st.idx []).getD st.off default)
 | st::st'::r=>
  match sub[st.off]?,(l.getD st.idx []).getD st.off default with
  | some (.ow sub'),.li l'=>lookO sub' l' (st'::r)
  | _,_=>none
def okO (sub:List Sh) (l:List (List D)):List Step->Prop
 | []=>False
 | [st]=>st.idx<l.length/\st.esz=sub.length/\st.off<sub.length
 | st::st'::r=>(st.idx<l.length/\st.esz=sub.length/\st.off<sub.length) /\
  match sub[st.off]?,(l.getD st.idx []).getD st.off default with
  | some (.ow sub'),.li l'=>okO sub' l' (st'::r)
  | _,_=>False
def setO (sub:List Sh) (l:List (List D)) (x:D):List Step->List (List D)
 | []=>l
 | [st]=>l.set st.idx ((l.getD st.idx []).set st.off x)
 | st::st'::r=>
  match sub[st.off]?,(l.getD st.idx []).getD st.off default with
  | some (.ow sub'),.li l'=>l.set st.idx ((l.getD st.idx []).set st.off (.li (setO sub' l' x (st'::r))))
  | _,_=>l
theorem flatten_get {α:Type} (n:Nat):∀ (l:List (List α)) (i j:Nat),(∀ x∈l,x.length=n)->i<l.length->j<n ->
  l.flatten[i*n+j]? = (l.getD i [])[j]? := by
 intro l
 induction l with
 | nil=>intro i j _ h; simp at h
 | cons x l ih=>
  intro i j hl hi hj
  have hx:x.length=n:=hl x (by simp)
  cases i with
  | zero=>simp [List.getElem?_append,hx,hj]
  | succ i=>
   have:(i+1)*n+j=n+(i*n+j):=by rw [Nat.add_mul]; omega
   rw [this]
   simp only [List.flatten_cons,List.getD_cons_succ]
   rw [List.getElem?_append_right (by omega)]
   have e:n+(i*n+j)-x.length=i*n+j:=by omega
   rw [e]
   exact ih i j (fun y hy=>hl y (by simp [hy])) (by simpa using hi) hj
theorem flatten_len {α:Type} (n:Nat):∀ (l:List (List α)),(∀ x∈l,x.length=n)->l.flatten.length=l.length*n:=by
 intro l
 induction l with
 | nil=>simp
 | cons x l ih=>
  intro h
  have:=ih (fun y hy=>h y (by simp [hy]))
  have:=h x (by simp)
  simp only [List.flatten_cons,List.length_append,List.length_cons,Nat.add_mul]; omega
theorem flatten_set {α:Type} (n:Nat):∀ (l:List (List α)) (i j:Nat) (y:α),(∀ x∈l,x.length=n)->i<l.length->j<n ->
  l.flatten.set (i*n+j) y=(l.set i ((l.getD i []).set j y)).flatten:=by
 intro l
 induction l with
 | nil=>intro i j y _ h; simp at h
 | cons x l ih=>
  intro i j y hl hi hj
  have hx:x.length=n:=hl x (by simp)
  cases i with
  | zero=>
   have hz:0*n+j=j:=by omega
   rw [hz]
   simp only [List.flatten_cons,List.getD_cons_zero,List.set_cons_zero]
   rw [List.set_append_left _ _ (by omega)]
  | succ i=>
   have:(i+1)*n+j=n+(i*n+j):=by rw [Nat.add_mul]; omega
   rw [this]
   simp only [List.flatten_cons,List.getD_cons_succ,List.set_cons_succ]
   rw [List.set_append_right _ _ (by omega)]
   have e:n+(i*n+j)-x.length=i*n+j:=by omega
   rw [e,ih i j y (fun y hy=>hl y (by simp [hy])) (by simpa using hi) hj]
theorem repl_get (sub:List Sh) (n i j:Nat) (hi:i<n) (hj:j<sub.length):(List.replicate n sub).flatten[i*sub.length+j]? = sub[j]? := by
 rw [flatten_get sub.length (List.replicate n sub) i j (by intro x hx; rw [List.eq_of_mem_replicate hx]) (by simpa using hi) hj]
 simp [List.getD,hi]
theorem set_lens {n:Nat} {l:List (List D)} (hl:∀ x∈l,x.length=n) (i:Nat) (hi:i<l.length) (j:Nat) (y:D) :
  ∀ x∈l.set i ((l.getD i []).set j y),x.length=n:=by
 intro x hx
 rcases List.mem_or_eq_of_mem_set hx with h | h
 ·exact hl x h
 ·rw [h,List.length_set]
  have:l.getD i []=l[i]:=by simp [List.getD,hi]
  rw [this]; exact hl _ (List.getElem_mem hi)
theorem OD_path {w:World} {H:FH}:∀ (p:List Step) (m:Nat) (sub:List Sh) (l:List (List D)) (f:Fp) (y:Value),
  OD w H m (.ow sub) (.li l) f y->(∀ b,f b<=1)->okO sub l p ->
  ∃ b k z s x cs ty frz,∃ fz fr:Fp,walkV w y p=some ⟨b,k,none⟩/\w.heap[b]? = some (.cells cs ty frz)/\okFr frz cs.size/\cs[k]? = some z /\
   lookO sub l p=some (s,x)/\(∀ c,f c=fz c+fr c)/\fr b≠0/\OD w H m s x fz z /\
   ∀ (w':World) (H':FH) (z':Value) (x':D) (f':Fp) (m':Nat),(∀ b o v,H b o=some v->H' b o=some v) ->
    w'.heap[b]? = some (.cells (cs.setIfInBounds k z') ty frz)->(∀ c,c≠b->fr c≠0->w'.heap[c]? = w.heap[c]?)->OD w' H' m' s x' f' z' ->
    ∃ M,OD w' H' M (.ow sub) (.li (setO sub l x' p)) (fun c=>f' c+fr c) y:=by
 intro p
 induction p with
 | nil=>intro m sub l f y _ _ h; exact h.elim
 | cons st r ih=>
  intro m sub l f y h hf hok
  cases m with
  | zero=>simp [OD] at h
  | succ m=>
  rw [OD_ow] at h
  have hst:st.idx<l.length/\st.esz=sub.length/\st.off<sub.length:=by
   cases r with
   | nil=>exact hok
   | cons _ _=>exact hok.1
  obtain ⟨hi,he,ho⟩:=hst
  rcases h with ⟨hl,_,_⟩ | ⟨b,c,cs,ty,frz,g,h1,h2,h3,h4,h5,h6,h7,h8,h9⟩
  ·subst hl; simp at hi
  subst h1
  have hLl:l.flatten.length=l.length*sub.length:=flatten_len _ _ h7
  have hk:st.idx*sub.length+st.off<l.flatten.length:=by
   rw [hLl]
   have:(st.idx+1)*sub.length<=l.length*sub.length:=Nat.mul_le_mul_right _ hi
   rw [Nat.add_mul] at this; omega
  obtain ⟨s,x,v,fk,fr,a1,a2,a3,a4,a5,a6,_⟩:=Cs_focus _ _ _ _ _ h8 hk
  rw [repl_get sub l.length st.idx st.off hi ho] at a1
  rw [flatten_get sub.length l st.idx st.off h7 hi ho] at a2
  have hx:(l.getD st.idx []).getD st.off default=x:=by rw [List.getD,a2]; rfl
  have hgb:g b=0:=by have:=hf b; rw [h9] at this; simp at this; omega
  have hv:cs[st.idx*sub.length+st.off]? = some v:=by simpa using a3
  cases r with
  | nil=>
   refine ⟨b,st.idx*sub.length+st.off,v,s,x,cs,ty,frz,fk,fun c=>fr c+if c=b then 1 else 0,?_,h2,h3,hv,?_,?_,?_,?_,?_⟩
   ·simp [walkV,he]
   ·simp only [lookO,a1,hx,Option.map_some]
   ·intro c; have:=h9 c; have:=a4 c; dsimp only; omega
   ·simp
   ·exact OD_frame (fun _ _ _ h=>h) m (m+1) _ _ _ _ (by omega) (fun _ _=>rfl) a5
   ·intro w' H' z' x' f' m' hH hb hc hz
    refine ⟨max m m'+1,?_⟩
    simp only [setO]
    rw [OD_ow]
    refine .inr ⟨b,c,cs.setIfInBounds (st.idx*sub.length+st.off) z',ty,frz,fun c=>f' c+fr c,?_,hb,?_,?_,?_,?_,?_,?_,?_⟩
    ·simp
    ·simpa using h3
    ·simpa using h4
    ·simpa using h5
    ·simpa using h6
    ·exact set_lens h7 _ hi _ _
    ·rw [<- flatten_set sub.length l st.idx st.off x' h7 hi ho,List.length_set]
     have:=a6 (OD w' H' (max m m')) x' z' f' (fun s x g' v hg' hx=>OD_frame hH m _ s x g' v (Nat.le_max_left _ _) (fun k hk=>by
       have h0:=hg' k; have h1:=a4 k; have h2:=h9 k
       have hkb:k≠b:=by intro e; subst e; omega
       exact hc k hkb (by dsimp only; omega)) hx)
      (OD_frame (fun _ _ _ h=>h) m' _ s x' f' z' (Nat.le_max_right _ _) (fun _ _=>rfl) hz)
     simpa using this
    ·intro k; dsimp only; omega
  | cons st' r=>
   obtain ⟨_,hok⟩:=hok
   rw [a1,hx] at hok
   cases s with
   | fr=>exact hok.elim
   | ow sub'=>
    cases x with
    | li l'=>
     have hfk:∀ c,fk c<=1:=fun c=>by have:=hf c; have:=h9 c; have:=a4 c; omega
     obtain ⟨b',k',z,s,x,cs',ty',frz',fz,fr'',c1,c2,c3,c4,c5,c6,c7,c8,c9⟩:=ih m sub' l' fk v a5 hfk hok
     have hbb:b≠b':=by
      intro e; subst e
      have:=c6 b; have:=a4 b; omega
     have hcell:w.cell? ⟨b,0+st.idx*sub.length+st.off,none⟩=some v:=by
      simp [World.cell?,h2,hv]
     refine ⟨b',k',z,s,x,cs',ty',frz',fz,fun c=>fr'' c+(fr c+if c=b then 1 else 0),?_,c2,c3,c4,?_,?_,?_,?_,?_⟩
     ·simp only [walkV,he,hcell]; exact c1
     ·simp only [lookO,a1,hx]; exact c5
     ·intro c; have:=h9 c; have:=a4 c; have:=c6 c; dsimp only; omega
     ·dsimp only; omega
     ·exact OD_frame (fun _ _ _ h=>h) m (m+1) _ _ _ _ (by omega) (fun _ _=>rfl) c8
     ·intro w' H' z' x' f' m' hH hb hc hz
      obtain ⟨M,hM⟩:=c9 w' H' z' x' f' m' hH hb (fun c h1 h2=>hc c h1 (by dsimp only; omega)) hz
      refine ⟨max m M+1,?_⟩
      simp only [setO,a1,hx]
      rw [OD_ow]
      refine .inr ⟨b,c,cs,ty,frz,fun c=>(f' c+fr'' c)+fr c,?_,?_,h3,h4,?_,?_,?_,?_,?_⟩
      ·simp
      ·rw [hc b hbb (by simp)]; exact h2
      ·simpa using h5
      ·simpa using h6
      ·exact set_lens h7 _ hi _ _
      ·rw [<- flatten_set sub.length l st.idx st.off _ h7 hi ho,List.length_set]
       have:=a6 (OD w' H' (max m M)) (.li (setO sub' l' x' (st'::r))) v (fun c=>f' c+fr'' c) (fun s x g' v hg' hx=>OD_frame hH m _ s x g' v (Nat.le_max_left _ _) (fun k hk=>by
         have h0:=hg' k; have h1:=a4 k; have h2:=h9 k; have h4:=c6 k; have h5:=hf k
         have hkb:k≠b':=by intro e; subst e; omega
         exact hc k hkb (by dsimp only; omega)) hx)
        (OD_frame (fun _ _ _ h=>h) M _ _ _ _ _ (Nat.le_max_right _ _) (fun _ _=>rfl) hM)
       have hs:cs.toList.set (st.idx*sub.length+st.off) v=cs.toList:=by
        apply List.ext_getElem?
        intro n
        rw [List.getElem?_set]
        by_cases hn:st.idx*sub.length+st.off=n
        ·subst hn
         have hlt:st.idx*sub.length+st.off<cs.toList.length:=by
          rcases Nat.lt_or_ge (st.idx*sub.length+st.off) cs.toList.length with h | h
          ·exact h
          ·rw [List.getElem?_eq_none h] at a3; simp at a3
         rw [if_pos rfl,if_pos hlt]; exact a3.symm
        ·simp [hn]
       rw [hs] at this
       exact this
      ·intro k; dsimp only; omega
    | int k n=>exact hok.elim
    | bool k=>exact hok.elim
    | str k=>exact hok.elim
    | v k=>exact hok.elim
    | any=>exact hok.elim
theorem pair_eq {n i j i' j':Nat} (hj:j<n) (hj':j'<n) (h:i*n+j=i'*n+j'):i=i'/\j=j':=by
 rcases Nat.lt_trichotomy i i' with hlt | heq | hgt
 ·have:(i+1)*n<=i'*n:=Nat.mul_le_mul_right _ hlt
  rw [Nat.add_mul] at this; omega
 ·subst heq; exact ⟨rfl,by omega⟩
 ·have:(i'+1)*n<=i*n:=Nat.mul_le_mul_right _ hgt
  rw [Nat.add_mul] at this; omega
theorem OD_walk {w:World} {H:FH} {m:Nat} {sub:List Sh} {l:List (List D)} {f:Fp} {y:Value} {p:List Step}
  (h:OD w H m (.ow sub) (.li l) f y) (hf:∀ b,f b<=1) (hok:okO sub l p):∃ b k,walkV w y p=some ⟨b,k,none⟩/\f b≠0:=by
 obtain ⟨b,k,_,_,_,_,_,_,fz,fr,c1,_,_,_,_,c6,c7,_⟩:=OD_path p m sub l f y h hf hok
 exact ⟨b,k,c1,by have:=c6 b; omega⟩
theorem OD_addr_ne {w:World} {H:FH}:∀ (p q:List Step) (m:Nat) (sub:List Sh) (l:List (List D)) (f:Fp) (y:Value),
  OD w H m (.ow sub) (.li l) f y->(∀ b,f b<=1)->okO sub l p->okO sub l q->p.map (fun s=>(s.idx,s.off))≠q.map (fun s=>(s.idx,s.off))->walkV w y p≠walkV w y q:=by
 intro p
 induction p with
 | nil=>intro q m sub l f y _ _ h; exact h.elim
 | cons st r ih=>
  intro q m sub l f y h hf hp hq hne
  cases q with
  | nil=>exact hq.elim
  | cons st' r'=>
  cases m with
  | zero=>simp [OD] at h
  | succ m=>
  rw [OD_ow] at h
  have hst:st.idx<l.length/\st.esz=sub.length/\st.off<sub.length:=by
   cases r with
   | nil=>exact hp
   | cons _ _=>exact hp.1
  have hst':st'.idx<l.length/\st'.esz=sub.length/\st'.off<sub.length:=by
   cases r' with
   | nil=>exact hq
   | cons _ _=>exact hq.1
  obtain ⟨hi,he,ho⟩:=hst
  obtain ⟨hi',he',ho'⟩:=hst'
  rcases h with ⟨hl,_,_⟩ | ⟨b,c,cs,ty,frz,g,h1,h2,h3,h4,h5,h6,h7,h8,h9⟩
  ·subst hl; simp at hi
  subst h1
  have hLl:l.flatten.length=l.length*sub.length:=flatten_len _ _ h7
  have hlt:∀ i j,i<l.length->j<sub.length->i*sub.length+j<l.flatten.length:=by
   intro i j hi hj
   rw [hLl]
   have:(i+1)*sub.length<=l.length*sub.length:=Nat.mul_le_mul_right _ hi
   rw [Nat.add_mul] at this; omega
  have hgb:g b=0:=by have:=hf b; rw [h9] at this; simp at this; omega
  have deep:∀ (t:Step) (t':Step) (u:List Step),t.idx<l.length->t.esz=sub.length->t.off<sub.length->okO sub l (t::t'::u) ->
    ∃ sub' l' fk v,∃ fr:Fp,sub[t.off]? = some (.ow sub')/\(l.getD t.idx []).getD t.off default=.li l'/\OD w H m (.ow sub') (.li l') fk v/\(∀ c,g c=fk c+fr c) /\
     okO sub' l' (t'::u)/\walkV w (.slice (some ⟨b,0,none⟩) l.length c) (t::t'::u)=walkV w v (t'::u) /\
     (cs.toList[t.idx*sub.length+t.off]? = some v) /\
     ∀ k',k'≠t.idx*sub.length+t.off->k'<l.flatten.length->∃ s' x' v',∃ g':Fp,(List.replicate l.length sub).flatten[k']? = some s'/\l.flatten[k']? = some x'/\cs.toList[k']? = some v'/\OD w H m s' x' g' v'/\∀ c,g' c<=fr c:=by
   intro t t' u ti te to hok
   obtain ⟨s,x,v,fk,fr,a1,a2,a3,a4,a5,_,a7⟩:=Cs_focus _ _ _ _ _ h8 (hlt t.idx t.off ti to)
   rw [repl_get sub l.length t.idx t.off ti to] at a1
   rw [flatten_get sub.length l t.idx t.off h7 ti to] at a2
   have hx:(l.getD t.idx []).getD t.off default=x:=by rw [List.getD,a2]; rfl
   obtain ⟨_,hok⟩:=hok
   rw [a1,hx] at hok
   have hv:cs[t.idx*sub.length+t.off]? = some v:=by simpa using a3
   have hcell:w.cell? ⟨b,0+t.idx*sub.length+t.off,none⟩=some v:=by simp [World.cell?,h2,hv]
   cases s with
   | fr=>exact hok.elim
   | ow sub'=>
    cases x with
    | li l'=>exact ⟨sub',l',fk,v,fr,a1,hx,a5,a4,hok,by simp only [walkV,te,hcell],a3,a7⟩
    | int k n=>exact hok.elim
    | bool k=>exact hok.elim
    | str k=>exact hok.elim
    | v k=>exact hok.elim
    | any=>exact hok.elim
  have le1:∀ (fk fr:Fp),(∀ c,g c=fk c+fr c)->∀ c,fk c<=1:=fun fk fr hg c=>by have:=hf c; have:=h9 c; have:=hg c; omega
  cases r with
  | nil=>
   have e1:walkV w (.slice (some ⟨b,0,none⟩) l.length c) [st]=some ⟨b,st.idx*sub.length+st.off,none⟩:=by simp [walkV,he]
   rw [e1]
   cases r' with
   | nil=>
    have e2:walkV w (.slice (some ⟨b,0,none⟩) l.length c) [st']=some ⟨b,st'.idx*sub.length+st'.off,none⟩:=by simp [walkV,he']
    rw [e2]
    intro e
    simp only [Option.some.injEq,Addr.mk.injEq,true_and,and_true] at e
    exact hne (by simp [(pair_eq ho ho' e).1,(pair_eq ho ho' e).2])
   | cons t' u=>
    obtain ⟨sub',l',fk,v,fr,_,_,b3,b4,b5,b6,_,_⟩:=deep st' t' u hi' he' ho' hq
    rw [b6]
    obtain ⟨b',k',d1,d2⟩:=OD_walk b3 (le1 _ _ b4) b5
    rw [d1]
    intro e
    simp only [Option.some.injEq,Addr.mk.injEq] at e
    obtain ⟨e,_⟩:=e
    subst e
    have:=b4 b; omega
  | cons t u=>
   obtain ⟨sub',l',fk,v,fr,q1,q2,b3,b4,b5,b6,b7,b8⟩:=deep st t u hi he ho hp
   rw [b6]
   obtain ⟨b',k',d1,d2⟩:=OD_walk b3 (le1 _ _ b4) b5
   cases r' with
   | nil=>
    have e2:walkV w (.slice (some ⟨b,0,none⟩) l.length c) [st']=some ⟨b,st'.idx*sub.length+st'.off,none⟩:=by simp [walkV,he']
    rw [e2,d1]
    intro e
    simp only [Option.some.injEq,Addr.mk.injEq] at e
    obtain ⟨e,_⟩:=e
    subst e
    have:=b4 b'; omega
   | cons t' u'=>
    obtain ⟨sub'',l'',fk',v',fr',q1',q2',b3',b4',b5',b6',b7',b8'⟩:=deep st' t' u' hi' he' ho' hq
    rw [b6']
    by_cases hk:st'.idx*sub.length+st'.off=st.idx*sub.length+st.off
    ·obtain ⟨ei,eo⟩:=pair_eq ho' ho hk
     rw [hk,b7] at b7'
     obtain rfl:v=v':=by simpa using b7'
     rw [eo,q1] at q1'
     rw [ei,eo,q2] at q2'
     simp only [Option.some.injEq,Sh.ow.injEq] at q1'
     simp only [D.li.injEq] at q2'
     subst q1'; subst q2'
     refine ih (t'::u') m sub' l' fk v b3 (le1 _ _ b4) b5 b5' ?_
     intro e
     apply hne
     simp only [List.map_cons,eo,ei] at e ⊢
     rw [e]
    ·obtain ⟨s',x',v2,g',c1,c2,c3,c4,c5⟩:=b8 _ hk (hlt _ _ hi' ho')
     rw [repl_get sub l.length st'.idx st'.off hi' ho',q1'] at c1
     rw [flatten_get sub.length l st'.idx st'.off h7 hi' ho'] at c2
     have hx:(l.getD st'.idx []).getD st'.off default=x':=by rw [List.getD,c2]; rfl
     rw [q2'] at hx
     rw [b7'] at c3
     simp only [Option.some.injEq] at c1 c3
     subst c1; subst hx; subst c3
     obtain ⟨b'',k'',d1',d2'⟩:=OD_walk c4 (fun c=>by have:=c5 c; have:=b4 c; have:=hf c; have:=h9 c; omega) b5'
     rw [d1,d1']
     intro e
     simp only [Option.some.injEq,Addr.mk.injEq] at e
     obtain ⟨e,_⟩:=e
     subst e
     have t1:=b4 b'; have t2:=c5 b'; have t3:=hf b'; have t4:=h9 b'
     omega
end Go.Am
end

section
namespace Go.Am
inductive RC where
 | blk (b:Nat)
 | gh (v:Value)
 deriving Inhabited
abbrev Gam:=Nm->RC
abbrev Mm:=List (Nm×Root)
def rootCell (w:World):RC->Nat->Option Value
 | .blk b,k=>w.cell? ⟨b,k,none⟩
 | .gh v,k=>if k=0 then some v else none
def plA (w:World) (γ:Gam) (p:Pl):Option Addr:=
 match p.path with
 | []=>match γ p.root with | .blk b=>some ⟨b,p.off,none⟩ | .gh _=>none
 | st::r=>(rootCell w (γ p.root) p.off).bind fun y=>walkV w y (st::r)
def plV (w:World) (γ:Gam) (p:Pl):Option Value:=
 match p.path with
 | []=>rootCell w (γ p.root) p.off
 | st::r=>((rootCell w (γ p.root) p.off).bind fun y=>walkV w y (st::r)).bind w.cell?
def getR:Mm->Nm->Option Root
 | [],_=>none
 | (k,r)::m,n=>if k=n then some r else getR m n
def setR:Mm->Nm->Root->Mm
 | [],_,_=>[]
 | (k,x)::m,n,r=>if k=n then (k,r)::m else (k,x)::setR m n r
def delR:Mm->Nm->Mm
 | [],_=>[]
 | (k,x)::m,n=>if k=n then m else (k,x)::delR m n
def okPl (m:Mm) (p:Pl):Prop:=
 match getR m p.root with
 | none=>False
 | some r=>
  match p.path with
  | []=>p.off<r.cells.length
  | st::q=>match r.cells[p.off]? with
   | some (.ow sub l)=>okO sub l (st::q)
   | _=>False
def okRf (m:Mm) (p:Pl):Prop:=
 match getR m p.root with
 | none=>False
 | some r=>
  match r.cells[p.off]?,p.path with
  | some (.ow _ _),[]=>True
  | some (.ow sub l),st::q=>okO sub l (st::q)/\match lookO sub l (st::q) with
   | some (.ow _,.li _)=>True
   | _=>False
  | _,_=>False
def TR (w:World) (H:FH) (γ:Gam) (m:Mm):T->Fp->Value->Prop
 | .d x,f,y=>(∀ b,f b=0)/\FDx H x y
 | .nil,f,y=>(∀ b,f b=0)/\y=.slice none 0 0
 | .ow sub l,f,y=>∃ k,OD w H k (.ow sub) (.li l) f y
 | .el row off,f,y=>(∀ b,f b=0)/\∃ b o k,y=.pointer (some ⟨b,o+off,none⟩)/\FRow H k row b o
 | .pl p,f,y=>(∀ b,f b=0)/\okPl m p/\∃ a,plA w γ p=some a/\y=.pointer (some a)
 | .rf p,f,y=>(∀ b,f b=0)/\okRf m p/\plV w γ p=some y
 | .any,f,_=>∀ b,f b=0
def Ts (R:T->Fp->Value->Prop) (ts:List T) (f:Fp) (vs:List Value):Prop:=
 Cs (fun (_:Unit) t=>R t) (List.replicate ts.length ()) ts f vs
def Nm.tyd:Nm->Option TypeId
 | .loc i=>if i < 1000000 then none else some (i / 1000000)
 | .out i=>if i < 1000000 then none else some (i / 1000000)
 | .gh _=>none
def okR (n:Nm) (ty:TypeId) (fz:Nat×Nat) (sz:Nat):Prop:=okFr fz sz/\∀ t,n.tyd=some t->ty=t
def RootR (w:World) (H:FH) (γ:Gam) (m:Mm) (n:Nm) (r:Root) (f:Fp):Prop:=
 if r.blk then ∃ b cs ty fz,∃ g:Fp,γ n=.blk b/\w.heap[b]? = some (.cells cs ty fz)/\okR n ty fz cs.size/\cs.size=r.cells.length /\
  Ts (TR w H γ m) r.cells g cs.toList/\∀ k,f k=g k+if k=b then 1 else 0
 else ∃ v t,γ n=.gh v/\r.cells=[t]/\TR w H γ m t f v
def tot (F:Nm->Fp):Mm->Fp
 | [],_=>0
 | x::m,b=>F x.1 b+tot F m b
structure Mem (w:World) (H:FH) (γ:Gam) (m:Mm) (F:Nm->Fp):Prop where
 agree:∀ b o y,H b o=some y->w.cell? ⟨b,o,none⟩=some y
 roots:∀ x∈m,RootR w H γ m x.1 x.2 (F x.1)
 keys:(m.map (·.1)).Nodup
 le1:∀ b,tot F m b<=1
 lt:∀ b,tot F m b≠0->b<w.heap.size
 nofz:∀ b,tot F m b≠0->∀ o,H b o=none
def AR1 (w:World) (H:FH) (γ:Gam) (m:Mm):AV1->Value->Prop
 | .c t,y=>TR w H γ m t (fun _=>0) y
 | .agg ts,y=>∃ cs,y=.agg cs/\cs.size=ts.length/\Ts (TR w H γ m) ts (fun _=>0) cs.toList
def ARs (w:World) (H:FH) (γ:Gam) (m:Mm):List AV1->List Value->Prop
 | [],[]=>True
 | x::xs,y::ys=>AR1 w H γ m x y/\ARs w H γ m xs ys
 | _,_=>False
def AR (w:World) (H:FH) (γ:Gam) (m:Mm):AV->Value->Prop
 | .one x,y=>AR1 w H γ m x y
 | .tup xs,y=>∃ l,y=.tuple l/\ARs w H γ m xs l.toList
 | .any,_=>True
structure S where
 t:List (Nat×AV)
 m:Mm
structure G where
 nt:Nat
 w0:World
 H0:FH
 own0:Fp
 out:Nat->Option Nat
 ex:Option (Nat->Value)
 dfs:List Deferred
def TB:Nat:=100000
structure Fr (w0:World) (H0:FH) (own0:Fp) (w:World) (H:FH) (tt:Fp):Prop where
 size:w0.heap.size<=w.heap.size
 os:w.os=w0.os
 tape:w.tape=w0.tape
 output:w.output=w0.output
 block:∀ k,k<w0.heap.size->own0 k=0->w.heap[k]? = w0.heap[k]?
 hold:∀ b o y,H0 b o=some y->H b o=some y
 hnew:∀ b o,H b o≠none->H0 b o=none->own0 b≠0\/w0.heap.size<=b
 tt:∀ b,tt b≠0->own0 b≠0\/w0.heap.size<=b
def G.tv (g:G) (a:Act) (i:Nat):Value:=match g.ex with
 | none=>a.tmps.getD i undef
 | some f=>if i<TB\/i<a.tmps.size then a.tmps.getD i undef else f (i-TB)
theorem G.tv_lo {g:G} {a:Act} {i:Nat} (h:i<TB):g.tv a i=a.tmps.getD i undef:=by
 unfold G.tv
 split
 ·rfl
 ·rw [if_pos (.inl h)]
theorem G.tv_lt {g:G} {a:Act} {i:Nat} (h:i<a.tmps.size):g.tv a i=a.tmps.getD i undef:=by
 unfold G.tv
 split
 ·rfl
 ·rw [if_pos (.inr h)]
theorem G.tv_none {g:G} (h:g.ex=none) (a:Act) (i:Nat):g.tv a i=a.tmps.getD i undef:=by
 unfold G.tv
 rw [h]
def getT:List (Nat×AV)->Nat->AV
 | [],_=>.any
 | (k,v)::t,i=>if k=i then v else getT t i
def Globs (H:FH):Prop:=(∀ k row,globT k=some row->∃ m,FRow H m row k 0)/\∀ k,maxK=some k->∃ n m,FRow H m [.int .i64 n] k 0
theorem Globs_mono {H H':FH} (hH:∀ b o y,H b o=some y->H' b o=some y) (h:Globs H):Globs H':=
 ⟨fun k row e=>(fun ⟨m,hm⟩=>⟨m,FRow_mono hH hm⟩) (h.1 k row e),fun k e=>(fun ⟨n,m,hm⟩=>⟨n,m,FRow_mono hH hm⟩) (h.2 k e)⟩
structure RX (g:G) (s:S) (a:Act) (w:World) (H:FH) (γ:Gam) (F:Nm->Fp):Prop where
 mem:Mem w H γ s.m F
 fr:Fr g.w0 g.H0 g.own0 w H (tot F s.m)
 nt:a.tmps.size=g.nt
 df:a.defers=g.dfs/\(∀ j b,g.out j=some b->γ (.out j)=.blk b)/\Globs g.H0
 t:∀ i,AR w H γ s.m (getT s.t i) (g.tv a i)
theorem RX_globs {g:G} {s:S} {a:Act} {w:World} {H:FH} {γ:Gam} {F:Nm->Fp} (h:RX g s a w H γ F):Globs H:=Globs_mono h.fr.hold h.df.2.2
def R (g:G) (s:S) (a:Act) (w:World):Prop:=∃ H γ F,RX g s a w H γ F
theorem getR_mem {m:Mm} {n:Nm} {r:Root} (h:getR m n=some r):(n,r)∈m:=by
 induction m with
 | nil=>simp [getR] at h
 | cons x m ih=>
  obtain ⟨k,y⟩:=x
  simp only [getR] at h
  split at h
  ·rename_i hk; subst hk; simp at h; subst h; simp
  ·exact List.mem_cons_of_mem _ (ih h)
theorem tot_ge {F:Nm->Fp} {m:Mm} {x:Nm×Root} (h:x∈m) (b:Nat):F x.1 b<=tot F m b:=by
 induction m with
 | nil=>simp at h
 | cons y m ih=>
  simp only [tot]
  rcases List.mem_cons.1 h with rfl | h
  ·omega
  ·have:=ih h; omega
theorem cell?_of_heap {w w':World} {b o:Nat} (h:w'.heap[b]? = w.heap[b]?):w'.cell? ⟨b,o,none⟩=w.cell? ⟨b,o,none⟩:=by
 simp only [World.cell?,h]
theorem walkV_frame {w w':World} {H:FH}:∀ (p:List Step) (k:Nat) (sub:List Sh) (l:List (List D)) (f:Fp) (y:Value),
  OD w H k (.ow sub) (.li l) f y->okO sub l p->(∀ b,f b≠0->w'.heap[b]? = w.heap[b]?)->walkV w' y p=walkV w y p:=by
 intro p
 induction p with
 | nil=>intro k sub l f y _ h; exact h.elim
 | cons st r ih=>
  intro k sub l f y h hok hw
  cases r with
  | nil=>
   cases y with
   | slice a _ _=>
    cases a with
    | none=>rfl
    | some a=>obtain ⟨b,o,sp⟩:=a; cases sp <;> rfl
   | _=>rfl
  | cons t u=>
   cases k with
   | zero=>simp [OD] at h
   | succ k=>
   rw [OD_ow] at h
   rcases h with ⟨_,rfl,_⟩ | ⟨b,c,cs,ty,frz,g,h1,h2,h3,h4,h5,h6,h7,h8,h9⟩
   ·rfl
   subst h1
   obtain ⟨⟨hi,he,ho⟩,hok⟩:=hok
   have hb:w'.heap[b]? = w.heap[b]? := hw b (by rw [h9]; simp)
   have hk:st.idx*sub.length+st.off<l.flatten.length:=by
    rw [flatten_len _ _ h7]
    have:(st.idx+1)*sub.length<=l.length*sub.length:=Nat.mul_le_mul_right _ hi
    rw [Nat.add_mul] at this; omega
   obtain ⟨s,x,v,fk,fr,a1,a2,a3,a4,a5,_,_⟩:=Cs_focus _ _ _ _ _ h8 hk
   rw [repl_get sub l.length st.idx st.off hi ho] at a1
   rw [flatten_get sub.length l st.idx st.off h7 hi ho] at a2
   have hx:(l.getD st.idx []).getD st.off default=x:=by rw [List.getD,a2]; rfl
   rw [a1,hx] at hok
   have hv:cs[st.idx*sub.length+st.off]? = some v:=by simpa using a3
   have hcell:w.cell? ⟨b,0+st.idx*sub.length+st.off,none⟩=some v:=by simp [World.cell?,h2,hv]
   simp only [walkV,he,cell?_of_heap hb,hcell]
   cases s with
   | fr=>exact hok.elim
   | ow sub'=>
    cases x with
    | li l'=>exact ih k sub' l' fk v a5 hok (fun c hc=>hw c (by have:=a4 c; have:=h9 c; omega))
    | int k n=>exact hok.elim
    | bool k=>exact hok.elim
    | str k=>exact hok.elim
    | v k=>exact hok.elim
    | any=>exact hok.elim
theorem Cs_get {α β:Type} {R:α->β->Fp->Value->Prop} {ss:List α} {xs:List β} {f:Fp} {vs:List Value} {k:Nat} (h:Cs R ss xs f vs) {x:β} (hx:xs[k]? = some x) :
  ∃ s v,∃ g:Fp,ss[k]? = some s/\vs[k]? = some v/\R s x g v/\∀ b,g b<=f b:=by
 have hk:k<xs.length:=by
  rcases Nat.lt_or_ge k xs.length with h | h
  ·exact h
  ·rw [List.getElem?_eq_none h] at hx; simp at hx
 obtain ⟨s,x',v,fk,fr,a1,a2,a3,a4,a5,_,_⟩:=Cs_focus _ _ _ _ _ h hk
 rw [hx] at a2
 obtain rfl:x=x':=by simpa using a2
 exact ⟨s,v,fk,a1,a3,a5,fun b=>by have:=a4 b; omega⟩
theorem RootR_cell {w:World} {H:FH} {γ:Gam} {m:Mm} {n:Nm} {r:Root} {f:Fp} (h:RootR w H γ m n r f) {k:Nat} {t:T} (hk:r.cells[k]? = some t) :
  ∃ v,∃ g:Fp,rootCell w (γ n) k=some v/\TR w H γ m t g v/\∀ b,g b<=f b:=by
 unfold RootR at h
 split at h
 ·obtain ⟨b,cs,ty,fz,g,h1,h2,h3,h4,h5,h6⟩:=h
  obtain ⟨s,v,g',a1,a2,a3,a4⟩:=Cs_get h5 hk
  refine ⟨v,g',?_,a3,fun c=>by have:=a4 c; have:=h6 c; omega⟩
  rw [h1]
  have:cs[k]? = some v:=by simpa using a2
  simp [rootCell,World.cell?,h2,this]
 ·obtain ⟨v,t',h1,h2,h3⟩:=h
  rw [h2] at hk
  cases k with
  | zero=>
   obtain rfl:t'=t:=by simpa using hk
   exact ⟨v,f,by rw [h1]; rfl,h3,fun _=>Nat.le_refl _⟩
  | succ k=>simp at hk
theorem plA_frame {w w':World} {H:FH} {γ:Gam} {m:Mm} {F:Nm->Fp} (hm:Mem w H γ m F) {p:Pl} (hok:okPl m p)
  (hw:∀ b,F p.root b≠0->w'.heap[b]? = w.heap[b]?):plA w' γ p=plA w γ p/\plV w' γ p=plV w γ p:=by
 obtain ⟨n,off,path⟩:=p
 unfold okPl at hok
 cases hr:getR m n with
 | none=>simp [hr] at hok
 | some r=>
  simp only [hr] at hok
  have hroot:=hm.roots _ (getR_mem hr)
  have hcell:rootCell w' (γ n) off=rootCell w (γ n) off:=by
   cases hg:γ n with
   | gh v=>rfl
   | blk b=>
    simp only [rootCell]
    refine cell?_of_heap (hw b ?_)
    unfold RootR at hroot
    split at hroot
    ·obtain ⟨b',cs,ty,fz,g,h1,h2,h3,h4,h5,h6⟩:=hroot
     dsimp only at h1 h6 ⊢
     rw [hg] at h1
     obtain rfl:b=b':=by simpa using h1
     rw [h6]; simp
    ·obtain ⟨v,t',h1,_⟩:=hroot
     dsimp only at h1
     rw [hg] at h1; simp at h1
  cases path with
  | nil=>exact ⟨rfl,by simp only [plV,hcell]⟩
  | cons st q=>
   dsimp only at hok
   cases ht:r.cells[off]? with
   | none=>simp [ht] at hok
   | some t=>
    rw [ht] at hok
    cases t with
    | ow sub l=>
     obtain ⟨v,g,c1,c2,c3⟩:=RootR_cell hroot ht
     dsimp only at c1 c3
     obtain ⟨k,c2⟩:=c2
     have hwalk:walkV w' v (st::q)=walkV w v (st::q):=walkV_frame (st::q) k sub l g v c2 hok (fun b hb=>hw b (by have:=c3 b; dsimp only; omega))
     refine ⟨by simp only [plA,hcell,c1,Option.bind_some,hwalk],?_⟩
     simp only [plV,hcell,c1,Option.bind_some,hwalk]
     have hle:∀ b,g b<=1:=fun b=>by have:=c3 b; have:=hm.le1 b; have:=tot_ge (F:=F) (getR_mem hr) b; dsimp only at this; omega
     obtain ⟨b,k',e1,e2⟩:=OD_walk c2 hle hok
     rw [e1]
     simp only [Option.bind_some]
     exact cell?_of_heap (hw b (by have:=c3 b; dsimp only; omega))
    | _=>exact hok.elim
end Go.Am
end

section
namespace Go.Am
theorem getD2_set {l:List (List D)} {i j i' j':Nat} {y:D} (hi:i<l.length) (hj:j < (l.getD i []).length) :
  ((l.set i ((l.getD i []).set j y)).getD i' []).getD j' default=if i=i'/\j=j' then y else (l.getD i' []).getD j' default:=by
 by_cases h1:i=i'
 ·subst h1
  have e:(l.set i ((l.getD i []).set j y)).getD i []=(l.getD i []).set j y:=by
   simp [List.getD,hi]
  rw [e]
  by_cases h2:j=j'
  ·subst h2
   rw [List.getD,List.getElem?_set_self hj]; simp
  ·rw [List.getD,List.getElem?_set_ne h2]; simp [h2,List.getD]
 ·have e:(l.set i ((l.getD i []).set j y)).getD i' []=l.getD i' []:=by
   rw [List.getD,List.getElem?_set_ne h1,List.getD]
  rw [e]; simp [h1]
def wfO:Nat->List Sh->List (List D)->Prop
 | 0,_,_=>True
 | n+1,sub,l=>(∀ x∈l,x.length=sub.length)/\∀ i j s l',sub[j]? = some (.ow s)->(l.getD i []).getD j default=.li l'->wfO n s l'
theorem OD_wfO {w:World} {H:FH}:∀ (n m:Nat) (sub:List Sh) (l:List (List D)) (f:Fp) (y:Value),OD w H m (.ow sub) (.li l) f y->wfO n sub l:=by
 intro n
 induction n with
 | zero=>intros; trivial
 | succ n ih=>
  intro m sub l f y h
  cases m with
  | zero=>simp [OD] at h
  | succ m=>
  rw [OD_ow] at h
  rcases h with ⟨rfl,_,_⟩ | ⟨b,c,cs,ty,frz,g,h1,h2,h3,h4,h5,h6,h7,h8,h9⟩
  ·exact ⟨by simp,fun i j s l' _ h=>by simp [List.getD] at h; cases h⟩
  ·refine ⟨h7,fun i j s l' hs hx=>?_⟩
   by_cases hi:i<l.length
   ·have ho:j<sub.length:=by
     rcases Nat.lt_or_ge j sub.length with h | h
     ·exact h
     ·rw [List.getElem?_eq_none h] at hs; simp at hs
    have hk:i*sub.length+j<l.flatten.length:=by
     rw [flatten_len _ _ h7]
     have:(i+1)*sub.length<=l.length*sub.length:=Nat.mul_le_mul_right _ hi
     rw [Nat.add_mul] at this; omega
    obtain ⟨s',x,v,fk,fr,a1,a2,a3,a4,a5,_,_⟩:=Cs_focus _ _ _ _ _ h8 hk
    rw [repl_get sub l.length i j hi ho,hs] at a1
    rw [flatten_get sub.length l i j h7 hi ho] at a2
    have hx':(l.getD i []).getD j default=x:=by rw [List.getD,a2]; rfl
    rw [hx] at hx'
    simp only [Option.some.injEq] at a1
    subst a1; subst hx'
    exact ih m s l' fk v a5
   ·have e:l.getD i []=[]:=by simp [List.getD,List.getElem?_eq_none (by omega:l.length<=i)]
    rw [e] at hx
    simp [List.getD] at hx; cases hx
theorem okO_setO:∀ (q p:List Step) (n:Nat) (sub:List Sh) (l:List (List D)) (x:D),q.length+p.length<=n->wfO n sub l->okO sub l q->okO sub l p ->
  (∀ s l',lookO sub l p≠some (.ow s,.li l')) ->
  okO sub (setO sub l x p) q/\∀ s l',lookO sub l q=some (.ow s,.li l')->∃ l'',lookO sub (setO sub l x p) q=some (.ow s,.li l''):=by
 intro q
 induction q with
 | nil=>intro p n sub l x _ _ h; exact h.elim
 | cons st r ih=>
  intro p n sub l x hn hwf hq hp hno
  cases p with
  | nil=>exact hp.elim
  | cons st' r'=>
  cases n with
  | zero=>simp at hn
  | succ n=>
  obtain ⟨hlen,hdeep⟩:=hwf
  have hst:st.idx<l.length/\st.esz=sub.length/\st.off<sub.length:=by
   cases r with
   | nil=>exact hq
   | cons _ _=>exact hq.1
  have hst':st'.idx<l.length/\st'.esz=sub.length/\st'.off<sub.length:=by
   cases r' with
   | nil=>exact hp
   | cons _ _=>exact hp.1
  obtain ⟨hi,he,ho⟩:=hst
  obtain ⟨hi',he',ho'⟩:=hst'
  have hle:st'.off < (l.getD st'.idx []).length:=by
   have:l.getD st'.idx []=l[st'.idx]:=by simp [List.getD,hi']
   rw [this,hlen _ (List.getElem_mem hi')]; exact ho'
  have key:∃ y,setO sub l x (st'::r')=l.set st'.idx ((l.getD st'.idx []).set st'.off y) /\
    (st'.idx=st.idx->st'.off=st.off->∀ s2 l2,sub[st.off]? = some (.ow s2)->(l.getD st.idx []).getD st.off default=.li l2 ->
     ∃ t u,r'=t::u/\y=.li (setO s2 l2 x (t::u))/\okO s2 l2 (t::u)/\∀ s l',lookO s2 l2 (t::u)≠some (.ow s,.li l')):=by
   cases r' with
   | nil=>
    refine ⟨x,rfl,fun e1 e2 s2 l2 h1 h2=>?_⟩
    exfalso
    apply hno s2 l2
    simp only [lookO,e1,e2,h1,h2,Option.map_some]
   | cons t u=>
    obtain ⟨_,hp⟩:=hp
    cases hs:sub[st'.off]? with
    | none=>rw [hs] at hp; exact hp.elim
    | some s0=>
     rw [hs] at hp
     cases s0 with
     | fr=>exact hp.elim
     | ow s2=>
      cases hd:(l.getD st'.idx []).getD st'.off default with
      | li l2=>
       rw [hd] at hp
       refine ⟨.li (setO s2 l2 x (t::u)),by simp only [setO,hs,hd],fun e1 e2 s3 l3 h1 h2=>?_⟩
       rw [<- e2,hs] at h1
       rw [<- e1,<- e2,hd] at h2
       simp only [Option.some.injEq,Sh.ow.injEq] at h1
       simp only [D.li.injEq] at h2
       subst h1; subst h2
       refine ⟨t,u,rfl,rfl,hp,fun s l' h=>hno s l' ?_⟩
       simp only [lookO,hs,hd]; exact h
      | _=>rw [hd] at hp; exact hp.elim
  obtain ⟨y,hset,hsame⟩:=key
  rw [hset]
  have hget:=fun i' j'=>getD2_set (l:=l) (i:=st'.idx) (j:=st'.off) (i':=i') (j':=j') (y:=y) hi' hle
  cases r with
  | nil=>
   refine ⟨⟨by simpa using hi,he,ho⟩,fun s l' h=>?_⟩
   simp only [lookO] at h ⊢
   rw [hget]
   split
   ·rename_i e
    obtain ⟨e1,e2⟩:=e
    cases hs:sub[st.off]? with
    | none=>rw [hs] at h; simp at h
    | some s0=>
     rw [hs] at h
     simp only [Option.map_some,Option.some.injEq,Prod.mk.injEq] at h ⊢
     obtain ⟨h1,h2⟩:=h
     subst h1
     obtain ⟨t,u,_,rfl,_,_⟩:=hsame e1 e2 s l' hs h2
     exact ⟨_,rfl,rfl⟩
   ·exact ⟨l',h⟩
  | cons t u=>
   obtain ⟨_,hq⟩:=hq
   cases hs:sub[st.off]? with
   | none=>rw [hs] at hq; exact hq.elim
   | some s0=>
    rw [hs] at hq
    cases s0 with
    | fr=>exact hq.elim
    | ow s2=>
     cases hd:(l.getD st.idx []).getD st.off default with
     | li l2=>
      rw [hd] at hq
      by_cases e:st'.idx=st.idx/\st'.off=st.off
      ·have hg:=hget st.idx st.off
       rw [if_pos e] at hg
       simp only [okO,lookO,hs,List.length_set,hg,hd]
       obtain ⟨e1,e2⟩:=e
       obtain ⟨t',u',hr',rfl,hp',hno'⟩:=hsame e1 e2 s2 l2 hs hd
       subst hr'
       have hwf2:=hdeep st.idx st.off s2 l2 hs hd
       obtain ⟨g1,g2⟩:=ih (t'::u') n s2 l2 x (by simp at hn ⊢; omega) hwf2 hq hp' hno'
       exact ⟨⟨⟨hi,he,ho⟩,g1⟩,g2⟩
      ·have hg:=hget st.idx st.off
       rw [if_neg e,hd] at hg
       simp only [okO,lookO,hs,List.length_set,hg,hd]
       exact ⟨⟨⟨hi,he,ho⟩,hq⟩,fun s l' h=>⟨l',h⟩⟩
     | _=>rw [hd] at hq; exact hq.elim
theorem okO_prefix:∀ (r r':List Step) (sub:List Sh) (l:List (List D)),r≠[]->r'≠[]->okO sub l (r++r') ->
  okO sub l r/\∃ s l',lookO sub l r=some (.ow s,.li l'):=by
 intro r
 induction r with
 | nil=>intro r' sub l h; exact absurd rfl h
 | cons st u ih=>
  intro r' sub l _ hr' h
  cases u with
  | nil=>
   cases r' with
   | nil=>exact absurd rfl hr'
   | cons t v=>
    obtain ⟨h1,h2⟩:=h
    refine ⟨h1,?_⟩
    cases hs:sub[st.off]? with
    | none=>simp only [hs] at h2
    | some s0=>
     simp only [hs] at h2
     cases s0 with
     | fr=>exact h2.elim
     | ow s2=>
      cases hd:(l.getD st.idx []).getD st.off default with
      | li l2=>exact ⟨s2,l2,by simp only [lookO,hs,hd,Option.map_some]⟩
      | _=>rw [hd] at h2; exact h2.elim
  | cons t v=>
   obtain ⟨h1,h2⟩:=h
   cases hs:sub[st.off]? with
   | none=>simp only [hs] at h2
   | some s0=>
    simp only [hs] at h2
    cases s0 with
    | fr=>exact h2.elim
    | ow s2=>
     cases hd:(l.getD st.idx []).getD st.off default with
     | li l2=>
      rw [hd] at h2
      obtain ⟨g1,s,l',g2⟩:=ih r' s2 l2 (by simp) hr' h2
      refine ⟨⟨h1,?_⟩,s,l',?_⟩
      ·simp only [hs,hd]; exact g1
      ·simp only [lookO,hs,hd]; exact g2
     | _=>rw [hd] at h2; exact h2.elim
theorem walkV_store {w w':World} {A:Addr} (hw:∀ a,a≠A->w'.cell? a=w.cell? a):∀ (p:List Step) (y:Value),
  (∀ r r',p=r++r'->r≠[]->r'≠[]->walkV w y r≠some A)->walkV w' y p=walkV w y p:=by
 intro p
 induction p with
 | nil=>
  intro y _
  cases y with
  | slice a _ _=>
   cases a with
   | none=>rfl
   | some a=>obtain ⟨b,o,sp⟩:=a; cases sp <;> rfl
  | _=>rfl
 | cons st r ih=>
  intro y h
  cases r with
  | nil=>
   cases y with
   | slice a _ _=>
    cases a with
    | none=>rfl
    | some a=>obtain ⟨b,o,sp⟩:=a; cases sp <;> rfl
   | _=>rfl
  | cons t u=>
   cases y with
   | slice a n c=>
    cases a with
    | none=>rfl
    | some a=>
     obtain ⟨b,o,sp⟩:=a
     cases sp with
     | some k=>rfl
     | none=>
      have h1:walkV w (.slice (some ⟨b,o,none⟩) n c) [st]≠some A:=h [st] (t::u) rfl (by simp) (by simp)
      simp only [walkV] at h1 ⊢
      rw [hw _ (fun e=>h1 (by rw [e]))]
      cases hc:w.cell? ⟨b,o+st.idx*st.esz+st.off,none⟩ with
      | none=>rfl
      | some v=>
       refine ih v (fun r r' e hr hr'=>?_)
       have:=h (st::r) r' (by rw [e]; rfl) (by simp) hr'
       cases r with
       | nil=>exact absurd rfl hr
       | cons t' u'=>simpa only [walkV,hc] using this
   | _=>rfl
end Go.Am
end

section
namespace Go.Am
structure Keeps (w:World) (γ:Gam) (m:Mm) (w':World) (γ':Gam) (m':Mm):Prop where
 pl:∀ q,okPl m q->okPl m' q/\plA w' γ' q=plA w γ q
 rf:∀ q,okRf m q->okRf m' q/\plV w' γ' q=plV w γ q
theorem TR_keeps {w w':World} {H H':FH} {γ γ':Gam} {m m':Mm} (hK:Keeps w γ m w' γ' m') (hH:∀ b o y,H b o=some y->H' b o=some y)
  {t:T} {f:Fp} {y:Value} (hw:∀ b,f b≠0->w'.heap[b]? = w.heap[b]?) (h:TR w H γ m t f y):TR w' H' γ' m' t f y:=by
 cases t with
 | d x=>exact ⟨h.1,FDx_mono hH h.2⟩
 | nil=>exact h
 | ow sub l=>obtain ⟨k,h⟩:=h; exact ⟨k,OD_frame hH k k _ _ _ _ (Nat.le_refl _) hw h⟩
 | el row off=>obtain ⟨h0,b,o,k,h1,h2⟩:=h; exact ⟨h0,b,o,k,h1,FRow_mono hH h2⟩
 | pl p=>obtain ⟨h0,h1,a,h2,h3⟩:=h; obtain ⟨k1,k2⟩:=hK.pl p h1; exact ⟨h0,k1,a,by rw [k2]; exact h2,h3⟩
 | rf p=>obtain ⟨h0,h1,h2⟩:=h; obtain ⟨k1,k2⟩:=hK.rf p h1; exact ⟨h0,k1,by rw [k2]; exact h2⟩
 | any=>exact h
theorem Ts_keeps {w w':World} {H H':FH} {γ γ':Gam} {m m':Mm} (hK:Keeps w γ m w' γ' m') (hH:∀ b o y,H b o=some y->H' b o=some y)
  {ts:List T} {f:Fp} {vs:List Value} (hw:∀ b,f b≠0->w'.heap[b]? = w.heap[b]?) (h:Ts (TR w H γ m) ts f vs):Ts (TR w' H' γ' m') ts f vs:=
 Cs_mono _ _ _ _ (fun _ _ g _ hg ht=>TR_keeps hK hH (fun b hb=>hw b (by have:=hg b; omega)) ht) h
theorem AR1_keeps {w w':World} {H H':FH} {γ γ':Gam} {m m':Mm} (hK:Keeps w γ m w' γ' m') (hH:∀ b o y,H b o=some y->H' b o=some y)
  {x:AV1} {y:Value} (h:AR1 w H γ m x y):AR1 w' H' γ' m' x y:=by
 cases x with
 | c t=>exact TR_keeps hK hH (fun b hb=>absurd rfl hb) h
 | agg ts=>obtain ⟨cs,h1,h2,h3⟩:=h; exact ⟨cs,h1,h2,Ts_keeps hK hH (fun b hb=>absurd rfl hb) h3⟩
theorem ARs_keeps {w w':World} {H H':FH} {γ γ':Gam} {m m':Mm} (hK:Keeps w γ m w' γ' m') (hH:∀ b o y,H b o=some y->H' b o=some y) :
  ∀ {xs:List AV1} {ys:List Value},ARs w H γ m xs ys->ARs w' H' γ' m' xs ys
 | [],[],_=>trivial
 | _::_,_::_,h=>⟨AR1_keeps hK hH h.1,ARs_keeps hK hH h.2⟩
 | [],_::_,h=>h.elim
 | _::_,[],h=>h.elim
theorem AR_keeps {w w':World} {H H':FH} {γ γ':Gam} {m m':Mm} (hK:Keeps w γ m w' γ' m') (hH:∀ b o y,H b o=some y->H' b o=some y)
  {x:AV} {y:Value} (h:AR w H γ m x y):AR w' H' γ' m' x y:=by
 cases x with
 | one x=>exact AR1_keeps hK hH h
 | tup xs=>obtain ⟨l,h1,h2⟩:=h; exact ⟨l,h1,ARs_keeps hK hH h2⟩
 | any=>trivial
theorem RootR_keeps {w w':World} {H H':FH} {γ γ':Gam} {m m':Mm} (hK:Keeps w γ m w' γ' m') (hH:∀ b o y,H b o=some y->H' b o=some y)
  {n:Nm} {r:Root} {f:Fp} (hg:γ' n=γ n) (hw:∀ b,f b≠0->w'.heap[b]? = w.heap[b]?) (h:RootR w H γ m n r f):RootR w' H' γ' m' n r f:=by
 unfold RootR at h ⊢
 split at h
 ·rename_i hb
  rw [if_pos hb]
  obtain ⟨b,cs,ty,fz,g,h1,h2,h3,h4,h5,h6⟩:=h
  exact ⟨b,cs,ty,fz,g,by rw [hg]; exact h1,by rw [hw b (by rw [h6]; simp)]; exact h2,h3,h4,
   Ts_keeps hK hH (fun c hc=>hw c (by have:=h6 c; omega)) h5,h6⟩
 ·rename_i hb
  rw [if_neg hb]
  obtain ⟨v,t,h1,h2,h3⟩:=h
  exact ⟨v,t,by rw [hg]; exact h1,h2,TR_keeps hK hH hw h3⟩
theorem Keeps_grow {w w':World} {H:FH} {γ:Gam} {m:Mm} {F:Nm->Fp} (hm:Mem w H γ m F) (hw:∀ b,tot F m b≠0->w'.heap[b]? = w.heap[b]?):Keeps w γ m w' γ m:=by
 have hroot:∀ q:Pl,okPl m q->∀ b,F q.root b≠0->w'.heap[b]? = w.heap[b]? := by
  intro q hq b hb
  unfold okPl at hq
  cases hr:getR m q.root with
  | none=>simp [hr] at hq
  | some r=>exact hw b (by have:=tot_ge (F:=F) (getR_mem hr) b; dsimp only at this; omega)
 have rf_pl:∀ q:Pl,okRf m q->okPl m q:=by
  intro q hq
  unfold okRf at hq; unfold okPl
  cases hr:getR m q.root with
  | none=>simp [hr] at hq
  | some r=>
   simp only [hr] at hq ⊢
   cases ht:r.cells[q.off]? with
   | none=>simp [ht] at hq
   | some t=>
    have hlt:q.off<r.cells.length:=by
     rcases Nat.lt_or_ge q.off r.cells.length with h | h
     ·exact h
     ·rw [List.getElem?_eq_none h] at ht; simp at ht
    cases hp:q.path with
    | nil=>exact hlt
    | cons st u=>
     rw [ht,hp] at hq
     cases t with
     | ow sub l=>exact hq.1
     | _=>exact hq.elim
 exact ⟨fun q hq=>⟨hq,(plA_frame hm hq (hroot q hq)).1⟩,fun q hq=>⟨hq,(plA_frame hm (rf_pl q hq) (hroot q (rf_pl q hq))).2⟩⟩
theorem okPl_of_rf {m:Mm} {q:Pl} (hq:okRf m q):okPl m q:=by
 unfold okRf at hq; unfold okPl
 cases hr:getR m q.root with
 | none=>simp [hr] at hq
 | some r=>
  simp only [hr] at hq ⊢
  cases ht:r.cells[q.off]? with
  | none=>simp [ht] at hq
  | some t=>
   have hlt:q.off<r.cells.length:=by
    rcases Nat.lt_or_ge q.off r.cells.length with h | h
    ·exact h
    ·rw [List.getElem?_eq_none h] at ht; simp at ht
   cases hp:q.path with
   | nil=>exact hlt
   | cons st u=>
    rw [ht,hp] at hq
    cases t with
    | ow sub l=>exact hq.1
    | _=>exact hq.elim
def getPl (m:Mm) (p:Pl):Option T:=
 match getR m p.root with
 | none=>none
 | some r=>
  match p.path with
  | []=>r.cells[p.off]?
  | st::q=>match r.cells[p.off]? with
   | some (.ow sub l)=>match lookO sub l (st::q) with
    | some (.fr,x)=>some (.d x)
    | some (.ow s,.li l')=>some (.ow s l')
    | some (.ow _,_)=>some .any
    | none=>none
   | _=>none
theorem tot_cons {F:Nm->Fp} {x:Nm×Root} {m:Mm} {b:Nat}:tot F (x::m) b=F x.1 b+tot F m b:=rfl
theorem tot_two {F:Nm->Fp} {m:Mm} {x y:Nm×Root} (hx:x∈m) (hy:y∈m) (hn:x.1≠y.1) (b:Nat):F x.1 b+F y.1 b<=tot F m b:=by
 induction m with
 | nil=>simp at hx
 | cons z m ih=>
  rw [tot_cons]
  rcases List.mem_cons.1 hx with rfl | hx2
  ·rcases List.mem_cons.1 hy with rfl | hy2
   ·exact absurd rfl hn
   ·have:=tot_ge (F:=F) hy2 b; omega
  ·rcases List.mem_cons.1 hy with rfl | hy2
   ·have:=tot_ge (F:=F) hx2 b; omega
   ·have:=ih hx2 hy2; omega
theorem plA_in {w:World} {H:FH} {γ:Gam} {m:Mm} {F:Nm->Fp} (hm:Mem w H γ m F) {p:Pl} (hok:okPl m p) {a:Addr} (ha:plA w γ p=some a) :
  F p.root a.block≠0/\a.spot=none:=by
 obtain ⟨n,off,path⟩:=p
 unfold okPl at hok
 cases hr:getR m n with
 | none=>simp [hr] at hok
 | some r=>
  simp only [hr] at hok
  have hroot:=hm.roots _ (getR_mem hr)
  cases path with
  | nil=>
   unfold RootR at hroot
   split at hroot
   ·obtain ⟨b,cs,ty,fz,g,h1,h2,h3,h4,h5,h6⟩:=hroot
    dsimp only at h1 h6
    simp only [plA,h1,Option.some.injEq] at ha
    subst ha
    dsimp only
    rw [h6]; simp
   ·obtain ⟨v,t,h1,_⟩:=hroot
    dsimp only at h1
    simp [plA,h1] at ha
  | cons st q=>
   dsimp only at hok
   cases ht:r.cells[off]? with
   | none=>simp [ht] at hok
   | some t=>
    rw [ht] at hok
    cases t with
    | ow sub l=>
     obtain ⟨v,g,c1,⟨k,c2⟩,c3⟩:=RootR_cell hroot ht
     dsimp only at c1 c3
     have hle:∀ b,g b<=1:=fun b=>by have:=c3 b; have:=hm.le1 b; have:=tot_ge (F:=F) (getR_mem hr) b; dsimp only at this; omega
     obtain ⟨b,k',e1,e2⟩:=OD_walk c2 hle hok
     simp only [plA,c1,Option.bind_some,e1,Option.some.injEq] at ha
     subst ha
     exact ⟨by dsimp only; have:=c3 b; omega,rfl⟩
    | _=>exact hok.elim
theorem plA_inj {w:World} {H:FH} {γ:Gam} {m:Mm} {F:Nm->Fp} (hm:Mem w H γ m F) {p q:Pl} (hp:okPl m p) (hq:okPl m q) {a:Addr}
  (ha:plA w γ p=some a) (hb:plA w γ q=some a) :
  p.root=q.root/\p.off=q.off/\p.path.map (fun s=>(s.idx,s.off))=q.path.map (fun s=>(s.idx,s.off)):=by
 have hp1:=plA_in hm hp ha
 have hq1:=plA_in hm hq hb
 obtain ⟨n,off,path⟩:=p
 obtain ⟨n',off',path'⟩:=q
 by_cases hn:n=n'
 ·subst hn
  refine ⟨rfl,?_⟩
  unfold okPl at hp hq
  cases hr:getR m n with
  | none=>simp [hr] at hp
  | some r=>
   simp only [hr] at hp hq
   have hroot:=hm.roots _ (getR_mem hr)
   have hle0:∀ b,F n b<=1:=fun b=>by have:=hm.le1 b; have:=tot_ge (F:=F) (getR_mem hr) b; dsimp only at this; omega
   have blk:∀ (off:Nat) (sub:List Sh) (l:List (List D)) (st:Step) (u:List Step),r.cells[off]? = some (.ow sub l)->okO sub l (st::u) ->
     ∀ off',plA w γ ⟨n,off,st::u⟩≠plA w γ ⟨n,off',[]⟩\/plA w γ ⟨n,off',[]⟩=none:=by
    intro off sub l st u ht hok off'
    unfold RootR at hroot
    split at hroot
    ·left
     obtain ⟨b,cs,ty,fz,g,h1,h2,h3,h4,h5,h6⟩:=hroot
     obtain ⟨_,v,g',_,a2,⟨k,a3⟩,a4⟩:=Cs_get h5 ht
     have hv:cs[off]? = some v:=by simpa using a2
     dsimp only at h1 h6
     have hle:∀ b,g' b<=1:=fun b=>by have:=a4 b; have:=h6 b; have:=hle0 b; omega
     obtain ⟨b',k',e1,e2⟩:=OD_walk a3 hle hok
     simp only [plA,h1,rootCell,World.cell?,h2,Option.isSome_none,Bool.false_eq_true,if_false,hv,Option.bind_some,e1]
     intro e
     simp only [Option.some.injEq,Addr.mk.injEq] at e
     obtain ⟨e,_⟩:=e
     subst e
     have:=h6 b'; have:=a4 b'; have:=hle0 b'; simp at *; omega
    ·right
     obtain ⟨v,t,h1,_⟩:=hroot
     dsimp only at h1
     simp [plA,h1]
   cases path with
   | nil=>
    cases path' with
    | nil=>
     unfold RootR at hroot
     split at hroot
     ·obtain ⟨b,cs,ty,fz,g,h1,_⟩:=hroot
      dsimp only at h1
      simp only [plA,h1,Option.some.injEq] at ha hb
      rw [<- hb] at ha
      simp only [Addr.mk.injEq] at ha
      exact ⟨ha.2.1,rfl⟩
     ·obtain ⟨v,t,h1,_⟩:=hroot
      dsimp only at h1
      simp [plA,h1] at ha
    | cons st u=>
     dsimp only at hq
     cases ht:r.cells[off']? with
     | none=>simp [ht] at hq
     | some t=>
      rw [ht] at hq
      cases t with
      | ow sub l=>
       rcases blk off' sub l st u ht hq off with h | h
       ·rw [hb,ha] at h; exact absurd rfl h
       ·rw [ha] at h; simp at h
      | _=>exact hq.elim
   | cons st u=>
    dsimp only at hp
    cases ht:r.cells[off]? with
    | none=>simp [ht] at hp
    | some t=>
     rw [ht] at hp
     cases t with
     | ow sub l=>
      cases path' with
      | nil=>
       rcases blk off sub l st u ht hp off' with h | h
       ·rw [hb,ha] at h; exact absurd rfl h
       ·rw [hb] at h; simp at h
      | cons st' u'=>
       dsimp only at hq
       cases ht':r.cells[off']? with
       | none=>simp [ht'] at hq
       | some t'=>
        rw [ht'] at hq
        cases t' with
        | ow sub' l'=>
         by_cases ho:off=off'
         ·subst ho
          refine ⟨rfl,?_⟩
          rw [ht] at ht'
          simp only [Option.some.injEq,T.ow.injEq] at ht'
          obtain ⟨rfl,rfl⟩:=ht'
          obtain ⟨v,g,c1,⟨k,c2⟩,c3⟩:=RootR_cell hroot ht
          dsimp only at c1 c3
          have hle:∀ b,g b<=1:=fun b=>by have:=c3 b; have:=hle0 b; omega
          simp only [plA,c1,Option.bind_some] at ha hb
          by_cases hne:(st::u).map (fun s=>(s.idx,s.off))=(st'::u').map (fun s=>(s.idx,s.off))
          ·exact hne
          ·exact absurd (ha.trans hb.symm) (OD_addr_ne (st::u) (st'::u') k sub l g v c2 hle hp hq hne)
         · -- two cells of one root
          exfalso
          unfold RootR at hroot
          split at hroot
          ·obtain ⟨b,cs,ty,fz,g,h1,h2,h3,h4,h5,h6⟩:=hroot
           dsimp only at h1 h6
           have hlt:off<r.cells.length:=by
            rcases Nat.lt_or_ge off r.cells.length with h | h
            ·exact h
            ·rw [List.getElem?_eq_none h] at ht; simp at ht
           have hlt':off'<r.cells.length:=by
            rcases Nat.lt_or_ge off' r.cells.length with h | h
            ·exact h
            ·rw [List.getElem?_eq_none h] at ht'; simp at ht'
           obtain ⟨s1,x1,v1,fk,fr,a1,a2,a3,a4,a5,_,a7⟩:=Cs_focus _ _ _ _ _ h5 hlt
           obtain ⟨s2,x2,v2,g2,b1,b2,b3,b4,b5⟩:=a7 off' (fun e=>ho e.symm) hlt'
           rw [ht] at a2; rw [ht'] at b2
           simp only [Option.some.injEq] at a2 b2
           subst a2; subst b2
           obtain ⟨k,a5⟩:=a5
           obtain ⟨k',b4⟩:=b4
           have hv:cs[off]? = some v1:=by simpa using a3
           have hv':cs[off']? = some v2:=by simpa using b3
           obtain ⟨c1,d1,e1,e1'⟩:=OD_walk a5 (fun b=>by have:=a4 b; have:=h6 b; have:=hle0 b; omega) hp
           obtain ⟨c2,d2,e2,e2'⟩:=OD_walk b4 (fun b=>by have:=b5 b; have:=a4 b; have:=h6 b; have:=hle0 b; omega) hq
           simp only [plA,h1,rootCell,World.cell?,h2,Option.isSome_none,Bool.false_eq_true,if_false,hv,hv',Option.bind_some,e1,e2] at ha hb
           rw [<- hb] at ha
           simp only [Option.some.injEq,Addr.mk.injEq] at ha
           obtain ⟨ha,_⟩:=ha
           subst ha
           have:=b5 c1; have:=a4 c1; have:=h6 c1; have:=hle0 c1; omega
          ·obtain ⟨v,t,h1,h2,_⟩:=hroot
           dsimp only at h2
           rw [h2] at ht ht'
           cases off with
           | zero=>cases off' with
            | zero=>exact ho rfl
            | succ k=>simp at ht'
           | succ k=>simp at ht
        | _=>exact hq.elim
     | _=>exact hp.elim
 ·exfalso
  unfold okPl at hp hq
  cases hr:getR m n with
  | none=>simp [hr] at hp
  | some r=>
   cases hr':getR m n' with
   | none=>simp [hr'] at hq
   | some r'=>
    have:=tot_two (F:=F) (getR_mem hr) (getR_mem hr') hn a.block
    have:=hm.le1 a.block
    dsimp only at *
    omega
end Go.Am
end

section
namespace Go.Am
theorem lookO_congr:∀ (p q:List Step) (sub:List Sh) (l:List (List D)),p.map (fun s=>(s.idx,s.off))=q.map (fun s=>(s.idx,s.off))->lookO sub l p=lookO sub l q:=by
 intro p
 induction p with
 | nil=>intro q sub l h; cases q with | nil=>rfl | cons _ _=>simp at h
 | cons st r ih=>
  intro q sub l h
  cases q with
  | nil=>simp at h
  | cons st' r'=>
   simp only [List.map_cons,List.cons.injEq,Prod.mk.injEq] at h
   obtain ⟨⟨h1,h2⟩,h3⟩:=h
   cases r with
   | nil=>cases r' with
    | nil=>simp only [lookO,h1,h2]
    | cons _ _=>simp at h3
   | cons t u=>cases r' with
    | nil=>simp at h3
    | cons t' u'=>
     simp only [lookO,h1,h2]
     cases sub[st'.off]? with
     | none=>rfl
     | some s=>cases s with
      | fr=>rfl
      | ow s2=>cases (l.getD st'.idx []).getD st'.off default with
       | li l2=>exact ih (t'::u') s2 l2 h3
       | _=>rfl
theorem getPl_congr {m:Mm} {p q:Pl} (h1:p.root=q.root) (h2:p.off=q.off) (h3:p.path.map (fun s=>(s.idx,s.off))=q.path.map (fun s=>(s.idx,s.off))):getPl m p=getPl m q:=by
 obtain ⟨n,o,path⟩:=p
 obtain ⟨n',o',path'⟩:=q
 dsimp only at h1 h2 h3
 subst h1; subst h2
 unfold getPl
 cases path with
 | nil=>cases path' with
  | nil=>rfl
  | cons _ _=>simp at h3
 | cons st u=>cases path' with
  | nil=>simp at h3
  | cons st' u'=>simp only [lookO_congr _ _ _ _ h3]
def T.owned:T->Bool
 | .ow _ _=>true
 | _=>false
def T.toD:T->D
 | .d x=>x
 | .nil=>.li []
 | .ow _ l=>.li l
 | _=>.any
def putPl (m:Mm) (p:Pl) (t:T):Mm:=
 match getR m p.root with
 | none=>m
 | some r=>setR m p.root { r with cells:=match p.path with
   | []=>r.cells.set p.off t
   | st::q=>match r.cells[p.off]? with
    | some (.ow sub l)=>r.cells.set p.off (.ow sub (setO sub l t.toD (st::q)))
    | _=>r.cells }
theorem getR_setR {m:Mm} {n n':Nm} {r r0:Root} (h:getR m n=some r0):getR (setR m n r) n'=if n=n' then some r else getR m n':=by
 induction m with
 | nil=>simp [getR] at h
 | cons x m ih=>
  obtain ⟨k,y⟩:=x
  by_cases hk:k=n
  ·subst hk
   simp only [setR,if_true,getR]
   split <;> simp_all
  ·simp only [getR,if_neg hk] at h
   simp only [setR,if_neg hk,getR,ih h]
   by_cases hk':k=n'
   ·subst hk'; simp [Ne.symm hk]
   ·simp [hk']
def okCells (cells:List T) (off:Nat) (path:List Step):Prop:=
 match path with
 | []=>off<cells.length
 | st::q=>match cells[off]? with
  | some (.ow sub l)=>okO sub l (st::q)
  | _=>False
def okRfCells (cells:List T) (off:Nat) (path:List Step):Prop:=
 match cells[off]?,path with
 | some (.ow _ _),[]=>True
 | some (.ow sub l),st::q=>okO sub l (st::q)/\match lookO sub l (st::q) with
  | some (.ow _,.li _)=>True
  | _=>False
 | _,_=>False
theorem okPl_iff {m:Mm} {p:Pl}:okPl m p ↔ ∃ r,getR m p.root=some r/\okCells r.cells p.off p.path:=by
 unfold okPl okCells
 cases getR m p.root with
 | none=>simp
 | some r=>first | (simp; done) | (simp; exact Iff.rfl)
theorem okRf_iff {m:Mm} {p:Pl}:okRf m p ↔ ∃ r,getR m p.root=some r/\okRfCells r.cells p.off p.path:=by
 unfold okRf okRfCells
 cases getR m p.root with
 | none=>simp
 | some r=>first | (simp; done) | (simp; exact Iff.rfl)
theorem lookO_some_ow {sub:List Sh} {l:List (List D)} {p:List Step} {P:Prop} (h:match lookO sub l p with | some (.ow _,.li _)=>True | _=>False) :
  ∃ s l',lookO sub l p=some (.ow s,.li l'):=by
 cases hl:lookO sub l p with
 | none=>rw [hl] at h; exact h.elim
 | some x=>
  obtain ⟨s,d⟩:=x
  rw [hl] at h
  cases s with
  | fr=>exact h.elim
  | ow s=>cases d with
   | li l'=>exact ⟨s,l',rfl⟩
   | _=>exact h.elim
theorem Keeps_store {w w':World} {H:FH} {γ:Gam} {m:Mm} {F:Nm->Fp} (hm:Mem w H γ m F) {p:Pl} (hp:okPl m p) {t0 t:T} (h0:getPl m p=some t0) (hno:t0.owned=false)
  {A:Addr} (hA:plA w γ p=some A) (hw:∀ a,a≠A->w'.cell? a=w.cell? a):Keeps w γ m w' γ (putPl m p t):=by
 have far:∀ q:Pl,okPl m q->(∃ s l,getPl m q=some (.ow s l))->plA w γ q≠some A:=by
  intro q hq ⟨s,l,hg⟩ e
  obtain ⟨e1,e2,e3⟩:=plA_inj hm hp hq hA e
  rw [getPl_congr e1 e2 e3,hg] at h0
  simp only [Option.some.injEq] at h0
  subst h0
  simp [T.owned] at hno
 have way:∀ q:Pl,okPl m q->plA w' γ q=plA w γ q/\(q.path≠[]->rootCell w' (γ q.root) q.off=rootCell w (γ q.root) q.off):=by
  intro q hq
  obtain ⟨n,off,path⟩:=q
  cases path with
  | nil=>exact ⟨rfl,fun h=>absurd rfl h⟩
  | cons st u=>
   obtain ⟨r,hr,hc⟩:=okPl_iff.1 hq
   dsimp only [okCells] at hr hc
   cases ht:r.cells[off]? with
   | none=>simp [ht] at hc
   | some tt=>
    rw [ht] at hc
    cases tt with
    | ow sub l=>
     have hlt:off<r.cells.length:=by
      rcases Nat.lt_or_ge off r.cells.length with h | h
      ·exact h
      ·rw [List.getElem?_eq_none h] at ht; simp at ht
     have h1:okPl m ⟨n,off,[]⟩:=okPl_iff.2 ⟨r,hr,hlt⟩
     have h2:=far ⟨n,off,[]⟩ h1 ⟨sub,l,by simp only [getPl,hr,ht]⟩
     have hcell:rootCell w' (γ n) off=rootCell w (γ n) off:=by
      cases hg:γ n with
      | gh v=>rfl
      | blk b=>
       simp only [plA,hg,ne_eq,Option.some.injEq] at h2
       simp only [rootCell]
       exact hw _ h2
     refine ⟨?_,fun _=>hcell⟩
     simp only [plA,hcell]
     cases hv:rootCell w (γ n) off with
     | none=>rfl
     | some v=>
      simp only [Option.bind_some]
      refine walkV_store hw (st::u) v (fun a b e ha hb=>?_)
      rw [e] at hc
      obtain ⟨c1,s,l',c2⟩:=okO_prefix a b sub l ha hb hc
      cases a with
      | nil=>exact absurd rfl ha
      | cons a1 a2=>
       have h3:okPl m ⟨n,off,a1::a2⟩:=okPl_iff.2 ⟨r,hr,by dsimp only [okCells]; rw [ht]; exact c1⟩
       have h4:=far ⟨n,off,a1::a2⟩ h3 ⟨s,l',by simp only [getPl,hr,ht,c2]⟩
       simpa only [plA,hv,Option.bind_some] using h4
    | _=>exact hc.elim
 obtain ⟨rp,hrp,hcp⟩:=okPl_iff.1 hp
 have hwf:∀ (off:Nat) (sub:List Sh) (l:List (List D)),rp.cells[off]? = some (T.ow sub l)->∀ n,wfO n sub l:=by
  intro off sub l ht n
  obtain ⟨v,g,_,⟨k,c2⟩,_⟩:=RootR_cell (hm.roots _ (getR_mem hrp)) ht
  exact OD_wfO n k sub l g v c2
 have hput:∀ q:Nm,getR (putPl m p t) q=if p.root=q then some { rp with cells:=match p.path with
   | []=>rp.cells.set p.off t
   | st::q=>match rp.cells[p.off]? with
    | some (.ow sub l)=>rp.cells.set p.off (.ow sub (setO sub l t.toD (st::q)))
    | _=>rp.cells } else getR m q:=by
  intro q
  unfold putPl
  rw [hrp]
  exact getR_setR hrp
 have hno':∀ st u,p.path=st::u->∀ (sub:List Sh) (l:List (List D)),rp.cells[p.off]? = some (T.ow sub l)->okO sub l (st::u)/\∀ s l',lookO sub l (st::u)≠some (.ow s,.li l'):=by
  intro st u hpath sub l ht
  rw [hpath] at hcp
  dsimp only [okCells] at hcp
  rw [ht] at hcp
  refine ⟨hcp,fun s l' h=>?_⟩
  simp only [getPl,hrp,hpath,ht,h,Option.some.injEq] at h0
  subst h0; simp [T.owned] at hno
 have hno2:p.path=[]->∀ (sub:List Sh) (l:List (List D)),rp.cells[p.off]? ≠ some (T.ow sub l):=by
  intro hpath sub l h
  simp only [getPl,hrp,hpath,h,Option.some.injEq] at h0
  subst h0; simp [T.owned] at hno
 have hpl:∀ q:Pl,okPl m q->okPl (putPl m p t) q:=by
  intro q hq
  obtain ⟨r,hr,hc⟩:=okPl_iff.1 hq
  rw [okPl_iff,hput]
  by_cases hn:p.root=q.root
  ·rw [if_pos hn]
   rw [<- hn,hrp] at hr
   obtain rfl:rp=r:=by simpa using hr
   refine ⟨_,rfl,?_⟩
   obtain ⟨n,off,path⟩:=q
   dsimp only at hc ⊢
   cases path with
   | nil=>
    dsimp only [okCells] at hc ⊢
    cases p.path with
    | nil=>simpa using hc
    | cons st u=>
     dsimp only
     split
     ·simpa using hc
     ·exact hc
   | cons st u=>
    dsimp only [okCells] at hc ⊢
    cases hpath:p.path with
    | nil=>
     dsimp only
     have:p.off≠off:=by
      intro e
      cases ht:rp.cells[off]? with
      | none=>simp [ht] at hc
      | some tt=>
       cases tt with
       | ow sub l=>exact hno2 hpath sub l (by rw [e]; exact ht)
       | _=>rw [ht] at hc; exact hc.elim
     rw [List.getElem?_set_ne this]
     exact hc
    | cons st' u'=>
     dsimp only
     cases htp:rp.cells[p.off]? with
     | none=>exact hc
     | some tp=>
      cases tp with
      | ow sub l=>
       dsimp only
       by_cases ho:p.off=off
       ·subst ho
        have hlt:p.off<rp.cells.length:=by
         rcases Nat.lt_or_ge p.off rp.cells.length with h | h
         ·exact h
         ·rw [List.getElem?_eq_none h] at htp; simp at htp
        rw [List.getElem?_set_self hlt]
        rw [htp] at hc
        obtain ⟨g1,g2⟩:=hno' st' u' hpath sub l htp
        exact (okO_setO (st::u) (st'::u') _ sub l t.toD (Nat.le_refl _) (hwf _ sub l htp _) hc g1 g2).1
       ·rw [List.getElem?_set_ne ho]; exact hc
      | _=>exact hc
  ·rw [if_neg hn]; exact ⟨r,hr,hc⟩
 have hrf:∀ q:Pl,okRf m q->okRf (putPl m p t) q:=by
  intro q hq
  obtain ⟨r,hr,hc⟩:=okRf_iff.1 hq
  rw [okRf_iff,hput]
  by_cases hn:p.root=q.root
  ·rw [if_pos hn]
   rw [<- hn,hrp] at hr
   obtain rfl:rp=r:=by simpa using hr
   refine ⟨_,rfl,?_⟩
   obtain ⟨n,off,path⟩:=q
   dsimp only at hc ⊢
   unfold okRfCells at hc ⊢
   cases ht:rp.cells[off]? with
   | none=>rw [ht] at hc; cases path <;> exact hc.elim
   | some tt=>
    cases tt with
    | ow sub0 l0=>
     rw [ht] at hc
     cases hpath:p.path with
     | nil=>
      dsimp only
      have:p.off≠off:=fun e=>hno2 hpath sub0 l0 (by rw [e]; exact ht)
      rw [List.getElem?_set_ne this,ht]
      exact hc
     | cons st' u'=>
      dsimp only
      cases htp:rp.cells[p.off]? with
      | none=>dsimp only; rw [ht]; exact hc
      | some tp=>
       cases tp with
       | ow sub l=>
        dsimp only
        by_cases ho:p.off=off
        ·subst ho
         have hlt:p.off<rp.cells.length:=by
          rcases Nat.lt_or_ge p.off rp.cells.length with h | h
          ·exact h
          ·rw [List.getElem?_eq_none h] at htp; simp at htp
         rw [List.getElem?_set_self hlt]
         rw [htp] at ht
         simp only [Option.some.injEq,T.ow.injEq] at ht
         obtain ⟨rfl,rfl⟩:=ht
         cases path with
         | nil=>trivial
         | cons st u=>
          dsimp only at hc ⊢
          obtain ⟨g1,g2⟩:=hno' st' u' hpath _ _ htp
          obtain ⟨k1,k2⟩:=okO_setO (st::u) (st'::u') _ _ _ t.toD (Nat.le_refl _) (hwf _ _ _ htp _) hc.1 g1 g2
          obtain ⟨s,l',e⟩:=lookO_some_ow (P:=True) hc.2
          obtain ⟨l'',e'⟩:=k2 s l' e
          exact ⟨k1,by rw [e']; trivial⟩
        ·rw [List.getElem?_set_ne ho,ht]; exact hc
       | _=>dsimp only; rw [ht]; exact hc
    | _=>rw [ht] at hc; cases path <;> exact hc.elim
  ·rw [if_neg hn]; exact ⟨r,hr,hc⟩
 refine ⟨fun q hq=>⟨hpl q hq,(way q hq).1⟩,fun q hq=>⟨hrf q hq,?_⟩⟩
 have hq':=okPl_of_rf hq
 obtain ⟨e1,e2⟩:=way q hq'
 have hg:∃ s l,getPl m q=some (.ow s l):=by
  obtain ⟨r,hr,hc⟩:=okRf_iff.1 hq
  unfold okRfCells at hc
  unfold getPl
  rw [hr]
  cases ht:r.cells[q.off]? with
  | none=>rw [ht] at hc; cases hpq:q.path <;> (rw [hpq] at hc; exact hc.elim)
  | some tt=>
   cases hpq:q.path with
   | nil=>
    rw [ht,hpq] at hc
    cases tt with
    | ow sub l=>exact ⟨sub,l,by dsimp only; exact ht⟩
    | _=>exact hc.elim
   | cons st u=>
    rw [ht,hpq] at hc
    cases tt with
    | ow sub l=>
     obtain ⟨s,l',e⟩:=lookO_some_ow (P:=True) hc.2
     exact ⟨s,l',by simp only [ht,e]⟩
    | _=>exact hc.elim
 have hfar:=far q hq' hg
 obtain ⟨n,off,path⟩:=q
 cases path with
 | nil=>
  simp only [plV]
  cases hgm:γ n with
  | gh v=>rfl
  | blk b=>
   simp only [plA,hgm,ne_eq,Option.some.injEq] at hfar
   exact hw _ hfar
 | cons st u=>
  have e2':=e2 (by simp)
  simp only [plA,e2'] at e1 hfar
  simp only [plV,e2',e1]
  cases hz:(rootCell w (γ n) off).bind fun y=>walkV w y (st::u) with
  | none=>rfl
  | some a=>
   simp only [Option.bind_some]
   exact hw a (fun e=>hfar (by rw [hz,e]))
end Go.Am
end

section
namespace Go.Am
def fitsSh:Sh->T->Prop
 | .fr,.d _=>True
 | .fr,.nil=>True
 | .ow s,.ow s' _=>s=s'
 | .ow _,.nil=>True
 | _,_=>False
theorem FDx_nil {H:FH}:FDx H (.li []) (.slice none 0 0):=⟨1,none,0,rfl,Nat.le_refl _,Nat.zero_le _,.inl rfl⟩
theorem TR_OD {w:World} {H:FH} {γ:Gam} {m:Mm} {s:Sh} {t:T} {f:Fp} {y:Value} (hs:fitsSh s t) (h:TR w H γ m t f y):∃ k,OD w H k s t.toD f y:=by
 cases s with
 | fr=>
  cases t with
  | d x=>exact ⟨0,OD_fr.2 h⟩
  | nil=>obtain ⟨h0,rfl⟩:=h; exact ⟨0,OD_fr.2 ⟨h0,FDx_nil⟩⟩
  | _=>exact hs.elim
 | ow s=>
  cases t with
  | ow s' l=>obtain rfl:s=s':=hs; exact h
  | nil=>obtain ⟨h0,rfl⟩:=h; exact ⟨1,OD_ow.2 (.inl ⟨rfl,rfl,h0⟩)⟩
  | _=>exact hs.elim
def shPl (m:Mm) (p:Pl):Option Sh:=
 match getR m p.root with
 | none=>none
 | some r=>match r.cells[p.off]? with
  | some (.ow sub l)=>(lookO sub l p.path).map (·.1)
  | _=>none
theorem tot_setR {F:Nm->Fp} {m:Mm} {n:Nm} {r:Root} {b:Nat}:tot F (setR m n r) b=tot F m b:=by
 induction m with
 | nil=>rfl
 | cons x m ih=>
  obtain ⟨k,y⟩:=x
  simp only [setR]
  split
  ·rename_i hk; subst hk; rfl
  ·simp only [tot_cons,ih]
theorem keys_setR {m:Mm} {n:Nm} {r:Root}:(setR m n r).map (·.1)=m.map (·.1):=by
 induction m with
 | nil=>rfl
 | cons x m ih=>
  obtain ⟨k,y⟩:=x
  simp only [setR]
  split <;> simp [ih]
theorem mem_setR {m:Mm} {n:Nm} {r:Root} (hk:(m.map (·.1)).Nodup) {x:Nm×Root} (h:x∈setR m n r):(x.1≠n/\x∈m)\/x=(n,r):=by
 induction m with
 | nil=>simp [setR] at h
 | cons z m ih=>
  obtain ⟨k,y⟩:=z
  simp only [List.map_cons,List.nodup_cons] at hk
  simp only [setR] at h
  split at h
  ·rename_i e
   subst e
   rcases List.mem_cons.1 h with h | h
   ·exact .inr h
   ·refine .inl ⟨fun e=>hk.1 ?_,List.mem_cons_of_mem _ h⟩
    rw [<- e]; exact List.mem_map_of_mem h
  ·rename_i e
   rcases List.mem_cons.1 h with h | h
   ·subst h; exact .inl ⟨e,by simp⟩
   ·rcases ih hk.2 h with ⟨a,b⟩ | h
    ·exact .inl ⟨a,List.mem_cons_of_mem _ b⟩
    ·exact .inr h
theorem tot_zero {F:Nm->Fp} {m:Mm} {n:Nm} {ft:Fp} {b:Nat} (h:n ∉ m.map (·.1)):tot (fun k b=>F k b+if k=n then ft b else 0) m b=tot F m b:=by
 induction m with
 | nil=>rfl
 | cons x m ih=>
  simp only [List.map_cons,List.mem_cons,not_or] at h
  rw [tot_cons,tot_cons,ih h.2,if_neg (fun e=>h.1 e.symm)]; rfl
theorem tot_upd {F:Nm->Fp} {m:Mm} {n:Nm} {r:Root} {ft:Fp} {b:Nat} (hk:(m.map (·.1)).Nodup) (h:getR m n=some r) :
  tot (fun k b=>F k b+if k=n then ft b else 0) m b=tot F m b+ft b:=by
 induction m with
 | nil=>simp [getR] at h
 | cons x m ih=>
  obtain ⟨k,y⟩:=x
  simp only [List.map_cons,List.nodup_cons] at hk
  simp only [getR] at h
  rw [tot_cons,tot_cons]
  split at h
  ·rename_i e
   subst e
   rw [tot_zero hk.1]; simp; omega
  ·rename_i e
   rw [ih hk.2 h]; simp [e]; omega
theorem heap_setCell {w:World} {b k:Nat} {y:Value} {cs:Array Value} {ty:TypeId} {fz:Nat×Nat} (h:w.heap[b]? = some (.cells cs ty fz)) :
  (w.setCell ⟨b,k,none⟩ y).heap[b]? = some (.cells (cs.setIfInBounds k y) ty fz):=by
 simp only [World.setCell,Array.getElem?_modify,if_true,h,Option.map_some]
 rfl
theorem frozen_ok {w:World} {b k:Nat} {cs:Array Value} {ty:TypeId} {fz:Nat×Nat} (h:w.heap[b]? = some (.cells cs ty fz)) (h2:okFr fz cs.size) (_:k<cs.size) :
  w.frozen? ⟨b,k,none⟩=false:=by
 unfold okFr at h2
 subst h2
 simp [World.frozen?,h]
theorem heap_setCell_ne {w:World} {b b' k:Nat} {y:Value} (h:b'≠b):(w.setCell ⟨b,k,none⟩ y).heap[b']? = w.heap[b']? := by
 simp only [World.setCell,Array.getElem?_modify]
 rw [if_neg (fun e=>h e.symm)]
theorem Mem_store {w:World} {H:FH} {γ:Gam} {m:Mm} {F:Nm->Fp} (hm:Mem w H γ m F) {p:Pl} (hp:okPl m p) {t0 t:T} (h0:getPl m p=some t0) (hno:t0.owned=false)
  {b k:Nat} (hA:plA w γ p=some ⟨b,k,none⟩) {ft:Fp} {y:Value} (ht:TR w H γ m t ft y) (hone:oneC y=true)
  (hfit:p.path=[]\/∃ s,shPl m p=some s/\fitsSh s t)
  (hd:∀ c,tot F m c+ft c<=1) (hl:∀ c,ft c≠0->c<w.heap.size/\∀ o,H c o=none) :
  (∃ z,w.cell? ⟨b,k,none⟩=some z)/\w.frozen? ⟨b,k,none⟩=false /\
   Mem (w.setCell ⟨b,k,none⟩ y) H γ (putPl m p t) (fun n c=>F n c+if n=p.root then ft c else 0):=by
 have hin:=(plA_in hm hp hA).1
 dsimp only at hin
 have hftb:ft b=0:=by
  obtain ⟨r,hr,_⟩:=okPl_iff.1 hp
  have:=tot_ge (F:=F) (getR_mem hr) b; have:=hd b; dsimp only at *; omega
 have hw:∀ a,a≠(⟨b,k,none⟩:Addr)->(w.setCell ⟨b,k,none⟩ y).cell? a=w.cell? a:=fun a ha=>World.cell?_setCell_other _ _ _ _ (fun e=>ha e.symm)
 have hK:=Keeps_store hm hp h0 hno (t:=t) hA hw
 obtain ⟨rp,hrp,hcp⟩:=okPl_iff.1 hp
 have hle0:∀ c,F p.root c<=1:=fun c=>by have:=hm.le1 c; have:=tot_ge (F:=F) (getR_mem hrp) c; dsimp only at this; omega
 have hroot:=hm.roots _ (getR_mem hrp)
 dsimp only at hroot
 have hob:∀ c,c≠b->(w.setCell ⟨b,k,none⟩ y).heap[c]? = w.heap[c]? := fun c hc=>heap_setCell_ne hc
 have htk:TR (w.setCell ⟨b,k,none⟩ y) H γ (putPl m p t) t ft y:=TR_keeps hK (fun _ _ _ h=>h) (fun c hc=>hob c (by intro e; subst e; exact hc hftb)) ht
 have main:(∃ z,w.cell? ⟨b,k,none⟩=some z)/\w.frozen? ⟨b,k,none⟩=false /\
   RootR (w.setCell ⟨b,k,none⟩ y) H γ (putPl m p t) p.root { rp with cells:=match p.path with
    | []=>rp.cells.set p.off t
    | st::q=>match rp.cells[p.off]? with
     | some (.ow sub l)=>rp.cells.set p.off (.ow sub (setO sub l t.toD (st::q)))
     | _=>rp.cells } (fun c=>F p.root c+ft c):=by
  have tree:∀ (st:Step) (u:List Step) (sub:List Sh) (l:List (List D)) (v:Value) (g:Fp),p.path=st::u->rp.cells[p.off]? = some (.ow sub l)->okO sub l (st::u) ->
    TR w H γ m (.ow sub l) g v->(∀ c,g c<=1)->walkV w v (st::u)=some ⟨b,k,none⟩ ->
    (∃ z,w.cell? ⟨b,k,none⟩=some z)/\w.frozen? ⟨b,k,none⟩=false/\g b≠0 /\
     TR (w.setCell ⟨b,k,none⟩ y) H γ (putPl m p t) (.ow sub (setO sub l t.toD (st::u))) (fun c=>g c+ft c) v:=by
   intro st u sub l v g hpath ht' hok ⟨n,hod⟩ hle hwalk
   obtain ⟨b',k',z,s,x,cs,ty,fz,f1,f2,c1,c2,c3,c4,c5,c6,c7,c8,c9⟩:=OD_path (st::u) n sub l g v hod hle hok
   rw [hwalk] at c1
   simp only [Option.some.injEq,Addr.mk.injEq,and_true] at c1
   obtain ⟨rfl,rfl⟩:=c1
   have hk:k<cs.size:=by
    rcases Nat.lt_or_ge k cs.size with h | h
    ·exact h
    ·rw [Array.getElem?_eq_none h] at c4; simp at c4
   refine ⟨⟨z,by simp [World.cell?,c2,c4]⟩,?_,by have:=c6 b; omega,?_⟩
   ·exact frozen_ok c2 c3 hk
   · -- its cell was not owned
    have hf1:∀ c,f1 c=0:=by
     have hg:getPl m p=some (match s,x with | .fr,x=>.d x | .ow s,.li l'=>.ow s l' | .ow _,_=>.any):=by
      unfold getPl
      rw [hrp,hpath]
      simp only [ht',c5]
      cases s with
      | fr=>rfl
      | ow s=>cases x <;> rfl
     rw [h0] at hg
     simp only [Option.some.injEq] at hg
     cases s with
     | fr=>exact (OD_fr.1 c8).1
     | ow s=>cases x with
      | li l'=>rw [hg] at hno; simp [T.owned] at hno
      | any=>cases n <;> simpa [OD] using c8
      | _=>cases n <;> simp [OD] at c8
    have hsh:fitsSh s t:=by
     rcases hfit with h | ⟨s',h1,h2⟩
     ·rw [hpath] at h; simp at h
     ·unfold shPl at h1
      rw [hrp] at h1
      simp only [ht',hpath,c5,Option.map_some,Option.some.injEq] at h1
      rw [h1]; exact h2
    obtain ⟨j,hj⟩:=TR_OD hsh htk
    obtain ⟨M,hM⟩:=c9 (w.setCell ⟨b,k,none⟩ y) H y t.toD ft j (fun _ _ _ h=>h) (heap_setCell c2) (fun c h1 _=>hob c h1) hj
    exact ⟨M,OD_congr (fun c=>by have:=hf1 c; have:=c6 c; omega) hM⟩
  unfold RootR at hroot ⊢
  dsimp only
  split at hroot
  ·rename_i hb
   rw [if_pos hb]
   obtain ⟨b0,cs,ty,fz,g,h1,h2,h3,h4,h5,h6⟩:=hroot
   cases hpath:p.path with
   | nil=>
    dsimp only
    simp only [plA,hpath,h1,Option.some.injEq,Addr.mk.injEq,and_true] at hA
    obtain ⟨rfl,rfl⟩:=hA
    rw [hpath] at hcp
    dsimp only [okCells] at hcp
    obtain ⟨s,x,v,fk,fr,a1,a2,a3,a4,a5,a6,_⟩:=Cs_focus _ _ _ _ _ h5 hcp
    have hv:cs[p.off]? = some v:=by simpa using a3
    have hk:p.off<cs.size:=by omega
    refine ⟨⟨v,by simp [World.cell?,h2,hv]⟩,?_,b0,cs.setIfInBounds p.off y,ty,fz,fun c=>ft c+fr c,h1,heap_setCell h2,by simpa using h3,by simpa using h4,?_,?_⟩
    ·exact frozen_ok h2 h3.1 hk
    ·unfold Ts
     rw [List.length_set]
     have:=a6 (fun _ t'=>TR (w.setCell ⟨b0,p.off,none⟩ y) H γ (putPl m p t) t') t y ft (fun _ x g' v hg' hx=>TR_keeps hK (fun _ _ _ h=>h) (fun c hc=>hob c (by
       intro e; subst e; have:=hg' c; have:=a4 c; have:=h6 c; have:=hle0 c; simp at *; omega)) hx) htk
     simpa using this
    ·intro c
     have:fk c=0:=by
      simp only [getPl,hrp,hpath,a2,Option.some.injEq] at h0
      subst h0
      cases x with
      | ow sub l=>simp [T.owned] at hno
      | d x=>exact a5.1 c
      | nil=>exact a5.1 c
      | el row off=>exact a5.1 c
      | pl q=>exact a5.1 c
      | rf q=>exact a5.1 c
      | any=>exact a5 c
     have:=a4 c; have:=h6 c; dsimp only; omega
   | cons st u=>
    rw [hpath] at hcp
    dsimp only [okCells] at hcp
    cases htt:rp.cells[p.off]? with
    | none=>simp [htt] at hcp
    | some tt=>
     rw [htt] at hcp
     cases tt with
     | ow sub l=>
      dsimp only at hcp ⊢
      have hlt:p.off<rp.cells.length:=by
       rcases Nat.lt_or_ge p.off rp.cells.length with h | h
       ·exact h
       ·rw [List.getElem?_eq_none h] at htt; simp at htt
      obtain ⟨s,x,v,fk,fr,a1,a2,a3,a4,a5,a6,_⟩:=Cs_focus _ _ _ _ _ h5 hlt
      rw [htt] at a2
      obtain rfl:T.ow sub l=x:=by simpa using a2
      have hv:cs[p.off]? = some v:=by simpa using a3
      have hwalk:walkV w v (st::u)=some ⟨b,k,none⟩:=by
       simpa only [plA,hpath,h1,rootCell,World.cell?,h2,Option.isSome_none,Bool.false_eq_true,if_false,hv,Option.bind_some] using hA
      obtain ⟨e1,e2,e3,e4⟩:=tree st u sub l v fk hpath htt hcp a5 (fun c=>by have:=a4 c; have:=h6 c; have:=hle0 c; omega) hwalk
      have hbb:b0≠b:=by
       intro e; subst e
       have:=a4 b0; have:=h6 b0; have:=hle0 b0; simp at *; omega
      refine ⟨e1,e2,b0,cs,ty,fz,fun c=>(fk c+ft c)+fr c,h1,by rw [hob b0 hbb]; exact h2,h3,by simpa using h4,?_,?_⟩
      ·unfold Ts
       rw [List.length_set]
       have:=a6 (fun _ t'=>TR (w.setCell ⟨b,k,none⟩ y) H γ (putPl m p t) t') (.ow sub (setO sub l t.toD (st::u))) v (fun c=>fk c+ft c) (fun _ x g' v hg' hx=>TR_keeps hK (fun _ _ _ h=>h) (fun c hc=>hob c (by
         intro e; subst e; have:=hg' c; have:=a4 c; have:=h6 c; have:=hle0 c; omega)) hx) e4
       have hs:cs.toList.set p.off v=cs.toList:=by
        apply List.ext_getElem?
        intro n
        rw [List.getElem?_set]
        by_cases hn:p.off=n
        ·subst hn
         rw [if_pos rfl,if_pos (by simpa using (by omega:p.off<cs.size))]; exact a3.symm
        ·simp [hn]
       rw [hs] at this
       exact this
      ·intro c; have:=a4 c; have:=h6 c; dsimp only; omega
     | _=>exact hcp.elim
  ·rename_i hb
   rw [if_neg hb]
   obtain ⟨v,t',h1,h2,h3⟩:=hroot
   cases hpath:p.path with
   | nil=>simp [plA,hpath,h1] at hA
   | cons st u=>
    rw [hpath] at hcp
    dsimp only [okCells] at hcp
    cases htt:rp.cells[p.off]? with
    | none=>simp [htt] at hcp
    | some tt=>
     rw [htt] at hcp
     cases tt with
     | ow sub l=>
      dsimp only at hcp ⊢
      have hoff:p.off=0:=by
       rw [h2] at htt
       cases ho:p.off with
       | zero=>rfl
       | succ n=>rw [ho] at htt; simp at htt
      have htt':=htt
      rw [h2,hoff] at htt'
      obtain rfl:t'=T.ow sub l:=by simpa using htt'
      have hwalk:walkV w v (st::u)=some ⟨b,k,none⟩:=by
       simpa only [plA,hpath,h1,rootCell,hoff,if_true,Option.bind_some] using hA
      obtain ⟨e1,e2,e3,e4⟩:=tree st u sub l v (F p.root) hpath htt hcp h3 hle0 hwalk
      refine ⟨e1,e2,v,_,h1,?_,e4⟩
      rw [h2,hoff]; rfl
     | _=>exact hcp.elim
 obtain ⟨m1,m2,m3⟩:=main
 refine ⟨m1,m2,?_⟩
 have hpe:putPl m p t=setR m p.root { rp with cells:=match p.path with
    | []=>rp.cells.set p.off t
    | st::q=>match rp.cells[p.off]? with
     | some (.ow sub l)=>rp.cells.set p.off (.ow sub (setO sub l t.toD (st::q)))
     | _=>rp.cells }:=by
  unfold putPl; rw [hrp]; try rfl
 have htot:∀ c,tot (fun n c=>F n c+if n=p.root then ft c else 0) (putPl m p t) c=tot F m c+ft c:=by
  intro c; rw [hpe,tot_setR,tot_upd hm.keys hrp]
 constructor
 ·intro b' o v hv
  rw [hw]
  ·exact hm.agree b' o v hv
  ·intro e
   simp only [Addr.mk.injEq,and_true] at e
   obtain ⟨rfl,rfl⟩:=e
   have:=hm.nofz b' (by have:=tot_ge (F:=F) (getR_mem hrp) b'; dsimp only at this; omega) o
   rw [this] at hv; simp at hv
 ·intro x hx
  rw [hpe] at hx
  rcases mem_setR hm.keys hx with ⟨hn,hx⟩ | rfl
  ·have h:=RootR_keeps (γ':=γ) hK (fun _ _ _ h=>h) rfl (fun c hc=>hob c (by
    intro e; subst e
    have:=tot_two (F:=F) (getR_mem hrp) hx (fun e=>hn e.symm) c
    have:=hm.le1 c; dsimp only at *; omega)) (hm.roots x hx)
   have e:(fun c=>F x.1 c+if x.1=p.root then ft c else 0)=F x.1:=by funext c; simp [hn]
   show RootR _ _ _ _ _ _ (fun c=>F x.1 c+if x.1=p.root then ft c else 0)
   rw [e]; exact h
  ·have e:(fun c=>F p.root c+if p.root=p.root then ft c else 0)=fun c=>F p.root c+ft c:=by funext c; simp
   show RootR _ _ _ _ _ _ (fun c=>F p.root c+if p.root=p.root then ft c else 0)
   rw [e]; exact m3
 ·rw [hpe,keys_setR]; exact hm.keys
 ·intro c; rw [htot]; exact hd c
 ·intro c hc
  rw [htot] at hc
  simp only [World.size_setCell]
  by_cases h:ft c=0
  ·exact hm.lt c (by omega)
  ·exact (hl c h).1
 ·intro c hc
  rw [htot] at hc
  by_cases h:ft c=0
  ·exact hm.nofz c (by omega)
  ·exact (hl c h).2
end Go.Am
end

section
namespace Go.Am
def Pl.offs (p:Pl):List Nat:=p.off::p.path.map (·.off)
def thr (q:Pl) (rf:Bool) (p:Pl):Bool:=decide (q.root=p.root)&&q.offs.isPrefixOf p.offs&&(rf||q.offs != p.offs)
def T.kill (bad:Bool->Pl->Bool):T->T
 | .pl p=>if bad false p then .any else .pl p
 | .rf p=>if bad true p then .any else .rf p
 | t=>t
def AV1.kill (bad:Bool->Pl->Bool):AV1->AV1
 | .c t=>.c (t.kill bad)
 | .agg ts=>.agg (ts.map (·.kill bad))
def AV.kill (bad:Bool->Pl->Bool):AV->AV
 | .one x=>.one (x.kill bad)
 | .tup xs=>.tup (xs.map (·.kill bad))
 | .any=>.any
def killM (bad:Bool->Pl->Bool) (m:Mm):Mm:=m.map fun x=>(x.1,{ x.2 with cells:=x.2.cells.map (·.kill bad) })
def killT (bad:Bool->Pl->Bool) (t:List (Nat×AV)):List (Nat×AV):=t.map fun x=>(x.1,x.2.kill bad)
structure KeepsB (bad:Bool->Pl->Bool) (w:World) (γ:Gam) (m:Mm) (w':World) (γ':Gam) (m':Mm):Prop where
 pl:∀ q,bad false q=false->okPl m q->okPl m' q/\plA w' γ' q=plA w γ q
 rf:∀ q,bad true q=false->okRf m q->okRf m' q/\plV w' γ' q=plV w γ q
section
variable {bad:Bool->Pl->Bool} {w w':World} {H H':FH} {γ γ':Gam} {m m':Mm}
theorem TR_kill (hK:KeepsB bad w γ m w' γ' m') (hH:∀ b o y,H b o=some y->H' b o=some y)
  {t:T} {f:Fp} {y:Value} (hw:∀ b,f b≠0->w'.heap[b]? = w.heap[b]?) (h:TR w H γ m t f y):TR w' H' γ' m' (t.kill bad) f y:=by
 cases t with
 | d x=>exact ⟨h.1,FDx_mono hH h.2⟩
 | nil=>exact h
 | ow sub l=>obtain ⟨k,h⟩:=h; exact ⟨k,OD_frame hH k k _ _ _ _ (Nat.le_refl _) hw h⟩
 | el row off=>obtain ⟨h0,b,o,k,h1,h2⟩:=h; exact ⟨h0,b,o,k,h1,FRow_mono hH h2⟩
 | pl p=>
  obtain ⟨h0,h1,a,h2,h3⟩:=h
  simp only [T.kill]
  split
  ·exact h0
  ·rename_i hb
   obtain ⟨k1,k2⟩:=hK.pl p (by simpa using hb) h1
   exact ⟨h0,k1,a,by rw [k2]; exact h2,h3⟩
 | rf p=>
  obtain ⟨h0,h1,h2⟩:=h
  simp only [T.kill]
  split
  ·exact h0
  ·rename_i hb
   obtain ⟨k1,k2⟩:=hK.rf p (by simpa using hb) h1
   exact ⟨h0,k1,by rw [k2]; exact h2⟩
 | any=>exact h
theorem Cs_map {α β:Type} {R R':α->β->Fp->Value->Prop} {g:β->β}:∀ {ss:List α} {xs:List β} {f:Fp} {vs:List Value},
  (∀ s x h v,(∀ b,h b<=f b)->R s x h v->R' s (g x) h v)->Cs R ss xs f vs->Cs R' ss (xs.map g) f vs
 | [],[],_,_,_,h=>h
 | s::ss,x::xs,f,vs,hR,h=>by
  obtain ⟨v,r,f1,f2,hv,hf,h1,h2⟩:=h
  exact ⟨v,r,f1,f2,hv,hf,hR _ _ _ _ (fun b=>by have:=hf b; omega) h1,Cs_map (fun s x h v hh=>hR s x h v (fun b=>by have:=hf b; have:=hh b; omega)) h2⟩
 | [],_::_,_,_,_,h=>h.elim
 | _::_,[],_,_,_,h=>h.elim
theorem Ts_kill (hK:KeepsB bad w γ m w' γ' m') (hH:∀ b o y,H b o=some y->H' b o=some y)
  {ts:List T} {f:Fp} {vs:List Value} (hw:∀ b,f b≠0->w'.heap[b]? = w.heap[b]?) (h:Ts (TR w H γ m) ts f vs):Ts (TR w' H' γ' m') (ts.map (·.kill bad)) f vs:=by
 unfold Ts
 rw [List.length_map]
 exact Cs_map (fun _ _ g _ hg ht=>TR_kill hK hH (fun b hb=>hw b (by have:=hg b; omega)) ht) h
theorem AR1_kill (hK:KeepsB bad w γ m w' γ' m') (hH:∀ b o y,H b o=some y->H' b o=some y) {x:AV1} {y:Value} (h:AR1 w H γ m x y):AR1 w' H' γ' m' (x.kill bad) y:=by
 cases x with
 | c t=>exact TR_kill hK hH (fun b hb=>absurd rfl hb) h
 | agg ts=>obtain ⟨cs,h1,h2,h3⟩:=h; exact ⟨cs,h1,by rw [List.length_map]; exact h2,Ts_kill hK hH (fun b hb=>absurd rfl hb) h3⟩
theorem ARs_kill (hK:KeepsB bad w γ m w' γ' m') (hH:∀ b o y,H b o=some y->H' b o=some y) :
  ∀ {xs:List AV1} {ys:List Value},ARs w H γ m xs ys->ARs w' H' γ' m' (xs.map (·.kill bad)) ys
 | [],[],_=>trivial
 | _::_,_::_,h=>⟨AR1_kill hK hH h.1,ARs_kill hK hH h.2⟩
 | [],_::_,h=>h.elim
 | _::_,[],h=>h.elim
theorem AR_kill (hK:KeepsB bad w γ m w' γ' m') (hH:∀ b o y,H b o=some y->H' b o=some y) {x:AV} {y:Value} (h:AR w H γ m x y):AR w' H' γ' m' (x.kill bad) y:=by
 cases x with
 | one x=>exact AR1_kill hK hH h
 | tup xs=>obtain ⟨l,h1,h2⟩:=h; exact ⟨l,h1,ARs_kill hK hH h2⟩
 | any=>trivial
theorem RootR_kill (hK:KeepsB bad w γ m w' γ' m') (hH:∀ b o y,H b o=some y->H' b o=some y)
  {n:Nm} {r:Root} {f:Fp} (hg:γ' n=γ n) (hw:∀ b,f b≠0->w'.heap[b]? = w.heap[b]?) (h:RootR w H γ m n r f) :
  RootR w' H' γ' m' n { r with cells:=r.cells.map (·.kill bad) } f:=by
 unfold RootR at h ⊢
 dsimp only
 split at h
 ·rename_i hb
  rw [if_pos hb]
  obtain ⟨b,cs,ty,fz,g,h1,h2,h3,h4,h5,h6⟩:=h
  exact ⟨b,cs,ty,fz,g,by rw [hg]; exact h1,by rw [hw b (by rw [h6]; simp)]; exact h2,h3,by rw [List.length_map]; exact h4,
   Ts_kill hK hH (fun c hc=>hw c (by have:=h6 c; omega)) h5,h6⟩
 ·rename_i hb
  rw [if_neg hb]
  obtain ⟨v,t,h1,h2,h3⟩:=h
  exact ⟨v,t.kill bad,by rw [hg]; exact h1,by rw [h2]; rfl,TR_kill hK hH hw h3⟩
end
theorem getR_killM {bad:Bool->Pl->Bool} {m:Mm} {n:Nm}:getR (killM bad m) n=(getR m n).map fun r=>{ r with cells:=r.cells.map (·.kill bad) }:=by
 induction m with
 | nil=>rfl
 | cons x m ih=>
  obtain ⟨k,y⟩:=x
  simp only [killM,List.map_cons,getR]
  split
  ·rfl
  ·exact ih
theorem okCells_kill {bad:Bool->Pl->Bool} {cells:List T} {off:Nat} {path:List Step} (h:okCells cells off path):okCells (cells.map (·.kill bad)) off path:=by
 cases path with
 | nil=>simpa [okCells] using h
 | cons st u=>
  simp only [okCells,List.getElem?_map] at h ⊢
  cases ht:cells[off]? with
  | none=>rw [ht] at h; exact h.elim
  | some t=>
   rw [ht] at h
   cases t with
   | ow sub l=>exact h
   | _=>exact h.elim
theorem okRfCells_kill {bad:Bool->Pl->Bool} {cells:List T} {off:Nat} {path:List Step} (h:okRfCells cells off path):okRfCells (cells.map (·.kill bad)) off path:=by
 unfold okRfCells at h ⊢
 simp only [List.getElem?_map]
 cases ht:cells[off]? with
 | none=>rw [ht] at h; cases path <;> exact h.elim
 | some t=>
  rw [ht] at h
  cases t with
  | ow sub l=>exact h
  | _=>cases path <;> exact h.elim
theorem okPl_killM {bad:Bool->Pl->Bool} {m:Mm} {q:Pl} (h:okPl m q):okPl (killM bad m) q:=by
 rw [okPl_iff] at h ⊢
 obtain ⟨r,h1,h2⟩:=h
 rw [getR_killM,h1]
 exact ⟨_,rfl,okCells_kill h2⟩
theorem okRf_killM {bad:Bool->Pl->Bool} {m:Mm} {q:Pl} (h:okRf m q):okRf (killM bad m) q:=by
 rw [okRf_iff] at h ⊢
 obtain ⟨r,h1,h2⟩:=h
 rw [getR_killM,h1]
 exact ⟨_,rfl,okRfCells_kill h2⟩
theorem tot_killM {bad:Bool->Pl->Bool} {F:Nm->Fp} {m:Mm} {b:Nat}:tot F (killM bad m) b=tot F m b:=by
 induction m with
 | nil=>rfl
 | cons x m ih=>simp only [killM,List.map_cons,tot_cons]; rw [show tot F (List.map _ m) b=tot F m b from ih]
theorem keys_killM {bad:Bool->Pl->Bool} {m:Mm}:(killM bad m).map (·.1)=m.map (·.1):=by
 simp [killM,Function.comp_def]
theorem okO_setB:∀ (p q:List Step) (sub:List Sh) (l:List (List D)) (x:D) (n:Nat),p.length+q.length<=n->wfO n sub l->okO sub l p->okO sub l q ->
  ((q.map (·.off)).isPrefixOf (p.map (·.off))=false\/q.map (·.off)=p.map (·.off)->okO sub (setO sub l x q) p) /\
  ((q.map (·.off)).isPrefixOf (p.map (·.off))=false->∀ s l',lookO sub l p=some (.ow s,.li l')->∃ l'',lookO sub (setO sub l x q) p=some (.ow s,.li l'')):=by
 intro p
 induction p with
 | nil=>intro q sub l x n _ _ h; exact h.elim
 | cons st r ih=>
  intro q sub l x n hn hwf hp hq
  cases q with
  | nil=>exact hq.elim
  | cons st' r'=>
  cases n with
  | zero=>simp at hn
  | succ n=>
  obtain ⟨hlen,hdeep⟩:=hwf
  have hst:st.idx<l.length/\st.esz=sub.length/\st.off<sub.length:=by
   cases r with
   | nil=>exact hp
   | cons _ _=>exact hp.1
  have hst':st'.idx<l.length/\st'.esz=sub.length/\st'.off<sub.length:=by
   cases r' with
   | nil=>exact hq
   | cons _ _=>exact hq.1
  obtain ⟨hi,he,ho⟩:=hst
  obtain ⟨hi',he',ho'⟩:=hst'
  have hle:st'.off < (l.getD st'.idx []).length:=by
   have:l.getD st'.idx []=l[st'.idx]:=by simp [List.getD,hi']
   rw [this,hlen _ (List.getElem_mem hi')]; exact ho'
  have key:∃ y,setO sub l x (st'::r')=l.set st'.idx ((l.getD st'.idx []).set st'.off y) /\
    (∀ t u,r'=t::u->∃ s2 l2,sub[st'.off]? = some (.ow s2)/\(l.getD st'.idx []).getD st'.off default=.li l2/\y=.li (setO s2 l2 x (t::u))/\okO s2 l2 (t::u)):=by
   cases r' with
   | nil=>exact ⟨x,rfl,fun t u h=>by simp at h⟩
   | cons t u=>
    obtain ⟨_,hq⟩:=hq
    cases hs:sub[st'.off]? with
    | none=>rw [hs] at hq; exact hq.elim
    | some s0=>
     rw [hs] at hq
     cases s0 with
     | fr=>exact hq.elim
     | ow s2=>
      cases hd:(l.getD st'.idx []).getD st'.off default with
      | li l2=>
       rw [hd] at hq
       refine ⟨.li (setO s2 l2 x (t::u)),by simp only [setO,hs,hd],fun t' u' h=>?_⟩
       obtain ⟨rfl,rfl⟩:=List.cons.inj h
       exact ⟨s2,l2,rfl,rfl,rfl,hq⟩
      | _=>rw [hd] at hq; exact hq.elim
  obtain ⟨y,hset,hsame⟩:=key
  rw [hset]
  have hget:=fun i' j'=>getD2_set (l:=l) (i:=st'.idx) (j:=st'.off) (i':=i') (j':=j') (y:=y) hi' hle
  cases r with
  | nil=>
   refine ⟨fun _=>⟨by simpa using hi,he,ho⟩,fun hpre s l' h=>?_⟩
   simp only [lookO] at h ⊢
   rw [hget]
   by_cases e:st'.idx=st.idx/\st'.off=st.off
   ·rw [if_pos e]
    obtain ⟨e1,e2⟩:=e
    cases r' with
    | nil=>simp [e2] at hpre
    | cons t u=>
     obtain ⟨s2,l2,a1,a2,rfl,a4⟩:=hsame t u rfl
     rw [e2] at a1
     rw [a1] at h ⊢
     simp only [Option.map_some,Option.some.injEq,Prod.mk.injEq] at h ⊢
     exact ⟨_,h.1,rfl⟩
   ·rw [if_neg e]; exact ⟨l',h⟩
  | cons t u=>
   obtain ⟨_,hp⟩:=hp
   cases hs:sub[st.off]? with
   | none=>rw [hs] at hp; exact hp.elim
   | some s0=>
    rw [hs] at hp
    cases s0 with
    | fr=>exact hp.elim
    | ow s2=>
     cases hd:(l.getD st.idx []).getD st.off default with
     | li l2=>
      rw [hd] at hp
      have hg:=hget st.idx st.off
      by_cases e:st'.idx=st.idx/\st'.off=st.off
      ·rw [if_pos e] at hg
       obtain ⟨e1,e2⟩:=e
       cases r' with
       | nil=>
        refine ⟨fun h=>?_,fun h=>?_⟩
        ·rcases h with h | h
         ·simp [e2] at h
         ·simp at h
        ·simp [e2] at h
       | cons t' u'=>
        obtain ⟨s3,l3,a1,a2,rfl,a4⟩:=hsame t' u' rfl
        rw [e2,hs] at a1
        rw [e1,e2,hd] at a2
        simp only [Option.some.injEq,Sh.ow.injEq] at a1
        simp only [D.li.injEq] at a2
        subst a1; subst a2
        obtain ⟨g1,g2⟩:=ih (t'::u') s2 l2 x n (by simp at hn ⊢; omega) (hdeep st.idx st.off s2 l2 hs hd) hp a4
        simp only [okO,lookO,hs,List.length_set,hg,hd]
        refine ⟨fun h=>⟨⟨hi,he,ho⟩,g1 ?_⟩,fun h=>g2 ?_⟩
        ·simpa [e2] using h
        ·simpa [e2] using h
      ·rw [if_neg e,hd] at hg
       simp only [okO,lookO,hs,List.length_set,hg,hd]
       exact ⟨fun _=>⟨⟨hi,he,ho⟩,hp⟩,fun _ s l' h=>⟨l',h⟩⟩
     | _=>rw [hd] at hp; exact hp.elim
end Go.Am
end

section
namespace Go.Am
theorem getR_putPl {m:Mm} {p:Pl} {t:T} {rp:Root} (hrp:getR m p.root=some rp) (q:Nm):getR (putPl m p t) q=if p.root=q then some { rp with cells:=match p.path with
   | []=>rp.cells.set p.off t
   | st::q=>match rp.cells[p.off]? with
    | some (.ow sub l)=>rp.cells.set p.off (.ow sub (setO sub l t.toD (st::q)))
    | _=>rp.cells } else getR m q:=by
 unfold putPl
 rw [hrp]
 exact getR_setR hrp
theorem lt_of_get {α:Type} {l:List α} {i:Nat} {x:α} (h:l[i]? = some x):i<l.length:=by
 rcases Nat.lt_or_ge i l.length with h' | h'
 ·exact h'
 ·rw [List.getElem?_eq_none h'] at h; simp at h
theorem KeepsB_take {w:World} {H:FH} {γ:Gam} {m:Mm} {F:Nm->Fp} (hm:Mem w H γ m F) {q:Pl} (hq:okPl m q) :
  KeepsB (thr q) w γ m w γ (killM (thr q) (putPl m q .any)):=by
 obtain ⟨rq,hrq,hcq⟩:=okPl_iff.1 hq
 have hput:=getR_putPl (t:=T.any) hrq
 have hwf:∀ (off:Nat) (sub:List Sh) (l:List (List D)),rq.cells[off]? = some (T.ow sub l)->∀ n,wfO n sub l:=by
  intro off sub l ht n
  obtain ⟨v,g,_,⟨k,c2⟩,_⟩:=RootR_cell (hm.roots _ (getR_mem hrq)) ht
  exact OD_wfO n k sub l g v c2
 constructor
 ·intro p hb hp
  refine ⟨okPl_killM ?_,rfl⟩
  obtain ⟨r,hr,hc⟩:=okPl_iff.1 hp
  rw [okPl_iff,hput]
  by_cases hn:q.root=p.root
  ·rw [if_pos hn]
   rw [<- hn,hrq] at hr
   obtain rfl:rq=r:=by simpa using hr
   refine ⟨_,rfl,?_⟩
   simp only [thr,hn,decide_true,Bool.true_and,Bool.false_or,Pl.offs] at hb
   obtain ⟨n,off,path⟩:=p
   dsimp only at hc hb ⊢
   cases path with
   | nil=>
    dsimp only [okCells] at hc ⊢
    cases q.path with
    | nil=>simpa using hc
    | cons st u=>dsimp only; split <;> simpa using hc
   | cons st u=>
    dsimp only [okCells] at hc ⊢
    cases hpath:q.path with
    | nil=>
     dsimp only
     have:q.off≠off:=by
      intro e
      rw [hpath] at hb
      simp [e] at hb
     rw [List.getElem?_set_ne this]
     exact hc
    | cons st' u'=>
     dsimp only
     rw [hpath] at hcq
     dsimp only [okCells] at hcq
     cases htq:rq.cells[q.off]? with
     | none=>exact hc
     | some tq=>
      rw [htq] at hcq
      cases tq with
      | ow sub l=>
       dsimp only at hcq ⊢
       by_cases ho:q.off=off
       ·subst ho
        rw [List.getElem?_set_self (lt_of_get htq)]
        rw [htq] at hc
        refine (okO_setB (st::u) (st'::u') sub l _ _ (Nat.le_refl _) (hwf _ sub l htq _) hc hcq).1 ?_
        rw [hpath] at hb
        simp only [List.isPrefixOf_cons_cons,beq_self_eq_true,Bool.true_and,Bool.and_eq_false_iff,bne_eq_false_iff_eq,List.cons.injEq,true_and] at hb
        exact hb
       ·rw [List.getElem?_set_ne ho]; exact hc
      | _=>exact hc
  ·rw [if_neg hn]; exact ⟨r,hr,hc⟩
 ·intro p hb hp
  refine ⟨okRf_killM ?_,rfl⟩
  obtain ⟨r,hr,hc⟩:=okRf_iff.1 hp
  rw [okRf_iff,hput]
  by_cases hn:q.root=p.root
  ·rw [if_pos hn]
   rw [<- hn,hrq] at hr
   obtain rfl:rq=r:=by simpa using hr
   refine ⟨_,rfl,?_⟩
   simp only [thr,hn,decide_true,Bool.true_and,Bool.true_or,Bool.and_true,Pl.offs] at hb
   obtain ⟨n,off,path⟩:=p
   dsimp only at hc hb ⊢
   unfold okRfCells at hc ⊢
   cases ht:rq.cells[off]? with
   | none=>rw [ht] at hc; cases path <;> exact hc.elim
   | some tt=>
    cases tt with
    | ow sub0 l0=>
     rw [ht] at hc
     cases hpath:q.path with
     | nil=>
      dsimp only
      have:q.off≠off:=by
       intro e
       rw [hpath] at hb
       simp [e] at hb
      rw [List.getElem?_set_ne this,ht]
      exact hc
     | cons st' u'=>
      dsimp only
      rw [hpath] at hcq
      dsimp only [okCells] at hcq
      cases htq:rq.cells[q.off]? with
      | none=>dsimp only; rw [ht]; exact hc
      | some tq=>
       rw [htq] at hcq
       cases tq with
       | ow sub l=>
        dsimp only at hcq ⊢
        by_cases ho:q.off=off
        ·subst ho
         rw [List.getElem?_set_self (lt_of_get htq)]
         rw [htq] at ht
         simp only [Option.some.injEq,T.ow.injEq] at ht
         obtain ⟨rfl,rfl⟩:=ht
         cases path with
         | nil=>trivial
         | cons st u=>
          dsimp only at hc ⊢
          rw [hpath] at hb
          simp only [List.isPrefixOf_cons_cons,beq_self_eq_true,Bool.true_and] at hb
          obtain ⟨k1,k2⟩:=okO_setB (st::u) (st'::u') _ _ T.any.toD _ (Nat.le_refl _) (hwf _ _ _ htq _) hc.1 hcq
          obtain ⟨s,l',e⟩:=lookO_some_ow (P:=True) hc.2
          obtain ⟨l'',e'⟩:=k2 hb s l' e
          exact ⟨k1 (.inl hb),by rw [e']; trivial⟩
        ·rw [List.getElem?_set_ne ho,ht]; exact hc
       | _=>dsimp only; rw [ht]; exact hc
    | _=>rw [ht] at hc; cases path <;> exact hc.elim
  ·rw [if_neg hn]; exact ⟨r,hr,hc⟩
theorem tot_sub {F:Nm->Fp} {m:Mm} {n:Nm} {r:Root} {g:Fp} {b:Nat} (hk:(m.map (·.1)).Nodup) (h:getR m n=some r) (hg:∀ b,g b<=F n b) :
  tot (fun k b=>F k b-if k=n then g b else 0) m b+g b=tot F m b:=by
 have e:=tot_upd (F:=fun k b=>F k b-if k=n then g b else 0) (ft:=g) (b:=b) hk h
 rw [<- e]
 have:(fun k b=>(F k b-if k=n then g b else 0)+if k=n then g b else 0)=F:=by
  funext k c
  by_cases hkn:k=n
  ·subst hkn; simp only [if_true]; have:=hg c; omega
  ·simp [hkn]
 rw [this]
theorem set_same {α:Type} {l:List α} {i:Nat} {x:α} (h:l[i]? = some x):l.set i x=l:=by
 apply List.ext_getElem?
 intro n
 rw [List.getElem?_set]
 by_cases hn:i=n
 ·subst hn; rw [if_pos rfl,if_pos (lt_of_get h)]; exact h.symm
 ·simp [hn]
theorem arr_set_same {cs:Array Value} {k:Nat} {z:Value} (h:cs[k]? = some z):cs.setIfInBounds k z=cs:=by
 apply Array.ext'
 simp only [Array.toList_setIfInBounds]
 exact set_same (by simpa using h)
theorem Mem_take {w:World} {H:FH} {γ:Gam} {m:Mm} {F:Nm->Fp} (hm:Mem w H γ m F) {q:Pl} (hq:okPl m q) {sub:List Sh} {l:List (List D)} (hg:getPl m q=some (.ow sub l)) :
  ∃ g v,plV w γ q=some v/\TR w H γ m (.ow sub l) g v/\(∀ b,g b<=F q.root b)/\(∀ b,tot (fun n b=>F n b-if n=q.root then g b else 0) m b+g b=tot F m b) /\
   ∀ H':FH,(∀ b o y,H b o=some y->H' b o=some y)->(∀ b o y,H' b o=some y->w.cell? ⟨b,o,none⟩=some y) ->
    (∀ b,tot (fun n b=>F n b-if n=q.root then g b else 0) m b≠0->∀ o,H' b o=none) ->
    Mem w H' γ (killM (thr q) (putPl m q .any)) (fun n b=>F n b-if n=q.root then g b else 0):=by
 have hK:=KeepsB_take hm hq
 obtain ⟨rq,hrq,hcq⟩:=okPl_iff.1 hq
 have hroot:=hm.roots _ (getR_mem hrq)
 dsimp only at hroot
 have hle0:∀ c,F q.root c<=1:=fun c=>by have:=hm.le1 c; have:=tot_ge (F:=F) (getR_mem hrq) c; dsimp only at this; omega
 have main:∃ g v,plV w γ q=some v/\TR w H γ m (.ow sub l) g v/\(∀ b,g b<=F q.root b) /\
   ∀ H':FH,(∀ b o y,H b o=some y->H' b o=some y) ->
    RootR w H' γ (killM (thr q) (putPl m q .any)) q.root { rq with cells:=List.map (fun t=>T.kill (thr q) t) (match q.path with
     | []=>rq.cells.set q.off .any
     | st::u=>match rq.cells[q.off]? with
      | some (.ow sub l)=>rq.cells.set q.off (.ow sub (setO sub l .any (st::u)))
      | _=>rq.cells) } (fun b=>F q.root b-g b):=by
  have tree:∀ (st:Step) (u:List Step) (sub0:List Sh) (l0:List (List D)) (v0:Value) (g0:Fp),q.path=st::u->rq.cells[q.off]? = some (.ow sub0 l0)->okO sub0 l0 (st::u) ->
    TR w H γ m (.ow sub0 l0) g0 v0->(∀ c,g0 c<=1)->∃ g v,(walkV w v0 (st::u)).bind w.cell? = some v/\TR w H γ m (.ow sub l) g v/\(∀ b,g b<=g0 b) /\
     ∀ H':FH,(∀ b o y,H b o=some y->H' b o=some y)->∀ m',TR w H' γ m' (.ow sub0 (setO sub0 l0 .any (st::u))) (fun c=>g0 c-g c) v0:=by
   intro st u sub0 l0 v0 g0 hpath ht hok ⟨n,hod⟩ hle
   obtain ⟨b,k,z,s,x,cs,ty,fz,f1,f2,c1,c2,c3,c4,c5,c6,c7,c8,c9⟩:=OD_path (st::u) n sub0 l0 g0 v0 hod hle hok
   unfold getPl at hg
   rw [hrq,hpath] at hg
   simp only [ht,c5] at hg
   refine ⟨f1,z,by rw [c1]; simp [World.cell?,c2,c4],?_,fun b=>by have:=c6 b; omega,fun H' hH m'=>?_⟩
   ·cases s with
    | fr=>simp at hg
    | ow s=>cases x with
     | li l'=>
      simp only [Option.some.injEq,T.ow.injEq] at hg
      obtain ⟨rfl,rfl⟩:=hg
      exact ⟨n,c8⟩
     | _=>simp at hg
   ·cases s with
    | fr=>simp at hg
    | ow s=>
     obtain ⟨M,hM⟩:=c9 w H' z .any (fun _=>0) 1 hH (by rw [arr_set_same c4]; exact c2) (fun _ _ _=>rfl) (by simp [OD])
     exact ⟨M,OD_congr (fun c=>by have:=c6 c; omega) hM⟩
  unfold RootR at hroot ⊢
  dsimp only
  split at hroot
  ·rename_i hb
   obtain ⟨b0,cs,ty,fz,g,h1,h2,h3,h4,h5,h6⟩:=hroot
   cases hpath:q.path with
   | nil=>
    unfold getPl at hg
    rw [hrq,hpath] at hg
    dsimp only at hg
    obtain ⟨s,x,v,fk,fr,a1,a2,a3,a4,a5,a6,_⟩:=Cs_focus _ _ _ _ _ h5 (lt_of_get hg)
    rw [hg] at a2
    obtain rfl:T.ow sub l=x:=by simpa using a2
    have hv:cs[q.off]? = some v:=by simpa using a3
    refine ⟨fk,v,?_,a5,fun b=>by have:=a4 b; have:=h6 b; omega,fun H' hH=>?_⟩
    ·simp only [plV,hpath,h1,rootCell,World.cell?,h2,Option.isSome_none,Bool.false_eq_true,if_false,hv]
    ·rw [if_pos hb]
     refine ⟨b0,cs,ty,fz,fr,h1,h2,h3,by simpa using h4,?_,fun c=>by have:=a4 c; have:=h6 c; omega⟩
     have a6':=a6 (fun _ t=>TR w H γ m t) T.any v (fun _=>0) (fun _ x g' v' hg' hx=>hx) (fun _=>rfl)
     rw [set_same a3] at a6'
     have h5':Ts (TR w H γ m) (rq.cells.set q.off .any) fr cs.toList:=by
      unfold Ts; rw [List.length_set]; exact Cs_congr (fun b=>by omega) a6'
     exact Ts_kill hK hH (fun _ _=>rfl) h5'
   | cons st u=>
    rw [hpath] at hcq
    dsimp only [okCells] at hcq
    cases htt:rq.cells[q.off]? with
    | none=>simp [htt] at hcq
    | some tt=>
     rw [htt] at hcq
     cases tt with
     | ow sub0 l0=>
      dsimp only at hcq ⊢
      obtain ⟨s,x,v,fk,fr,a1,a2,a3,a4,a5,a6,_⟩:=Cs_focus _ _ _ _ _ h5 (lt_of_get htt)
      rw [htt] at a2
      obtain rfl:T.ow sub0 l0=x:=by simpa using a2
      have hv:cs[q.off]? = some v:=by simpa using a3
      obtain ⟨g',v',e1,e2,e3,e4⟩:=tree st u sub0 l0 v fk hpath htt hcq a5 (fun c=>by have:=a4 c; have:=h6 c; have:=hle0 c; omega)
      refine ⟨g',v',?_,e2,fun b=>by have:=e3 b; have:=a4 b; have:=h6 b; omega,fun H' hH=>?_⟩
      ·simpa only [plV,hpath,h1,rootCell,World.cell?,h2,Option.isSome_none,Bool.false_eq_true,if_false,hv,Option.bind_some] using e1
      ·rw [if_pos hb]
       refine ⟨b0,cs,ty,fz,fun c=>(fk c-g' c)+fr c,h1,h2,h3,by simpa using h4,?_,fun c=>by have:=e3 c; have:=a4 c; have:=h6 c; dsimp only; omega⟩
       have a6':=a6 (fun _ t=>TR w H γ m t) (.ow sub0 (setO sub0 l0 .any (st::u))) v (fun c=>fk c-g' c) (fun _ x g' v' hg' hx=>hx) (e4 H (fun _ _ _ h=>h) m)
       rw [set_same a3] at a6'
       have h5':Ts (TR w H γ m) (rq.cells.set q.off (.ow sub0 (setO sub0 l0 .any (st::u)))) (fun c=>(fk c-g' c)+fr c) cs.toList:=by
        unfold Ts; rw [List.length_set]; exact a6'
       exact Ts_kill hK hH (fun _ _=>rfl) h5'
     | _=>exact hcq.elim
  ·rename_i hb
   obtain ⟨v,t',h1,h2,h3⟩:=hroot
   cases hpath:q.path with
   | nil=>
    unfold getPl at hg
    rw [hrq,hpath] at hg
    dsimp only at hg
    have ho:q.off=0:=by
     have:=lt_of_get hg
     rw [h2] at this; simpa using this
    rw [h2,ho] at hg
    obtain rfl:t'=T.ow sub l:=by simpa using hg
    refine ⟨F q.root,v,?_,h3,fun _=>Nat.le_refl _,fun H' hH=>?_⟩
    ·simp only [plV,hpath,h1,rootCell,ho,if_true]
    ·rw [if_neg hb]
     refine ⟨v,.any,h1,?_,fun c=>Nat.sub_self _⟩
     rw [h2,ho]; rfl
   | cons st u=>
    rw [hpath] at hcq
    dsimp only [okCells] at hcq
    cases htt:rq.cells[q.off]? with
    | none=>simp [htt] at hcq
    | some tt=>
     rw [htt] at hcq
     cases tt with
     | ow sub0 l0=>
      dsimp only at hcq ⊢
      have ho:q.off=0:=by
       have:=lt_of_get htt
       rw [h2] at this; simpa using this
      have htt':=htt
      rw [h2,ho] at htt'
      obtain rfl:t'=T.ow sub0 l0:=by simpa using htt'
      obtain ⟨g',v',e1,e2,e3,e4⟩:=tree st u sub0 l0 v (F q.root) hpath htt hcq h3 hle0
      refine ⟨g',v',?_,e2,e3,fun H' hH=>?_⟩
      ·simpa only [plV,hpath,h1,rootCell,ho,if_true,Option.bind_some] using e1
      ·rw [if_neg hb]
       refine ⟨v,_,h1,?_,e4 H' hH _⟩
       rw [h2,ho]; rfl
     | _=>exact hcq.elim
 obtain ⟨g,v,m1,m2,m3,m4⟩:=main
 have hts:∀ b,tot (fun n b=>F n b-if n=q.root then g b else 0) m b+g b=tot F m b:=fun b=>tot_sub hm.keys hrq m3
 refine ⟨g,v,m1,m2,m3,hts,fun H' hH hag hnz=>?_⟩
 have hpe:putPl m q .any=setR m q.root { rq with cells:=match q.path with
    | []=>rq.cells.set q.off .any
    | st::u=>match rq.cells[q.off]? with
     | some (.ow sub l)=>rq.cells.set q.off (.ow sub (setO sub l .any (st::u)))
     | _=>rq.cells }:=by
  unfold putPl; rw [hrq]; rfl
 have htot:∀ c,tot (fun n c=>F n c-if n=q.root then g c else 0) (killM (thr q) (putPl m q .any)) c=tot (fun n c=>F n c-if n=q.root then g c else 0) m c:=by
  intro c; rw [tot_killM,hpe,tot_setR]
 constructor
 ·exact hag
 ·intro x hx
  simp only [killM,List.mem_map] at hx
  obtain ⟨x0,hx0,rfl⟩:=hx
  dsimp only
  rw [hpe] at hx0
  rcases mem_setR hm.keys hx0 with ⟨hn,hx1⟩ | rfl
  ·have h:=RootR_kill (γ':=γ) hK hH rfl (fun c _=>rfl) (hm.roots x0 hx1)
   have e:(fun c=>F x0.1 c-if x0.1=q.root then g c else 0)=F x0.1:=by funext c; simp [hn]
   rw [e]; exact h
  ·have e:(fun c=>F q.root c-if q.root=q.root then g c else 0)=fun c=>F q.root c-g c:=by funext c; simp
   dsimp only
   rw [e]; exact m4 H' hH
 ·rw [keys_killM,hpe,keys_setR]; exact hm.keys
 ·intro c; rw [htot]; have:=hts c; have:=hm.le1 c; omega
 ·intro c hc; rw [htot] at hc; exact hm.lt c (by have:=hts c; omega)
 ·intro c hc; rw [htot] at hc; exact hnz c hc
end Go.Am
end

section
namespace Go.Am
theorem OD_FD {w:World} {H H':FH} (hH:∀ b o v,H b o=some v->H' b o=some v):∀ (k:Nat) (s:Sh) (x:D) (g:Fp) (y:Value),OD w H k s x g y ->
  (∀ b,g b≠0->∀ o v,w.cell? ⟨b,o,none⟩=some v->H' b o=some v)->FDx H' x y:=by
 intro k
 induction k with
 | zero=>
  intro s x g y h hw
  cases s with
  | fr=>exact FDx_mono hH (OD_fr.1 h).2
  | ow sub=>cases x with
   | any=>exact ⟨0,trivial⟩
   | _=>simp [OD] at h
 | succ k ih=>
  intro s x g y h hw
  cases s with
  | fr=>exact FDx_mono hH (OD_fr.1 h).2
  | ow sub=>
   cases x with
   | any=>exact ⟨0,trivial⟩
   | li l=>
    rw [OD_ow] at h
    rcases h with ⟨rfl,rfl,_⟩ | ⟨b,c,cs,ty,frz,g',h1,h2,h3,h4,h5,h6,h7,h8,h9⟩
    ·exact FDx_nil
    ·subst h1
     have hb:∀ o v,w.cell? ⟨b,o,none⟩=some v->H' b o=some v:=hw b (by rw [h9]; simp)
     obtain ⟨n,hn⟩:=FEl_of_x (H:=H') (l:=l) (b:=b) (o:=0) (e:=sub.length) (fun i hi=>by
      have hgl:l.getD i []=l[i]:=by simp [List.getD,hi]
      refine ⟨by rw [hgl]; exact h7 _ (List.getElem_mem hi),fun j hj=>?_⟩
      have hk:i*sub.length+j<l.flatten.length:=by
       rw [flatten_len _ _ h7]
       have:(i+1)*sub.length<=l.length*sub.length:=Nat.mul_le_mul_right _ hi
       rw [Nat.add_mul] at this; omega
      obtain ⟨x,hx⟩:∃ x,l.flatten[i*sub.length+j]? = some x:=⟨_,List.getElem?_eq_getElem hk⟩
      obtain ⟨s,v,g2,a1,a2,a3,a4⟩:=Cs_get h8 hx
      have hv:cs[i*sub.length+j]? = some v:=by simpa using a2
      refine ⟨v,hb _ _ (by simp [World.cell?,h2,hv]),?_⟩
      rw [flatten_get sub.length l i j h7 hi hj] at hx
      rw [List.getD,hx]
      exact ih s x g2 v a3 (fun b' hb'=>hw b' (by have:=a4 b'; rw [h9]; omega)))
     exact ⟨n+1,FD_li.2 ⟨some ⟨b,0,none⟩,c,rfl,h5,h6,.inr ⟨b,0,sub.length,rfl,hn⟩⟩⟩
   | int _ _=>simp [OD] at h
   | bool _=>simp [OD] at h
   | str _=>simp [OD] at h
   | v _=>simp [OD] at h
def upd {α:Type} (f:Nm->α) (n:Nm) (x:α):Nm->α:=fun k=>if k=n then x else f k
theorem upd_same {α:Type} {f:Nm->α} {n:Nm} {x:α}:upd f n x n=x:=by simp [upd]
theorem upd_ne {α:Type} {f:Nm->α} {n k:Nm} {x:α} (h:k≠n):upd f n x k=f k:=by simp [upd,h]
theorem getR_none {m:Mm} {n:Nm}:getR m n=none ↔ n ∉ m.map (·.1):=by
 induction m with
 | nil=>simp [getR]
 | cons x m ih=>
  obtain ⟨k,y⟩:=x
  simp only [getR,List.map_cons,List.mem_cons,not_or]
  split
  ·rename_i h; subst h; simp
  ·rename_i h; rw [ih]; exact ⟨fun h'=>⟨fun e=>h e.symm,h'⟩,fun h'=>h'.2⟩
theorem okPl_root {m:Mm} {q:Pl} (h:okPl m q):getR m q.root≠none:=by
 obtain ⟨r,h1,_⟩:=okPl_iff.1 h; rw [h1]; simp
theorem Keeps_add {w:World} {γ:Gam} {m:Mm} {n:Nm} {rc:RC} {r:Root} (hn:getR m n=none):Keeps w γ m w (upd γ n rc) ((n,r)::m):=by
 have hne:∀ q:Pl,okPl m q->q.root≠n:=fun q hq e=>okPl_root hq (by rw [e]; exact hn)
 have hg:∀ k,k≠n->getR ((n,r)::m) k=getR m k:=fun k hk=>by simp only [getR]; rw [if_neg (fun e=>hk e.symm)]
 constructor
 ·intro q hq
  have:=hne q hq
  refine ⟨?_,?_⟩
  ·rw [okPl_iff] at hq ⊢; rw [hg _ this]; exact hq
  ·simp only [plA,upd_ne this]
 ·intro q hq
  have:=hne q (okPl_of_rf hq)
  refine ⟨?_,?_⟩
  ·rw [okRf_iff] at hq ⊢; rw [hg _ this]; exact hq
  ·simp only [plV,upd_ne this]
theorem tot_congr {F F':Nm->Fp} {m:Mm} {b:Nat} (h:∀ x∈m,F' x.1 b=F x.1 b):tot F' m b=tot F m b:=by
 induction m with
 | nil=>rfl
 | cons x m ih=>
  rw [tot_cons,tot_cons,h x (by simp),ih (fun y hy=>h y (List.mem_cons_of_mem _ hy))]
theorem Mem_add {w:World} {H:FH} {γ:Gam} {m:Mm} {F:Nm->Fp} (hm:Mem w H γ m F) {n:Nm} {rc:RC} {r:Root} {f:Fp} (hn:getR m n=none)
  (hr:RootR w H (upd γ n rc) ((n,r)::m) n r f) (hd:∀ b,tot F m b+f b<=1) (hl:∀ b,f b≠0->b<w.heap.size/\∀ o,H b o=none) :
  Mem w H (upd γ n rc) ((n,r)::m) (upd F n f)/\∀ b,tot (upd F n f) ((n,r)::m) b=f b+tot F m b:=by
 have hK:=Keeps_add (w:=w) (γ:=γ) (rc:=rc) (r:=r) hn
 have hne:∀ x∈m,x.1≠n:=fun x hx e=>by
  rw [getR_none] at hn
  exact hn (by rw [<- e]; exact List.mem_map_of_mem hx)
 have htot:∀ b,tot (upd F n f) ((n,r)::m) b=f b+tot F m b:=fun b=>by
  rw [tot_cons,upd_same,tot_congr (fun x hx=>by rw [upd_ne (hne x hx)])]
 refine ⟨⟨hm.agree,?_,?_,?_,?_,?_⟩,htot⟩
 ·intro x hx
  rcases List.mem_cons.1 hx with rfl | hx2
  ·rw [upd_same]; exact hr
  ·rw [upd_ne (hne x hx2)]
   exact RootR_keeps hK (fun _ _ _ h=>h) (upd_ne (hne x hx2)) (fun _ _=>rfl) (hm.roots x hx2)
 ·simp only [List.map_cons,List.nodup_cons]
  exact ⟨getR_none.1 hn,hm.keys⟩
 ·intro b; rw [htot]; have:=hd b; omega
 ·intro b hb
  rw [htot] at hb
  by_cases h:f b=0
  ·exact hm.lt b (by omega)
  ·exact (hl b h).1
 ·intro b hb
  rw [htot] at hb
  by_cases h:f b=0
  ·exact hm.nofz b (by omega)
  ·exact (hl b h).2
def badR (n:Nm) (_:Bool) (p:Pl):Bool:=decide (p.root=n)
theorem getR_delR {m:Mm} {n k:Nm} (h:k≠n):getR (delR m n) k=getR m k:=by
 induction m with
 | nil=>rfl
 | cons x m ih=>
  obtain ⟨j,y⟩:=x
  simp only [delR]
  split
  ·rename_i e; subst e; simp only [getR]; rw [if_neg (fun e=>h e.symm)]
  ·simp only [getR,ih]
theorem mem_delR {m:Mm} {n:Nm} {x:Nm×Root} (h:x∈delR m n):x∈m:=by
 induction m with
 | nil=>exact h
 | cons y m ih=>
  obtain ⟨j,z⟩:=y
  simp only [delR] at h
  split at h
  ·exact List.mem_cons_of_mem _ h
  ·rcases List.mem_cons.1 h with h | h
   ·rw [h]; simp
   ·exact List.mem_cons_of_mem _ (ih h)
theorem nodup_delR {m:Mm} {n:Nm} (h:(m.map (·.1)).Nodup):((delR m n).map (·.1)).Nodup:=by
 induction m with
 | nil=>exact h
 | cons y m ih=>
  obtain ⟨j,z⟩:=y
  simp only [List.map_cons,List.nodup_cons] at h
  simp only [delR]
  split
  ·exact h.2
  ·simp only [List.map_cons,List.nodup_cons]
   refine ⟨fun hj=>h.1 ?_,ih h.2⟩
   obtain ⟨x,hx,e⟩:=List.mem_map.1 hj
   rw [<- e]; exact List.mem_map_of_mem (mem_delR hx)
theorem tot_delR {F:Nm->Fp} {m:Mm} {n:Nm} {b:Nat}:tot F (delR m n) b<=tot F m b:=by
 induction m with
 | nil=>exact Nat.le_refl _
 | cons y m ih=>
  obtain ⟨j,z⟩:=y
  simp only [delR]
  split
  ·rw [tot_cons]; omega
  ·rw [tot_cons,tot_cons]; omega
theorem KeepsB_del {w:World} {γ:Gam} {m:Mm} {n:Nm}:KeepsB (badR n) w γ m w γ (killM (badR n) (delR m n)):=by
 constructor
 ·intro q hb hq
  simp only [badR,decide_eq_false_iff_not] at hb
  refine ⟨okPl_killM ?_,rfl⟩
  rw [okPl_iff] at hq ⊢; rw [getR_delR hb]; exact hq
 ·intro q hb hq
  simp only [badR,decide_eq_false_iff_not] at hb
  refine ⟨okRf_killM ?_,rfl⟩
  rw [okRf_iff] at hq ⊢; rw [getR_delR hb]; exact hq
theorem Mem_del {w:World} {H:FH} {γ:Gam} {m:Mm} {F:Nm->Fp} (hm:Mem w H γ m F) (n:Nm):Mem w H γ (killM (badR n) (delR m n)) F:=by
 constructor
 ·exact hm.agree
 ·intro x hx
  simp only [killM,List.mem_map] at hx
  obtain ⟨x0,hx0,rfl⟩:=hx
  exact RootR_kill KeepsB_del (fun _ _ _ h=>h) rfl (fun _ _=>rfl) (hm.roots x0 (mem_delR hx0))
 ·rw [keys_killM]; exact nodup_delR hm.keys
 ·intro b; rw [tot_killM]; exact Nat.le_trans tot_delR (hm.le1 b)
 ·intro b hb; rw [tot_killM] at hb; exact hm.lt b (by have:=tot_delR (F:=F) (m:=m) (n:=n) (b:=b); omega)
 ·intro b hb; rw [tot_killM] at hb; exact hm.nofz b (by have:=tot_delR (F:=F) (m:=m) (n:=n) (b:=b); omega)
theorem repl_append (sub:List Sh) (n m:Nat):(List.replicate (n+m) sub).flatten=(List.replicate n sub).flatten++(List.replicate m sub).flatten:=by
 rw [<- List.flatten_append,List.replicate_append_replicate]
theorem OD_new {w:World} {H:FH} {k b c:Nat} {sub:List Sh} {l:List (List D)} {g:Fp} {cs:Array Value} {ty:TypeId} {fz:Nat×Nat}
  (h1:w.heap[b]? = some (.cells cs ty fz)) (h2:okFr fz cs.size) (h3:cs.size=c*sub.length) (h4:l.length<=c) (h5:l.length<=BIG) (h6:∀ x∈l,x.length=sub.length)
  (h7:Cs (OD w H k) (List.replicate l.length sub).flatten l.flatten g cs.toList) :
  OD w H (k+1) (.ow sub) (.li l) (fun d=>g d+if d=b then 1 else 0) (.slice (some ⟨b,0,none⟩) l.length c):=
 OD_ow.2 (.inr ⟨b,c,cs,ty,fz,g,rfl,h1,h2,h3,h4,h5,h6,h7,fun _=>rfl⟩)
theorem OD_cells {w:World} {H:FH} {k:Nat} {sub:List Sh} {l:List (List D)} {f:Fp} {y:Value} (h:OD w H (k+1) (.ow sub) (.li l) f y) :
  ∃ a c,∃ g:Fp,∃ vs:List Value,y=.slice a l.length c/\l.length<=c/\l.length<=BIG/\(∀ x∈l,x.length=sub.length)/\vs.length=l.length*sub.length/\Cs (OD w H k) (List.replicate l.length sub).flatten l.flatten g vs /\
   ((l=[]/\a=none/\c=0/\∀ b,f b=0)\/∃ b cs ty fz,a=some ⟨b,0,none⟩/\w.heap[b]? = some (.cells cs ty fz)/\okFr fz cs.size/\cs.size=c*sub.length/\vs=cs.toList.take (l.length*sub.length)/\∀ d,f d=g d+if d=b then 1 else 0):=by
 rw [OD_ow] at h
 rcases h with ⟨rfl,rfl,h0⟩ | ⟨b,c,cs,ty,fz,g,h1,h2,h3,h4,h5,h6,h7,h8,h9⟩
 ·exact ⟨none,0,fun _=>0,[],rfl,Nat.le_refl _,Nat.zero_le _,by simp,by simp,by intro b; rfl,.inl ⟨rfl,rfl,rfl,h0⟩⟩
 ·have hlen:l.flatten.length=l.length*sub.length:=flatten_len _ _ h7
  have hle:l.length*sub.length<=cs.toList.length:=by
   have e:cs.toList.length=cs.size:=rfl
   rw [e,h4]; exact Nat.mul_le_mul_right _ h5
  exact ⟨some ⟨b,0,none⟩,c,g,cs.toList.take (l.length*sub.length),h1,h5,h6,h7,by rw [List.length_take]; omega,
   Cs_take _ _ _ _ _ (by omega) h8,.inr ⟨b,cs,ty,fz,rfl,h2,h3,h4,rfl,h9⟩⟩
theorem flat_append_len {n:Nat} {l xs:List (List D)} (h1:∀ x∈l,x.length=n) (h2:∀ x∈xs,x.length=n):∀ x∈l++xs,x.length=n:=by
 intro x hx
 rcases List.mem_append.1 hx with h | h
 ·exact h1 x h
 ·exact h2 x h
theorem Cs_two {w:World} {H:FH} {k:Nat} {sub:List Sh} {l xs:List (List D)} {g gx:Fp} {vs ws rest:List Value} (h1:∀ x∈l,x.length=sub.length) (hv:vs.length=l.length*sub.length)
  (h3:Cs (OD w H k) (List.replicate l.length sub).flatten l.flatten g vs) (h4:Cs (OD w H k) (List.replicate xs.length sub).flatten xs.flatten gx ws) :
  Cs (OD w H k) (List.replicate (l++xs).length sub).flatten (l++xs).flatten (fun b=>g b+gx b) (vs++ws++rest):=by
 rw [List.length_append,repl_append,List.flatten_append]
 refine Cs_tail _ _ _ _ _ (Cs_append _ _ _ _ _ _ _ _ ?_ h3 h4)
 rw [flatten_len _ _ h1]; exact hv
end Go.Am
end

section
namespace Go.Am
def setT:List (Nat×AV)->Nat->AV->List (Nat×AV)
 | [],i,v=>[(i,v)]
 | (k,x)::t,i,v=>if k=i then (k,v)::t else (k,x)::setT t i v
def S.put (s:S):Option Tmp->AV->S
 | none,_=>s
 | some d,v=>{ s with t:=setT s.t d v }
def okD (nt:Nat):Option Tmp->Bool
 | none=>true
 | some d=>decide (d<nt)
theorem getT_setT (t:List (Nat×AV)) (d i:Nat) (v:AV):getT (setT t d v) i=if d=i then v else getT t i:=by
 induction t with
 | nil=>simp only [setT,getT]
 | cons x t ih=>
  obtain ⟨k,u⟩:=x
  by_cases hk:k=d
  ·subst hk; simp only [setT,if_true,getT]; split <;> simp_all
  ·simp only [setT,if_neg hk,getT,ih]
   by_cases hi:k=i
   ·subst hi; rw [if_pos rfl,if_pos rfl,if_neg (fun e=>hk e.symm)]
   ·rw [if_neg hi,if_neg hi]
theorem getT_killT (bad:Bool->Pl->Bool) (t:List (Nat×AV)) (i:Nat):getT (killT bad t) i=(getT t i).kill bad:=by
 induction t with
 | nil=>rfl
 | cons x t ih=>
  obtain ⟨k,u⟩:=x
  simp only [killT,List.map_cons,getT]
  split
  ·rfl
  ·exact ih
theorem put_getD (a:Act) (d i:Nat) (y:Value) (hd:d<a.tmps.size):(a.put (some d) y).tmps.getD i undef=if d=i then y else a.tmps.getD i undef:=by
 simp only [Act.put,Array.getD_eq_getD_getElem?,Array.getElem?_setIfInBounds]
 by_cases h:d=i
 ·subst h; simp [hd]
 ·simp [h]
theorem RX.put {g:G} {s:S} {a:Act} {w:World} {H:FH} {γ:Gam} {F:Nm->Fp} (h:RX g s a w H γ F) {d:Option Tmp} (hd:okD g.nt d=true) {v:AV} {y:Value} (hv:AR w H γ s.m v y) :
  RX g (s.put d v) (a.put d y) w H γ F:=by
 cases d with
 | none=>exact h
 | some d=>
  have hd':d<g.nt:=by simpa [okD] using hd
  refine ⟨h.mem,h.fr,?_,h.df,fun i=>?_⟩
  ·simp only [Act.put,Array.size_setIfInBounds]; exact h.nt
  ·have hs:d<a.tmps.size:=by rw [h.nt]; exact hd'
   have e:g.tv (a.put (some d) y) i=if d=i then y else g.tv a i:=by
    by_cases hdi:d=i
    ·subst hdi
     rw [G.tv_lt (by simpa [Act.put] using hs),put_getD a d d y hs]
     simp
    ·rw [if_neg hdi]
     unfold G.tv
     rw [put_getD a d i y hs,if_neg hdi]
     simp only [Act.put,Array.size_setIfInBounds]
   rw [e]
   simp only [S.put,getT_setT]
   split
   ·exact hv
   ·exact h.t i
def lift (g:G) (Q:Exit->S->Prop):Exit->Act->World->Prop:=fun e a w=>∃ s,Q e s/\R g s a w
def AW (P:Program) (g:G) (c:Code) (Q:Exit->S->Prop) (s:S):Prop:=∀ a w,R g s a w->c.wp P (lift g Q) a w
def AL (P:Program) (g:G) (ops rest:List Oper) (Q:Exit->S->Prop) (s:S):Prop:=∀ a w,R g s a w->wpList P ops.toArray (lift g Q) rest a w
def AO (P:Program) (g:G) (o:Oper) (K:S->Prop) (Q:Exit->S->Prop) (s:S):Prop:=
 ∀ a w,R g s a w->o.wp P a w (fun a' w'=>∃ s',K s'/\R g s' a' w') (lift g Q)
def thenQ (K:S->Prop) (Q:Exit->S->Prop):Exit->S->Prop
 | .normal,s=>K s
 | e,s=>Q e s
def blockQ (id:Nat) (Q:Exit->S->Prop):Exit->S->Prop
 | .exit id',s=>if id'=id then Q .normal s else Q (.exit id') s
 | e,s=>Q e s
theorem lift_mono {g:G} {Q Q':Exit->S->Prop} (h:∀ e s,Q e s->Q' e s) {e:Exit} {a:Act} {w:World} (hl:lift g Q e a w):lift g Q' e a w:=by
 obtain ⟨s,h1,h2⟩:=hl; exact ⟨s,h _ _ h1,h2⟩
section
variable {P:Program} {g:G} {Q:Exit->S->Prop} {s:S}
theorem AW.mono {c:Code} {Q':Exit->S->Prop} (h:AW P g c Q s) (hq:∀ e s,Q e s->Q' e s):AW P g c Q' s:=
 fun a w hR=>Code.wp_mono (fun _ _ _=>lift_mono hq) (h a w hR)
theorem AW_skip (h:Q .normal s):AW P g .skip Q s:=fun a w hR=>wp_skip ⟨s,h,hR⟩
theorem AW_ret (h:Q .ret s):AW P g .ret Q s:=fun a w hR=>wp_ret ⟨s,h,hR⟩
theorem AW_exit {id:Nat} (h:Q (.exit id) s):AW P g (.exit id) Q s:=fun a w hR=>wp_exit ⟨s,h,hR⟩
theorem AW_seq {x y:Code} (h:AW P g x (thenQ (AW P g y Q) Q) s):AW P g (.seq x y) Q s:=fun a w hR=>
 wp_seq (Code.wp_mono (fun e a w hl=>by
  obtain ⟨s',h1,h2⟩:=hl
  cases e with
  | normal=>exact h1 a w h2
  | exit _=>exact ⟨s',h1,h2⟩
  | goto _=>exact ⟨s',h1,h2⟩
  | ret=>exact ⟨s',h1,h2⟩
  | panic _=>exact ⟨s',h1,h2⟩
  | outgrown=>exact ⟨s',h1,h2⟩) (h a w hR))
theorem AW_block {id:Nat} {c:Code} (h:AW P g c (blockQ id Q) s):AW P g (.block id c) Q s:=fun a w hR=>
 wp_block (Code.wp_mono (fun e a w hl=>by
  obtain ⟨s',h1,h2⟩:=hl
  cases e with
  | exit id'=>
   simp only [blockQ] at h1
   simp only [Exit.inBlock]
   split
   ·rename_i e; rw [if_pos e] at h1; exact ⟨s',h1,h2⟩
   ·rename_i e; rw [if_neg e] at h1; exact ⟨s',h1,h2⟩
  | normal=>exact ⟨s',h1,h2⟩
  | goto _=>exact ⟨s',h1,h2⟩
  | ret=>exact ⟨s',h1,h2⟩
  | panic _=>exact ⟨s',h1,h2⟩
  | outgrown=>exact ⟨s',h1,h2⟩) (h a w hR))
theorem AW_cond {t:Tmp} {x y:Code} {b:Bool} (hc:getT s.t t=.one (.c (.d (.bool b)))) (ht:b=true->AW P g x Q s) (hf:b=false->AW P g y Q s) (htb:t<TB:=by decide) :
  AW P g (.cond (.tmp t) x y) Q s:=by
 intro a w hR
 obtain ⟨H,γ,F,hX⟩:=hR
 have h:=hX.t t
 rw [hc,G.tv_lo htb] at h
 obtain ⟨_,m,h⟩:=h
 have h':a.tmps.getD t undef=.bool b:=by cases m <;> exact h
 cases b with
 | true=>exact wp_cond_true (by simp only [Act.eval]; exact h') (ht rfl a w ⟨H,γ,F,hX⟩)
 | false=>exact wp_cond_false (by simp only [Act.eval]; exact h') (hf rfl a w ⟨H,γ,F,hX⟩)
theorem least {p:Nat->Prop} (h:∃ n,p n):∃ n,p n/\∀ m,m<n->¬ p m:=by
 obtain ⟨n,hn⟩:=h
 induction n using Nat.strongRecOn with
 | _ n ih=>
  by_cases hm:∃ m,m<n/\p m
  ·obtain ⟨m,h1,h2⟩:=hm; exact ih m h1 h2
  ·exact ⟨n,hn,fun m h1 h2=>hm ⟨m,h1,h2⟩⟩
theorem AW_loop {c:Code} (I:Nat->S->Prop) (n0:Nat) (h0:I n0 s) (round:∀ n s,I n s->AW P g c (thenQ (fun s'=>∃ n',n'<n/\I n' s') Q) s):AW P g (.loop c) Q s:=by
 intro a w hR
 let p:Act->World->Nat->Prop:=fun a w n=>∃ s,I n s/\R g s a w
 have hmin:∀ a w,(∃ n,p a w n)->∃ n,p a w n/\∀ m,m<n->¬ p a w m:=fun a w h=>least h
 let μ:Act->World->Nat:=fun a w=>by
  classical
  exact if h:∃ n,p a w n then Classical.choose (hmin a w h) else 0
 have hμ:∀ a w (h:∃ n,p a w n),p a w (μ a w)/\∀ m,m<μ a w->¬ p a w m:=by
  intro a w h
  have:μ a w=Classical.choose (hmin a w h):=by simp only [μ]; rw [dif_pos h]
  rw [this]
  exact Classical.choose_spec (hmin a w h)
 refine wp_loop (fun a w=>∃ n,p a w n) μ ⟨n0,s,h0,hR⟩ (fun a w hI=>?_)
 obtain ⟨⟨s1,h1,h2⟩,_⟩:=hμ a w hI
 refine Code.wp_mono (fun e a' w' hl=>?_) (round _ s1 h1 a w h2)
 obtain ⟨s',k1,k2⟩:=hl
 cases e with
 | normal=>
  obtain ⟨n',k3,k4⟩:=k1
  have hI':∃ n,p a' w' n:=⟨n',s',k4,k2⟩
  refine ⟨hI',?_⟩
  rcases Nat.lt_or_ge (μ a' w') (μ a w) with h | h
  ·exact h
  ·exact absurd ⟨s',k4,k2⟩ ((hμ a' w' hI').2 n' (by omega))
 | exit _=>exact ⟨s',k1,k2⟩
 | goto _=>exact ⟨s',k1,k2⟩
 | ret=>exact ⟨s',k1,k2⟩
 | panic _=>exact ⟨s',k1,k2⟩
 | outgrown=>exact ⟨s',k1,k2⟩
theorem AW_region {id:Nat} {l:List Oper} (h:AL P g l l Q s):AW P g (.region id l.toArray false) Q s:=fun a w hR=>wp_region_lit (h a w hR)
theorem AL_nil {ops:List Oper} (h:Q .normal s):AL P g ops [] Q s:=fun a w hR=>wpList_nil ⟨s,h,hR⟩
theorem Oper_wp_mono {o:Oper} {a:Act} {w:World} {N N':Act->World->Prop} {Q Q':Exit->Act->World->Prop} (hN:∀ a w,N a w->N' a w) (hQ:∀ e a w,Q e a w->Q' e a w)
  (h:o.wp P a w N Q):o.wp P a w N' Q':=by
 unfold Oper.wp at h ⊢
 cases hr:(execOp a.eval o).run P w with
 | halt x w'=>
  rw [hr] at h
  cases x with
  | panic v=>exact hQ _ _ _ h
  | _=>exact h.elim
 | ok x w'=>
  rw [hr] at h
  cases x with
  | value v=>exact hN _ _ h
  | skip=>exact hN _ _ h
  | defer d=>exact hN _ _ h
  | enter f args=>
   simp only [Oper.upon] at h ⊢
   refine Calls.mono h (fun e w'' he=>?_)
   cases e with
   | returned v=>exact hN _ _ he
   | panicked c=>exact hQ _ _ _ he
   | outgrown=>obtain ⟨a0,w0,h0⟩:=he; exact ⟨a0,w0,hQ _ _ _ h0⟩
  | row r args=>
   simp only [Oper.upon] at h ⊢
   exact Rows.mono h (fun v w'' hv=>hN _ _ hv)
  | _=>exact h.elim
theorem AL_cons {ops rest:List Oper} {o:Oper} (hg:o.guard=none) (h:AO P g o (AL P g ops rest Q) Q s):AL P g ops (o::rest) Q s:=fun a w hR=>
 wpList_plain hg (fun K hK=>Oper_wp_mono (fun a' w' ⟨s',h1,h2⟩=>hK _ _ (h1 a' w' h2)) (fun _ _ _ h=>h) (h a w hR))
theorem AR_undef {w:World} {H:FH} {γ:Gam} {m:Mm}:AR w H γ m (.tup []) undef:=⟨#[],rfl,trivial⟩
theorem unyielded {s:S} {a:Act} {w:World} {H:FH} {γ:Gam} {F:Nm->Fp} {ops:Array Oper} {j d:Nat} (hX:RX g s a w H γ F) (hj:((ops[j]?).bind (·.dst))=some d) (hd:getT s.t d=.tup []):yielded ops a.tmps j=none:=by
 have hv:=hX.t d
 rw [hd] at hv
 rcases Nat.lt_or_ge d a.tmps.size with hdl | hdl
 rotate_left
 ·simp only [yielded,hj,Option.bind_some,Array.getElem?_eq_none hdl]
 rw [G.tv_lt hdl] at hv
 obtain ⟨l,e,hl⟩:=hv
 have hl':l.toList=[]:=by
  cases h:l.toList with
  | nil=>rfl
  | cons x r=>rw [h] at hl; exact hl.elim
 have hl2:l=#[]:=by simpa using hl'
 subst hl2
 simp only [yielded,hj,Option.bind_some]
 cases hg:a.tmps[d]? with
 | none=>rfl
 | some x=>
  rw [Array.getD_eq_getD_getElem?,hg] at e
  simp only [Option.getD_some] at e
  subst e; rfl
theorem AL_unguard {ops rest:List Oper} {o:Oper} {j d:Nat} {want:Bool} (hg:o.guard=some (j,want)) (hj:((ops[j]?).bind (·.dst))=some d)
  (hd:getT s.t d=.tup []) (ho:okD g.nt o.dst=true) (h:AL P g ops rest Q (s.put o.dst (.tup []))):AL P g ops (o::rest) Q s:=by
 intro a w hR
 obtain ⟨H,γ,F,hX⟩:=hR
 have hy:=unyielded (ops:=ops.toArray) hX (by simpa using hj) hd
 refine wpList_step (fun K hK=>?_)
 simp only [Region.wanted,hg,hy]
 have e:((none:Option Bool)==some want)=false:=rfl
 rw [e]
 simp only [Bool.false_eq_true,if_false]
 exact hK _ _ (h (a.put o.dst undef) w ⟨H,γ,F,hX.put ho AR_undef⟩)
theorem AL_guard {ops rest:List Oper} {o:Oper} {j d:Nat} {want c:Bool} (hg:o.guard=some (j,want)) (hj:((ops[j]?).bind (·.dst))=some d)
  (hd:getT s.t d=.one (.c (.d (.bool c)))) (hdn:okD g.nt (some d)=true) (ho:okD g.nt o.dst=true)
  (h1:c=want->AO P g o (AL P g ops rest Q) Q (s.put (some d) (.one (.c (.d (.bool want))))))
  (h2:c=!want->AL P g ops rest Q ((s.put (some d) (.one (.c (.d (.bool (!want)))))).put o.dst (.tup []))):AL P g ops (o::rest) Q s:=by
 intro a w hR
 obtain ⟨H,γ,F,hX⟩:=hR
 have hv:=hX.t d
 have hd':d<a.tmps.size:=by rw [hX.nt]; simpa [okD] using hdn
 rw [hd,G.tv_lt hd'] at hv
 obtain ⟨hz,m,hv⟩:=hv
 have hv':a.tmps.getD d undef=.bool c:=by cases m <;> exact hv
 have hget:a.tmps[d]? = some (.bool c):=by
  rw [Array.getD_eq_getD_getElem?,Array.getElem?_eq_getElem hd'] at hv'
  rw [Array.getElem?_eq_getElem hd']
  simpa using hv'
 have hy:yielded ops.toArray a.tmps j=some c:=by
  simp only [yielded,List.getElem?_toArray,hj,Option.bind_some,hget]
 have same:a.put (some d) (.bool c)=a:=by
  simp only [Act.put]
  have:a.tmps.setIfInBounds d (.bool c)=a.tmps:=arr_set_same hget
  rw [this]
 have hput:RX g (s.put (some d) (.one (.c (.d (.bool c))))) a w H γ F:=by
  have:=hX.put (d:=some d) hdn (v:=.one (.c (.d (.bool c)))) (y:=.bool c) ⟨fun _=>rfl,0,rfl⟩
  rw [same] at this; exact this
 refine wpList_step (fun K hK=>?_)
 simp only [Region.wanted,hg,hy]
 by_cases hc:c=want
 ·subst hc
  simp only [beq_self_eq_true,if_true]
  exact Oper_wp_mono (fun a' w' ⟨s',k1,k2⟩=>hK _ _ (k1 a' w' k2)) (fun _ _ _ h=>h) (h1 rfl a w ⟨H,γ,F,hput⟩)
 ·have hc':c=!want:=by cases c <;> cases want <;> simp_all
  subst hc'
  have e:(some (!want)==some want)=false:=by cases want <;> rfl
  rw [e]
  simp only [Bool.false_eq_true,if_false]
  exact hK _ _ (h2 rfl (a.put o.dst undef) w ⟨H,γ,F,hput.put ho AR_undef⟩)
end
end Go.Am
end

section
namespace Go.Am
abbrev sc (x:D):AV:=.one (.c (.d x))
def cstT:Value->T
 | .bool b=>.d (.bool b)
 | .int k n=>.d (.int k n)
 | .string s=>.d (.str s.data.toList)
 | .slice none 0 0=>.nil
 | .pointer none=>.d (.v (.pointer none))
 | .map none=>.d (.v (.map none))
 | .nilFunc=>.d (.v .nilFunc)
 | .nilIface=>.d (.v .nilIface)
 | .func f a b=>.d (.v (.func f a b))
 | _=>.any
def cst:Value->AV
 | .agg cs=>.one (.agg (cs.toList.map cstT))
 | v=>.one (.c (cstT v))
def okT:Value->Bool
 | .int k n=>(Lit.int k n).wf
 | .string s=>decide (s.size<=2 ^ 62)
 | _=>true
def okC:Value->Bool
 | .agg cs=>cs.all okT
 | v=>okT v
def okOp:Operand->Bool
 | .const v=>okC v
 | .tmp t=>Nat.blt t 100000
 | .global g=>(globT g).isSome
 | _=>true
def ev (s:S):Operand->AV
 | .tmp t=>getT s.t t
 | .const v=>cst v
 | .func f=>sc (.v (.func (.func f) #[] #[]))
 | .global g=>match globT g with
  | some row=>.one (.c (.el row 0))
  | none=>.any
theorem cstT_ok {w:World} {H:FH} {γ:Gam} {m:Mm} {v:Value} (h:okT v=true):TR w H γ m (cstT v) (fun _=>0) v:=by
 cases v with
 | bool b=>exact ⟨fun _=>rfl,0,rfl⟩
 | int k n=>exact ⟨fun _=>rfl,0,rfl,h⟩
 | string s=>
  refine ⟨fun _=>rfl,0,?_,?_⟩
  ·obtain ⟨⟨l⟩⟩:=s; rfl
  ·simpa [okT,BIG] using h
 | slice a n c=>
  cases a with
  | none=>cases n with
   | zero=>cases c with
    | zero=>exact ⟨fun _=>rfl,rfl⟩
    | succ c=>intro b; rfl
   | succ n=>intro b; rfl
  | some a=>intro b; rfl
 | pointer a=>cases a with
  | none=>exact ⟨fun _=>rfl,0,rfl,rfl⟩
  | some a=>intro b; rfl
 | map a=>cases a with
  | none=>exact ⟨fun _=>rfl,0,rfl,rfl⟩
  | some a=>intro b; rfl
 | nilFunc=>exact ⟨fun _=>rfl,0,rfl,rfl⟩
 | nilIface=>exact ⟨fun _=>rfl,0,rfl,rfl⟩
 | func f a b=>exact ⟨fun _=>rfl,0,rfl,rfl⟩
 | _=>intro b; rfl
theorem Ts_cst {w:World} {H:FH} {γ:Gam} {m:Mm}:∀ {l:List Value},l.all okT=true->Ts (TR w H γ m) (l.map cstT) (fun _=>0) l
 | [],_=>fun _=>rfl
 | v::l,h=>by
  simp only [List.all_cons,Bool.and_eq_true] at h
  exact ⟨v,l,fun _=>0,fun _=>0,rfl,fun _=>rfl,cstT_ok h.1,Ts_cst h.2⟩
theorem cst_ok {w:World} {H:FH} {γ:Gam} {m:Mm} {v:Value} (h:okC v=true):AR w H γ m (cst v) v:=by
 by_cases hv:∃ cs,v=.agg cs
 ·obtain ⟨cs,rfl⟩:=hv
  exact ⟨cs,rfl,by simp,Ts_cst (by simpa [okC] using h)⟩
 ·have e:cst v=.one (.c (cstT v))/\okC v=okT v:=by
   cases v with
   | agg cs=>exact absurd ⟨cs,rfl⟩ hv
   | _=>exact ⟨rfl,rfl⟩
  rw [e.1]
  exact cstT_ok (by rw [<- e.2]; exact h)
theorem ev_ok {g:G} {s:S} {a:Act} {w:World} {H:FH} {γ:Gam} {F:Nm->Fp} (h:RX g s a w H γ F) {x:Operand} (hx:okOp x=true):AR w H γ s.m (ev s x) (a.eval x):=by
 cases x with
 | tmp t=>
  have:=h.t t
  rw [G.tv_lo (show t<TB from Nat.lt_of_lt_of_le (Nat.le_of_ble_eq_true hx) (Nat.le_refl _))] at this
  exact this
 | const v=>exact cst_ok hx
 | global n=>
  cases hg:globT n with
  | none=>simp [okOp,hg] at hx
  | some row=>
   obtain ⟨m,hm⟩:=(RX_globs h).1 n row hg
   simp only [ev,hg]
   exact ⟨fun _=>rfl,n,0,m,rfl,hm⟩
 | func f=>exact ⟨fun _=>rfl,0,rfl,rfl⟩
def D.val:D->Option Value
 | .int k n=>some (.int k n)
 | .bool b=>some (.bool b)
 | .str l=>some (.string ⟨l.toArray⟩)
 | .v x=>some x
 | _=>none
theorem FDx_int {H:FH} {k:IntKind} {n:Int} {y:Value} (h:FDx H (.int k n) y):y=.int k n/\(Lit.int k n).wf=true:=by
 obtain ⟨m,h⟩:=h; cases m <;> exact h
theorem FDx_bool {H:FH} {b:Bool} {y:Value} (h:FDx H (.bool b) y):y=.bool b:=by
 obtain ⟨m,h⟩:=h; cases m <;> exact h
theorem FDx_str {H:FH} {l:List UInt8} {y:Value} (h:FDx H (.str l) y):y=.string ⟨l.toArray⟩/\l.length<=BIG:=by
 obtain ⟨m,h⟩:=h; cases m <;> exact h
theorem AR_int {w:World} {H:FH} {γ:Gam} {m:Mm} {k:IntKind} {n:Int} {y:Value} (h:AR w H γ m (sc (.int k n)) y):y=.int k n/\(Lit.int k n).wf=true:=FDx_int h.2
theorem AR_bool {w:World} {H:FH} {γ:Gam} {m:Mm} {b:Bool} {y:Value} (h:AR w H γ m (sc (.bool b)) y):y=.bool b:=FDx_bool h.2
theorem AR_str {w:World} {H:FH} {γ:Gam} {m:Mm} {l:List UInt8} {y:Value} (h:AR w H γ m (sc (.str l)) y):y=.string ⟨l.toArray⟩/\l.length<=BIG:=FDx_str h.2
theorem AR_mk_int {w:World} {H:FH} {γ:Gam} {m:Mm} {k:IntKind} {n:Int} (h:(Lit.int k n).wf=true):AR w H γ m (sc (.int k n)) (.int k n):=⟨fun _=>rfl,0,rfl,h⟩
theorem AR_mk_bool {w:World} {H:FH} {γ:Gam} {m:Mm} {b:Bool}:AR w H γ m (sc (.bool b)) (.bool b):=⟨fun _=>rfl,0,rfl⟩
theorem AR_mk_str {w:World} {H:FH} {γ:Gam} {m:Mm} {l:List UInt8} (h:l.length<=BIG):AR w H γ m (sc (.str l)) (.string ⟨l.toArray⟩):=⟨fun _=>rfl,0,rfl,h⟩
theorem AO_value {P:Program} {g:G} {o:Oper} {K:S->Prop} {Q:Exit->S->Prop} {s:S} (hd:okD g.nt o.dst=true)
  (h:∀ a w H γ F,RX g s a w H γ F->∃ y v,(execOp a.eval o).run P w=.ok (.value y) w/\AR w H γ s.m v y/\K (s.put o.dst v)):AO P g o K Q s:=by
 intro a w ⟨H,γ,F,hX⟩
 obtain ⟨y,v,h1,h2,h3⟩:=h a w H γ F hX
 unfold Oper.wp
 rw [h1]
 exact ⟨_,h3,H,γ,F,hX.put hd h2⟩
def binD (op:BinOp):D->D->(D->Prop)->Prop
 | .int k a,.int k' b,K=>
  match op with
  | .add=>k=k'/\K (.int k (k.wrap (a+b)))
  | .sub=>k=k'/\K (.int k (k.wrap (a-b)))
  | .mul=>k=k'/\K (.int k (k.wrap (a*b)))
  | .quo=>k=k'/\b≠0/\K (.int k (k.wrap (a.tdiv b)))
  | .rem=>k=k'/\b≠0/\K (.int k (a.tmod b))
  | .and=>k=k'/\K (.int k (k.wrap (BitVec.ofInt k.bits a &&& BitVec.ofInt k.bits b).toNat))
  | .or=>k=k'/\K (.int k (k.wrap (BitVec.ofInt k.bits a ||| BitVec.ofInt k.bits b).toNat))
  | .xor=>k=k'/\K (.int k (k.wrap (BitVec.ofInt k.bits a ^^^ BitVec.ofInt k.bits b).toNat))
  | .andNot=>k=k'/\K (.int k (k.wrap (BitVec.ofInt k.bits a &&& ~~~BitVec.ofInt k.bits b).toNat))
  | .shl=>0<=b/\K (.int k (k.wrap (a*2 ^ (min b.toNat k.bits))))
  | .shr=>0<=b/\K (.int k (a.fdiv (2 ^ (min b.toNat k.bits))))
  | .eql=>k=k'/\K (.bool (decide (a=b)))
  | .neq=>k=k'/\K (.bool (!decide (a=b)))
  | .lss=>k=k'/\K (.bool (decide (a<b)))
  | .leq=>k=k'/\K (.bool (decide (a<=b)))
  | .gtr=>k=k'/\K (.bool (decide (b<a)))
  | .geq=>k=k'/\K (.bool (decide (b<=a)))
 | .str a,.str b,K=>
  match op with
  | .add=>a.length+b.length<=4611686018427387904/\K (.str (a++b))
  | .eql=>K (.bool (decide (a=b)))
  | .neq=>K (.bool (!decide (a=b)))
  | .lss=>K (.bool (Op.bytesLess a b))
  | .leq=>K (.bool (Op.bytesLess a b||decide (a=b)))
  | .gtr=>K (.bool (!(Op.bytesLess a b||decide (a=b))))
  | .geq=>K (.bool (!Op.bytesLess a b))
  | _=>False
 | _,_,_=>False
theorem tmod_le_self {a b:Int} (ha:0<=a):a.tmod b<=a:=by
 obtain ⟨m,rfl⟩:=Int.eq_ofNat_of_zero_le ha
 cases b with
 | ofNat n=>
  have:(m:Int).tmod (Int.ofNat n)=((m % n:Nat):Int):=rfl
  rw [this]; exact Int.ofNat_le.2 (Nat.mod_le _ _)
 | negSucc n=>
  have:(m:Int).tmod (Int.negSucc n)=((m % (n+1):Nat):Int):=rfl
  rw [this]; exact Int.ofNat_le.2 (Nat.mod_le _ _)
theorem wf_tmod {k:IntKind} {a b:Int} (h:(Lit.int k a).wf=true):(Lit.int k (a.tmod b)).wf=true:=by
 simp only [Lit.wf,Bool.and_eq_true,decide_eq_true_eq] at h ⊢
 obtain ⟨h1,h2⟩:=h
 have hmin:k.min<=0:=by cases k <;> decide
 have hmax:0<=k.max:=by cases k <;> decide
 rcases Int.le_total 0 a with ha | ha
 ·have h3:0<=a.tmod b:=Int.tmod_nonneg b ha
  have h4:a.tmod b<=a:=tmod_le_self ha
  omega
 ·have h0:0 <= -a:=by omega
  have h3:0<=(-a).tmod b:=Int.tmod_nonneg b h0
  have h4:(-a).tmod b <= -a:=tmod_le_self h0
  rw [Int.neg_tmod] at h3 h4
  omega
theorem wf_fdiv {k:IntKind} {a:Int} {n:Nat} (h:(Lit.int k a).wf=true):(Lit.int k (a.fdiv (2 ^ n))).wf=true:=by
 simp only [Lit.wf,Bool.and_eq_true,decide_eq_true_eq] at h ⊢
 obtain ⟨h1,h2⟩:=h
 have hmin:k.min<=0:=by cases k <;> decide
 have hmax:0<=k.max:=by cases k <;> decide
 have hp:(0:Int) < 2 ^ n:=Int.pow_pos (by decide)
 have e:a.fdiv (2 ^ n)=a / 2 ^ n:=Int.fdiv_eq_ediv_of_nonneg a (by omega)
 rw [e]
 generalize (2:Int) ^ n=p at *
 rcases Int.le_total 0 a with ha | ha
 ·have h3:0<=a / p:=Int.ediv_nonneg ha (by omega)
  have h4:a / p<=a:=Int.ediv_le_self _ ha
  omega
 ·have h3:a / p<=0:=by
   have:=Int.ediv_le_ediv hp ha; simpa using this
  have h4:a<=a / p:=by
   refine Int.le_ediv_of_mul_le hp ?_
   have h5:(-a)*1<=(-a)*p:=Int.mul_le_mul_of_nonneg_left (by omega) (by omega)
   rw [Int.neg_mul,Int.neg_mul] at h5
   omega
  omega
end Go.Am
end
