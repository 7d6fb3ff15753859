/-
  Part 5: AmAppRun · AmFreeze · AmBox · AmAppend · AmAppendOp.
-/
import Derived.Test.YtlikflolhhlgjaaGreatDoorBa4
import Derived.Laws.Append
import Derived.Laws.CopyRow
import Derived.Laws.AppendOwn
set_option linter.unusedSimpArgs false
set_option linter.unusedVariables false
set_option linter.unusedSectionVars false
set_option linter.unnecessarySimpa false
section
namespace Go.Am
def isSS:TypeDesc->Bool
 | .slice _=>true
 | .string=>true
 | _=>false
theorem mV {d:TypeDesc} (h:isSS d=true):(∃ e,d=.slice e)\/d=.string:=by
 cases d <;> simp [isSS] at h ⊢
section
variable {P:Program} {w:World}
structure Src (P:Program) (w:World) (size:Nat) (x:Value) (n:Nat) (ws:List Value):Prop where
 len:∀ w',(Builtin.lenOf x).run P w'=.ok n w'
 cells:∀ w':World,w'.heap=w.heap->(Builtin.firstCells size n x).run P w'=.ok ws.toArray w'
 size:ws.length=n*size
theorem vT {size n c:Nat} {b o:Nat} {ws:List Value} (hl:ws.length=n*size) (h:TT w b o ws):Src P w size (.slice (some ⟨b,o,none⟩) n c) n ws:=by
 refine ⟨fun _=>rfl,fun w' hw=>?_,hl⟩;refine run_firstCells_some w' size n _ n c ws hl (fun j v hv=>?_);rw [eR];exact (bJ (by rw [hw])).trans (h j v hv)
theorem pQ {size c:Nat} {a:Option Addr}:Src P w size (.slice a 0 c) 0 []:=by
 refine ⟨fun _=>rfl,fun w' _=>?_,by simp⟩;cases a with
 | none=>rfl
 | some a=>simp only [Builtin.firstCells,Nat.zero_mul]; rfl
theorem YR {l:List UInt8}:Src P w 1 (.string ⟨l.toArray⟩) l.length (l.map fun b=>.int .u8 b.toNat):=by
 have hs:(⟨l.toArray⟩:ByteArray).size=l.length:=by show l.toArray.size=_; simp
 refine ⟨fun w'=>?_,fun w' _=>?_,by simp⟩
 ·simp only [Builtin.lenOf,Sem.run_pure]; rw [hs]
 ·simp only [Builtin.firstCells,Sem.run_pure]
  congr 1
  apply Array.ext'
  have e:((⟨l.toArray⟩:ByteArray).extract 0 l.length).data=l.toArray:=by
   simp [ByteArray.data_extract]
  rw [e]; simp
theorem JA {t u tt e:TypeId} {d:TypeDesc} {i:TypeInfo} {x:Value} {ws:List Value} (ht:P.underlying t=some (.slice e)) (hu:P.underlying u=some d) (hd:isSS d=true) (hi:P.info? e=some i)
  {a:Option Addr} {n c m:Nat} (hx:Src P w i.size x m ws) (hroom:n+m<=c) (hw:ws=[]\/a=none) :
  (Builtin.append_ #[t,u] tt #[.slice a n c,x]).run P w=.ok (.slice a (n+m) c) w:=by
 have h1:=hx.len w
 have h2:=hx.cells w rfl
 cases a with
 | none=>
  rcases mV hd with ⟨e',rfl⟩ | rfl
  all_goals simp [Builtin.append_,run_underlying ht,run_underlying hu,sizeOf,typeInfo,hi,h1,h2,hroom]
 | some a=>
  have:ws=[]:=by rcases hw with h | h; exact h; simp at h
  subst this;rcases mV hd with ⟨e',rfl⟩ | rfl
  all_goals simp [Builtin.append_,run_underlying ht,run_underlying hu,sizeOf,typeInfo,hi,h1,h2,hroom,storeCells]
theorem Su {t u tt e:TypeId} {d:TypeDesc} {i:TypeInfo} {x:Value} {ws:List Value} (ht:P.underlying t=some (.slice e)) (hu:P.underlying u=some d) (hd:isSS d=true) (hi:P.info? e=some i)
  {g n c m:Nat} {cur:Array Value} {ty':TypeId} (hg:w.heap[g]? = some (.cells cur ty' (0,0))) (hx:Src P w i.size x m ws) (h1':∀ v∈ws,v.oneCell'=true) (hroom:n+m<=c) (hfit:n*i.size+ws.length<=cur.size) :
  (Builtin.append_ #[t,u] tt #[.slice (some ⟨g,0,none⟩) n c,x]).run P w =
   .ok (.slice (some ⟨g,0,none⟩) (n+m) c) (w.setRow g (cur.toList.take (n*i.size)++ws++cur.toList.drop (n*i.size+ws.length)).toArray):=by
 have h1:=hx.len w
 have h2:=hx.cells w rfl
 have hst:=run_storeCells_at P g (n*i.size) ty' ws 0 cur w hg (by simpa using hfit) h1'
 simp only [agG] at hst;rcases mV hd with ⟨e',rfl⟩ | rfl
 all_goals simp [Builtin.append_,run_underlying ht,run_underlying hu,sizeOf,typeInfo,hi,h1,h2,hroom,Addr.add_lit,hst]
theorem Jn {t u tt e:TypeId} {d:TypeDesc} {i:TypeInfo} {z:Value} {x:Value} {ws olds:List Value} (ht:P.underlying t=some (.slice e)) (hu:P.underlying u=some d) (hd:isSS d=true) (hi:P.info? e=some i)
  (hz:i.zero=some z) {a:Option Addr} {n c m:Nat} (hx:Src P w i.size x m ws) (ho:Src P w i.size (.slice a n c) n olds) (hg:c<n+m) (h63:((n+m:Nat):Int)<=9223372036854775807) (hb:(n+m)*i.bytes<=140737488355328) :
  (Builtin.append_ #[t,u] tt #[.slice a n c,x]).run P w =
   .ok (.slice (some ⟨w.heap.size,0,none⟩) (n+m) (grownCap w (n+m) c e))
    (w.drew.alloc (.cells ((olds++ws).toArray++Builtin.zeroCells z.cells (grownCap w (n+m) c e - (n+m))) e)):=by
 have h1:=hx.len w
 have h2:=hx.cells w.drew rfl
 have h3:=ho.cells w.drew rfl
 have hn:¬ (n+m<=c):=by omega
 have h63':¬ (9223372036854775807 < ((n:Int)+(m:Int))):=by omega
 have h48:¬ (281474976710656<Builtin.nextslicecap (n+m) c*i.bytes):=by have:=growslice_fits hg hb; omega
 rcases mV hd with ⟨e',rfl⟩ | rfl
 all_goals simp [Builtin.append_,run_underlying ht,run_underlying hu,sizeOf,typeInfo,zeroValue,hi,hz,h1,h2,h3,hn,h63',h48,Question.forced,newRow,grownCap]
 all_goals rw [<- List.append_toArray olds ws,Array.append_assoc]
theorem Kb {need old:Nat} {e:TypeId}:need<=grownCap w need old e:=by
 unfold grownCap Question.cut; dsimp only; omega
end
end Go.Am
end

section
namespace Go.Am
def AV1.map (f:T->T):AV1->AV1
 | .c t=>.c (f t)
 | .agg ts=>.agg (ts.map f)
def AV.map (f:T->T):AV->AV
 | .one x=>.one (x.map f)
 | .tup xs=>.tup (xs.map (·.map f))
 | .any=>.any
def B6 (f:AV->AV) (t:List (Nat×AV)):List (Nat×AV):=t.map fun x=>(x.1,f x.2)
theorem wF {f:AV->AV} (hf:f .any=.any):∀ (t:List (Nat×AV)) (i:Nat),aK (B6 f t) i=f (aK t i)
 | [],i=>hf.symm
 | (k,v)::t,i=>by
  simp only [B6,List.map_cons,aK];split
  ·rfl
  ·exact wF hf t i
theorem X2 {w w':World} {H H':FH} {γ γ':Gam} {m m':Mm} {f:T->T} (hf:∀ t y,TR w H γ m t (fun _=>0) y->TR w' H' γ' m' (f t) (fun _=>0) y) :
  ∀ {ts:List T} {g:Fp} {vs:List Value},(∀ b,g b=0)->Ts (TR w H γ m) ts g vs->Ts (TR w' H' γ' m') (ts.map f) g vs:=by
 intro ts g vs hg h;unfold Ts;rw [adE];refine MS (fun _ t k y hk ht=>?_) h;have:k=fun _=>0:=by funext b; have:=hk b; have:=hg b; omega
 subst this;exact hf t y ht
theorem O9 {w w':World} {H H':FH} {γ γ':Gam} {m m':Mm} {f:T->T} (hf:∀ t y,TR w H γ m t (fun _=>0) y->TR w' H' γ' m' (f t) (fun _=>0) y)
  {x:AV1} {y:Value} (h:AR1 w H γ m x y):AR1 w' H' γ' m' (x.map f) y:=by
 cases x with
 | c t=>exact hf t y h
 | agg ts=>obtain ⟨cs,h1,h2,h3⟩:=h; exact ⟨cs,h1,by rw [adE]; exact h2,X2 hf (fun _=>rfl) h3⟩
theorem PG {w w':World} {H H':FH} {γ γ':Gam} {m m':Mm} {f:T->T} (hf:∀ t y,TR w H γ m t (fun _=>0) y->TR w' H' γ' m' (f t) (fun _=>0) y) :
  ∀ {xs:List AV1} {ys:List Value},ARs w H γ m xs ys->ARs w' H' γ' m' (xs.map (·.map f)) ys
 | [],[],_=>trivial
 | _::_,_::_,h=>⟨O9 hf h.1,PG hf h.2⟩
 | [],_::_,h=>h.elim
 | _::_,[],h=>h.elim
theorem fE {w w':World} {H H':FH} {γ γ':Gam} {m m':Mm} {f:T->T} (hf:∀ t y,TR w H γ m t (fun _=>0) y->TR w' H' γ' m' (f t) (fun _=>0) y)
  {x:AV} {y:Value} (h:AR w H γ m x y):AR w' H' γ' m' (x.map f) y:=by
 cases x with
 | one x=>exact O9 hf h
 | tup xs=>obtain ⟨l,h1,h2⟩:=h; exact ⟨l,h1,PG hf h2⟩
 | any=>trivial
def T.frz (q:Pl) (l:List (List D)):T->T
 | .rf p=>match p with
  | ⟨n,o,[]⟩=>if n=q.root/\o=q.off then .d (.li l) else (T.rf ⟨n,o,[]⟩).kill (thr q)
  | p=>(T.rf p).kill (thr q)
 | t=>t.kill (thr q)
def LU (m:Mm) (q:Pl) (l:List (List D)):Mm:=bi (aL (thr q) (bi m q .any)) q (.d (.li l))
def JX (s:S) (q:Pl):S:=
 match q.path,be s.m q with
 | [],some (.ow _ l)=>⟨B6 (AV.map (T.frz q l)) s.t,LU s.m q l⟩
 | _,_=>s
theorem Nv {w:World} {H:FH} {γ:Gam} {m:Mm} {F:Nm->Fp} (hm:Mem w H γ m F) {n:Nm} {off:Nat} (hg:be m ⟨n,off,[]⟩=some .any) {v:Value} (hv:aD w (γ n) off=some v) {x:D} (hx:FDx H x v) :
  Mem w H γ (bi m ⟨n,off,[]⟩ (.d x)) F/\Keeps w γ m w γ (bi m ⟨n,off,[]⟩ (.d x)):=by
 unfold be at hg;cases hr:ae m n with
 | none=>rw [hr] at hg; simp at hg
 | some r=>
  rw [hr] at hg;dsimp only at hg;have hlt:=aj hg
  have e:bi m ⟨n,off,[]⟩ (.d x)=dD m n { r with cells:=r.cells.set off (.d x) }:=by simp only [bi,hr]
  have hgr:∀ k,ae (bi m ⟨n,off,[]⟩ (.d x)) k=if n=k then some { r with cells:=r.cells.set off (.d x) } else ae m k:=fun k=>by rw [e]; exact jS hr
  have hK:Keeps w γ m w γ (bi m ⟨n,off,[]⟩ (.d x)):=by
   constructor
   ·intro q hq;refine ⟨?_,rfl⟩;rw [ap] at hq ⊢;rw [hgr];obtain ⟨r',h1,h2⟩:=hq;by_cases hn:n=q.root
    ·rw [if_pos hn];rw [<- hn,hr] at h1;obtain rfl:r=r':=by simpa using h1
     refine ⟨_,rfl,?_⟩;obtain ⟨qn,qo,qp⟩:=q;dsimp only [aS] at h2 ⊢;cases qp with
     | nil=>simpa [aS] using h2
     | cons st u=>
      simp only [aS] at h2 ⊢;by_cases ho:off=qo
      ·subst ho; rw [hg] at h2; exact h2.elim
      ·rw [aeD ho]; exact h2
    ·rw [if_neg hn]; exact ⟨r',h1,h2⟩
   ·intro q hq;refine ⟨?_,rfl⟩;rw [cW] at hq ⊢;rw [hgr];obtain ⟨r',h1,h2⟩:=hq;by_cases hn:n=q.root
    ·rw [if_pos hn];rw [<- hn,hr] at h1;obtain rfl:r=r':=by simpa using h1
     refine ⟨_,rfl,?_⟩;dsimp only [cC] at h2 ⊢;by_cases ho:off=q.off
     ·rw [ho] at hg; rw [hg] at h2; cases q.path <;> exact h2.elim
     ·rw [aeD ho]; exact h2
    ·rw [if_neg hn]; exact ⟨r',h1,h2⟩
  refine ⟨⟨hm.agree,?_,?_,?_,?_,?_⟩,hK⟩
  ·intro y hy;rw [e] at hy;rcases uc hm.keys hy with ⟨_,hy⟩ | rfl
   ·exact aX hK (fun _ _ _ h=>h) rfl (fun _ _=>rfl) (hm.roots y hy)
   ·have hroot:=hm.roots _ (aw hr)
    dsimp only at hroot ⊢;have hroot:=aX hK (fun _ _ _ h=>h) rfl (fun _ _=>rfl) hroot
    unfold bm at hroot ⊢;dsimp only;split at hroot
    ·rename_i hb;rw [if_pos hb];obtain ⟨b,cs,ty,fz,g,h1,h2,h3,h4,h5,h6⟩:=hroot;refine ⟨b,cs,ty,fz,g,h1,h2,h3,by rw [aeK]; exact h4,?_,h6⟩;unfold Ts at h5 ⊢;rw [aeK];obtain ⟨s0,t0,v0,fk,fr,a1,a2,a3,a4,a5,a6,_⟩:=dX _ _ _ _ off h5 hlt;rw [hg] at a2;obtain rfl:T.any=t0:=by simpa using a2
     have hvv:v0=v:=by
      rw [h1] at hv;simp only [aD,World.cell?,h2] at hv;have:cs[off]? = some v0:=by simpa using a3
      simp [this] at hv;exact hv
     subst hvv;have h0:∀ b,fk b=0:=a5
     have:=a6 (fun (_:Unit) t=>TR w H γ (bi m ⟨n,off,[]⟩ (.d x)) t) (.d x) v0 (fun _=>0) (fun _ _ _ _ _ h=>h) ⟨fun _=>rfl,hx⟩
     rw [vk a3] at this;exact A5 (fun b=>by have:=a4 b; have:=h0 b; (try dsimp only); omega) this
    ·rename_i hb;rw [if_neg hb];obtain ⟨v',t,h1,h2,h3⟩:=hroot;rw [h2] at hg hlt;have:off=0:=by simpa using hlt
     subst this;obtain rfl:t=.any:=by simpa using hg
     rw [h1] at hv;simp only [aD,if_true,ac8] at hv;subst hv;exact ⟨v',.d x,h1,by rw [h2]; rfl,h3,hx⟩
  ·rw [e,qG]; exact hm.keys
  ·intro b; rw [e,eO]; exact hm.le1 b
  ·intro b hb; rw [e,eO] at hb; exact hm.lt b hb
  ·intro b hb; rw [e,eO] at hb; exact hm.nofz b hb
section
variable {P:Program} {g:G} {s:S} {a:Act} {w:World} {H:FH} {γ:Gam} {F:Nm->Fp}
theorem OG (h:RX g s a w H γ F) (q:Pl):∃ H' F',RX g (JX s q) a w H' γ F':=by
 unfold JX;obtain ⟨n,off,path⟩:=q;cases path with
 | cons st u=>exact ⟨H,F,h⟩
 | nil=>
  dsimp only;cases hg:be s.m ⟨n,off,[]⟩ with
  | none=>exact ⟨H,F,h⟩
  | some t=>
   cases t with
   | ow sub l=>
    dsimp only;have hok:bU s.m ⟨n,off,[]⟩:=by
     unfold be at hg;rw [ap];cases hr:ae s.m n with
     | none=>rw [hr] at hg; simp at hg
     | some r=>rw [hr] at hg; exact ⟨r,rfl,aj hg⟩
    obtain ⟨f,v,t1,t2,t3,t4,t5⟩:=Kg h.mem hok hg
    let H':FH:=fun b o=>if f b≠0 then w.cell? ⟨b,o,none⟩ else H b o
    have hH:∀ b o y,H b o=some y->H' b o=some y:=by
     intro b o y hy;simp only [H'];split
     ·exact h.mem.agree b o y hy
     ·exact hy
    have hag:∀ b o y,H' b o=some y->w.cell? ⟨b,o,none⟩=some y:=by
     intro b o y hy;simp only [H'] at hy;split at hy
     ·exact hy
     ·exact h.mem.agree b o y hy
    have hm1:=t5 H' hH hag (fun b hb o=>by
     have h1:=t4 b; have h2:=h.mem.le1 b
     simp only [H'];rw [if_neg (by omega)];exact h.mem.nofz b (by omega) o)
    have hx:FDx H' (.li l) v:=by
     obtain ⟨k,hod⟩:=t2;exact ab7 hH k _ _ _ _ hod (fun b hb o z hz=>by simp only [H']; rw [if_pos hb]; exact hz)
    have hany:be (aL (thr ⟨n,off,[]⟩) (bi s.m ⟨n,off,[]⟩ .any)) ⟨n,off,[]⟩=some .any:=by
     obtain ⟨r,hr,hlt⟩:=ap.1 hok;dsimp only [aS] at hr hlt;unfold be;rw [nH,AU (t:=T.any) hr];simp only [if_true,Option.map_some,adG];rw [ad1 hlt];rfl
    have hv:aD w (γ n) off=some v:=t1
    obtain ⟨hm2,hK2⟩:=Nv hm1 hany hv hx;have hKB:=pf h.mem hok
    refine ⟨H',_,⟨hm2,?_,h.nt,h.df,fun i=>?_⟩⟩
    ·have htot:∀ b,tot (fun k b=>F k b-if k=n then f b else 0) (LU s.m ⟨n,off,[]⟩ l) b=tot (fun k b=>F k b-if k=n then f b else 0) s.m b:=by
      intro b;obtain ⟨r,hr,_⟩:=ap.1 hok;unfold LU;have e1:∀ (m:Mm) (p:Pl) (t:T) (F:Nm->Fp),tot F (bi m p t) b=tot F m b:=by
       intro m p t F;unfold bi;cases ae m p.root with
       | none=>rfl
       | some r=>dsimp only; rw [eO]
      rw [e1,bH,e1]
     refine ⟨h.fr.size,h.fr.os,h.fr.tape,h.fr.output,h.fr.block,fun b o y hy=>hH _ _ _ (h.fr.hold b o y hy),fun b o h1 h2=>?_,fun b hb=>?_⟩
     ·by_cases hb:f b=0
      ·simp only [H'] at h1;rw [if_neg (by omega)] at h1;exact h.fr.hnew b o h1 h2
      ·exact h.fr.tt b (by have:=t4 b; omega)
     ·have hb':=htot b
      have h4:=t4 b
      dsimp only at h4 hb';have hb2:tot (fun k b=>F k b-if k=n then f b else 0) (LU s.m ⟨n,off,[]⟩ l) b≠0:=hb
      refine h.fr.tt b ?_;omega
    ·show AR w H' γ _ (aK (B6 _ s.t) i) _
     rw [wF rfl];refine fE (fun t y ht=>?_) (h.t i);have hk:=fun (t:T) (ht:TR w H γ s.m t (fun _=>0) y)=>i7 hK2 (fun _ _ _ h=>h) (fun _ hb=>absurd rfl hb) (u7 hKB hH (fun _ hb=>absurd rfl hb) ht)
     cases t with
     | rf p=>
      obtain ⟨pn,po,pp⟩:=p;cases pp with
      | nil=>
       simp only [T.frz];split
       ·rename_i hc;obtain ⟨rfl,rfl⟩:=hc;obtain ⟨_,_,hv'⟩:=ht;have:y=v:=by
         have h1:plV w γ ⟨pn,po,[]⟩=some v:=t1
         rw [h1] at hv'; simpa using hv'.symm
        subst this;exact ⟨fun _=>rfl,hx⟩
       ·exact hk _ ht
      | cons st u=>exact hk _ ht
     | _=>exact hk _ ht
   | _=>exact ⟨H,F,h⟩
def WQ (s:S):T->S
 | .rf p=>JX s p
 | _=>s
def EP:S->List T->S
 | s,[]=>s
 | s,t::ts=>EP (WQ s t) ts
def Lv (s:S):AV->S
 | .one (.c t)=>WQ s t
 | .one (.agg ts)=>EP s ts
 | _=>s
def jt (s:S):List AV->S
 | []=>s
 | v::vs=>jt (Lv s v) vs
theorem Qz (h:RX g s a w H γ F) (t:T):∃ H' F',RX g (WQ s t) a w H' γ F':=by
 cases t with
 | rf p=>exact OG h p
 | _=>exact ⟨H,F,h⟩
theorem Ju:∀ (ts:List T) (s:S) (H:FH) (F:Nm->Fp),RX g s a w H γ F->∃ H' F',RX g (EP s ts) a w H' γ F'
 | [],s,H,F,h=>⟨H,F,h⟩
 | t::ts,s,H,F,h=>by
  obtain ⟨H1,F1,h1⟩:=Qz h t;exact Ju ts _ H1 F1 h1
theorem FA (h:RX g s a w H γ F) (v:AV):∃ H' F',RX g (Lv s v) a w H' γ F':=by
 unfold Lv;split
 ·exact Qz h _
 ·exact Ju _ _ _ _ h
 ·exact ⟨H,F,h⟩
theorem ky:∀ (vs:List AV) (s:S) (H:FH) (F:Nm->Fp),RX g s a w H γ F->∃ H' F',RX g (jt s vs) a w H' γ F'
 | [],s,H,F,h=>⟨H,F,h⟩
 | v::vs,s,H,F,h=>by
  obtain ⟨H1,F1,h1⟩:=FA h v;exact ky vs _ H1 F1 h1
end
end Go.Am
end

section
namespace Go.Am
def S.fresh (s:S) (n:Nm):S:=match ae s.m n with
 | none=>s
 | some _=>s.drop n
def S.root (s:S) (n:Nm) (r:Root):S:=⟨s.t,(n,r)::s.m⟩
def zcells (P:Program) (t:TypeId):Option (List Value):=
 match P.info? t with
 | some it=>match it.zero with
  | some z=>if z.cells.all okT=true then some z.cells.toList else none
  | none=>none
 | none=>none
def T.fz:T->D
 | .d x=>x
 | .nil=>.li []
 | _=>.any
def chunk {α:Type} (size:Nat):Nat->List α->List (List α)
 | 0,_=>[]
 | n+1,l=>l.take size::chunk size n (l.drop size)
theorem nC {α:Type} {size:Nat}:∀ {n:Nat} {l:List α},(chunk size n l).length=n
 | 0,_=>rfl
 | n+1,l=>by simp only [chunk,adF,nC]
theorem sD {α:Type} {size:Nat}:∀ {n:Nat} {l:List α},l.length=n*size->(chunk size n l).flatten=l
 | 0,l,h=>by
  have:l=[]:=by simpa using h
  subst this; rfl
 | n+1,l,h=>by
  rw [ae5] at h;simp only [chunk,af5];rw [sD (by simp; omega),afZ]
theorem wO {α:Type} {size:Nat}:∀ {n:Nat} {l:List α},l.length=n*size->∀ x∈chunk size n l,x.length=size
 | 0,l,h,x,hx=>by simp [chunk] at hx
 | n+1,l,h,x,hx=>by
  rw [ae5] at h;simp only [chunk,adK] at hx;rcases hx with rfl | hx
  ·simp; omega
  ·exact wO (by simp; omega) x hx
theorem jU {m:Mm} {n:Nm} (hk:(m.map (·.1)).Nodup):n ∉ (bv m n).map (·.1):=by
 induction m with
 | nil=>simp [bv]
 | cons y m ih=>
  obtain ⟨j,z⟩:=y;simp only [List.map_cons,afC] at hk;simp only [bv];split
  ·rename_i e; subst e; exact hk.1
  ·rename_i e;simp only [List.map_cons,adK,not_or];exact ⟨fun h=>e h.symm,ih hk.2⟩
section
variable {P:Program} {g:G} {s:S} {a:Act} {w:World} {H:FH} {γ:Gam} {F:Nm->Fp}
theorem jj (h:RX g s a w H γ F) (n:Nm):RX g (s.fresh n) a w H γ F:=by
 unfold S.fresh;split
 ·exact h
 ·exact nP h n
theorem iy (h:RX g s a w H γ F) (n:Nm):ae (s.fresh n).m n=none:=by
 unfold S.fresh;split
 ·assumption
 ·show ae (aL (bR n) (bv s.m n)) n=none
  rw [nH];have:ae (bv s.m n) n=none:=qv.2 (jU h.mem.keys)
  rw [this]; rfl
theorem mh {t:TypeId} {zs:List Value} (h:zcells P t=some zs):∃ it z,P.info? t=some it/\it.zero=some z/\z.cells.toList=zs/\zs.all okT=true:=by
 unfold zcells at h;cases hi:P.info? t with
 | none=>rw [hi] at h; simp at h
 | some it=>
  rw [hi] at h;dsimp only at h;cases hz:it.zero with
  | none=>rw [hz] at h; simp at h
  | some z=>
   rw [hz] at h;dsimp only at h;split at h
   ·rename_i hc;simp only [ac8] at h;exact ⟨it,z,rfl,hz,h,by rw [<- h]; simpa using hc⟩
   ·simp at h
theorem SF {t:TypeId} {it:TypeInfo} {z:Value} (hi:P.info? t=some it) (hz:it.zero=some z) :
  (Instr.alloc t true (.tuple #[])).run P w=.ok (.pointer (some ⟨w.heap.size,0,none⟩)) (w.alloc (.cells z.cells t)):=by
 simp [Instr.alloc,zeroValue,typeInfo,hi,hz,newVar,newRow]
theorem WY {t:TypeId} {v:Value}:(Instr.box t v).run P w=.ok (.pointer (some ⟨w.heap.size,0,none⟩)) (w.alloc (.cells v.cells t)):=by
 simp [Instr.box,newVar,newRow]
theorem TN (h:RX g s a w H γ F) {n:Nm} (hno:n.isOut=false) {ts:List T} {cs:Array Value} (hl:cs.size=ts.length) (hts:Ts (TR w H γ (s.fresh n).m) ts (fun _=>0) cs.toList) (ty:TypeId) (hty:∀ t,n.tyd=some t->ty=t) {d:Option Tmp} (hd:okD g.nt d=true) (hne:ts≠[]) :
  ∃ γ' F',RX g (((s.fresh n).root n ⟨true,ts⟩).put d (.one (.c (.pl ⟨n,0,[]⟩)))) (a.put d (.pointer (some ⟨w.heap.size,0,none⟩))) (w.alloc (.cells cs ty)) H γ' F':=by
 obtain ⟨γ',F',h1,h2⟩:=TX (jj h n) hno (iy h n) hl hts ty hty;refine ⟨γ',F',RX.put h1 hd ⟨fun _=>rfl,?_,⟨w.heap.size,0,none⟩,?_,rfl⟩⟩
 ·rw [ap];refine ⟨⟨true,ts⟩,by simp [ae],?_⟩;show 0<ts.length
  cases ts with
  | nil=>exact absurd rfl hne
  | cons _ _=>simp
 ·show (match γ' n with | .blk b=>some (⟨b,0,none⟩:Addr) | .gh _=>none)=_
  rw [h2]
def nz (t:Nat) (d:Nat):Nm:=if t=127 then .loc (127*1000000+d) else .loc d
theorem Wb {t:Nat} {d:Nat}:(nz t d).isOut=false:=by unfold nz; split <;> rfl
theorem W5 {t:Nat} {d:Nat} (hd:d < 1000000):∀ u,(nz t d).tyd=some u->t=u:=by
 intro u h;unfold nz at h;split at h
 ·rename_i e;subst e;simp only [Nm.tyd] at h;rw [if_neg (by omega)] at h;have e:(127*1000000+d) / 1000000=127:=by omega
  rw [e] at h;exact Option.some.inj h
 ·simp only [Nm.tyd] at h;rw [if_pos hd] at h;cases h
def wM (P:Program) (s:S) (t:TypeId) (d:Tmp) (k:S->Prop):Prop:=
 match zcells P t with
 | some zs=>zs≠[]/\d < 1000000/\k (((s.fresh (nz t d)).root (nz t d) ⟨true,zs.map ro⟩).put (some d) (.one (.c (.pl ⟨nz t d,0,[]⟩))))
 | none=>False
theorem Eg (h:RX g s a w H γ F) {t:TypeId} {d:Tmp} {k:S->Prop} (hd:okD g.nt (some d)=true) (hK:wM P s t d k) :
  ∃ s' y w' γ' F',(Instr.alloc t true (.tuple #[])).run P w=.ok y w'/\k s'/\RX g s' (a.put (some d) y) w' H γ' F':=by
 unfold wM at hK;cases hz:zcells P t with
 | none=>rw [hz] at hK; exact hK.elim
 | some zs=>
  rw [hz] at hK;obtain ⟨hne,hd6,hK⟩:=hK;obtain ⟨it,z,h1,h2,h3,h4⟩:=mh hz;obtain ⟨γ',F',hX⟩:=TN h (n:=nz t d) Wb (ts:=zs.map ro) (cs:=z.cells) (by rw [adE,<- h3]; simp) (by rw [h3]; exact BH h4) t (W5 hd6) hd (by simpa using hne);exact ⟨_,_,_,γ',F',SF h1 h2,hK,hX⟩
def Ra (s:S) (x:Operand) (d:Tmp) (k:S->Prop):Prop:=
 match fi (ev (s.fresh (.loc d)) x) with
 | some ts=>ts≠[]/\ts.all T.sure=true/\d < 1000000/\k (((s.fresh (.loc d)).root (.loc d) ⟨true,ts⟩).put (some d) (.one (.c (.pl ⟨.loc d,0,[]⟩))))
 | none=>False
theorem Xo (h:RX g s a w H γ F) {t:TypeId} {x:Operand} {d:Tmp} {k:S->Prop} (hd:okD g.nt (some d)=true) (hx:bh x=true) (hK:Ra s x d k) :
  ∃ s' y w' H' γ' F',(Instr.box t (a.eval x)).run P w=.ok y w'/\k s'/\RX g s' (a.put (some d) y) w' H' γ' F':=by
 unfold Ra at hK;have h':=jj h (.loc d)
 have hv:=br h' hx
 cases hz:fi (ev (s.fresh (.loc d)) x) with
 | none=>rw [hz] at hK; exact hK.elim
 | some ts=>
  rw [hz] at hK;obtain ⟨hne,hs,hd6,hK⟩:=hK;obtain ⟨c1,c2⟩:=AB h'.mem hv hz hs;obtain ⟨γ',F',hX⟩:=TN h (n:=.loc d) rfl (ts:=ts) (cs:=(a.eval x).cells) c1 c2 t (fun u hu=>by simp only [Nm.tyd] at hu; rw [if_pos hd6] at hu; cases hu) hd hne;exact ⟨_,_,_,H,γ',F',WY,hK,hX⟩
theorem QM {m:Mm} (hm:Mem w H γ m F) {t:TypeId} {parts:List (Nat×AV)} {vs:Array (Nat×Value)} {k:AV->Prop} (h:sC P t parts k) (hp:PR w H γ m parts vs.toList) :
  ∃ z d,(∀ w:World,(Instr.build t vs).run P w=.ok z w)/\AR w H γ m d z/\k d:=by
 unfold sC at h;cases hz:zst P t with
 | none=>rw [hz] at h; exact h.elim
 | some q=>
  obtain ⟨zs,places⟩:=q;rw [hz] at h;dsimp only at h;cases hf:jr (places[·]?) (zs.map ro) parts with
  | none=>rw [hf] at h; exact h.elim
  | some ts=>
   rw [hf] at h;unfold zst at hz;cases hi:P.info? t with
   | none=>rw [hi] at hz; simp at hz
   | some it=>
    rw [hi] at hz;cases hu:P.underlying t with
    | none=>rw [hu] at hz; simp at hz
    | some td=>
     rw [hu] at hz;cases td with
     | struct fields=>
      dsimp only at hz;cases hzz:it.zero with
      | none=>rw [hzz] at hz; simp at hz
      | some z=>
       cases hpl:fields.toList.mapM (fun f=>(P.info? f.type).map fun i=>(f.offset,i.size)) with
       | none=>rw [hzz,hpl] at hz; simp at hz
       | some pl=>
        rw [hzz,hpl] at hz;dsimp only at hz;split at hz
        ·rename_i hall;simp only [ac8,Prod.mk.injEq] at hz;obtain ⟨rfl,rfl⟩:=hz;have hall':z.cells.toList.all okT=true:=by simpa using hall
         obtain ⟨us',e1,e2,e3⟩:=zd hm parts vs.toList (z.cells.toList.map ro) z.cells ts hp (by simp) (BH hall') hf;refine ⟨.agg us',.one (.agg ts),fun w=>run_build w t vs us' ?_,⟨us',rfl,e2,e3⟩,h⟩;unfold Program.built;rw [hi,hu];dsimp only;rw [hzz,hpl];dsimp only;simpa using e1
        ·simp at hz
     | array N e=>
      dsimp only at hz;cases hzz:it.zero with
      | none=>rw [hzz] at hz; simp at hz
      | some z=>
       cases hie:P.info? e with
       | none=>rw [hzz,hie] at hz; simp at hz
       | some ie=>
        rw [hzz,hie] at hz;dsimp only at hz;split at hz
        ·rename_i hall;simp only [ac8,Prod.mk.injEq] at hz;obtain ⟨rfl,rfl⟩:=hz;have hall':z.cells.toList.all okT=true:=by simpa using hall
         obtain ⟨us',e1,e2,e3⟩:=zd hm parts vs.toList (z.cells.toList.map ro) z.cells ts hp (by simp) (BH hall') hf;refine ⟨.agg us',.one (.agg ts),fun w=>run_build w t vs us' ?_,⟨us',rfl,e2,e3⟩,h⟩;unfold Program.built;rw [hi,hu];dsimp only;rw [hzz,hie];dsimp only;refine E5 (fun i q hq=>?_) e1;rw [adG,aeG] at hq;obtain ⟨j,hj,rfl⟩:=hq;obtain ⟨_,e⟩:=aeV.1 hj;rw [List.getElem_range] at e;rw [e]
        ·simp at hz
     | _=>simp at hz
theorem oA {t e:TypeId} {len:Nat} {vs:Array (Nat×Value)} {cells:Array Value} {ie:TypeInfo} {z:Value}
  (hu:P.underlying t=some (.slice e)) (hie:P.info? e=some ie) (hz:ie.zero=some z) (hsmall:¬ len*ie.size > 2 ^ 24)
  (h:∀ us:Array Value,us.size=len*ie.size->∃ cs,Instr.fill (fun i=>some (i*ie.size,ie.size)) us vs.toList=some cs/\cs.size=len*ie.size/\(cells=cs\/True)) :
  ∃ us cs,us.size=len*ie.size/\Instr.fill (fun i=>some (i*ie.size,ie.size)) us vs.toList=some cs /\
  (Instr.buildSlice t len vs).run P w=.ok (.slice (some ⟨w.heap.size,0,none⟩) len len) (w.alloc (.cells cs e)):=by
 by_cases hpos:len*ie.size=0
 ·obtain ⟨cs,h1,h2,_⟩:=h ((Array.range (len*ie.size)).map ((#[]:Array Value)[· % (#[]:Array Value).size]!)) (by simp);refine ⟨_,cs,by simp,h1,?_⟩;simp [Instr.buildSlice,run_underlying hu,sizeOf,typeInfo,zeroValue,hie,hz,hsmall,hpos,newRow] at h1 ⊢;simp [h1]
 ·obtain ⟨cs,h1,h2,_⟩:=h ((Array.range (len*ie.size)).map (z.cells[· % z.cells.size]!)) (by simp);refine ⟨_,cs,by simp,h1,?_⟩;simp [Instr.buildSlice,run_underlying hu,sizeOf,typeInfo,zeroValue,hie,hz,hsmall,hpos,newRow,h1]
theorem Zc {k:Nat} {m:Mm}:∀ {ts:List T} {f:Fp} {vs:List Value},(∀ b,f b=0)->Ts (TR w H γ m) ts f vs ->
  Cs (OD w H k) (List.replicate ts.length .fr) (ts.map T.fz) f vs
 | [],_,_,hf,_=>hf
 | t::ts,f,vs,hf,h=>by
  obtain ⟨v,r,f1,f2,h1,h2,h3,h4⟩:=h;refine ⟨v,r,f1,f2,h1,h2,?_,Zc (fun b=>by have:=hf b; have:=h2 b; omega) h4⟩;rw [oy];refine ⟨fun b=>by have:=hf b; have:=h2 b; omega,?_⟩;cases t with
  | d x=>exact h3.2
  | nil=>obtain ⟨_,rfl⟩:=h3; exact qQ
  | _=>exact ⟨0,trivial⟩
def kH (s:S) (ps:Array (Nat×Operand)):List (Nat×AV):=ps.toList.map fun x=>(x.1,ev s x.2)
theorem vz {m:Mm} {s:S} (h:RX g s a w H γ F):∀ {ps:List (Nat×Operand)},(ps.all fun x=>bh x.2)=true ->
  PR w H γ s.m (ps.map fun x=>(x.1,ev s x.2)) (ps.map fun x=>(x.1,a.eval x.2))
 | [],_=>trivial
 | x::ps,hp=>by
  simp only [adQ,ac9] at hp;exact ⟨rfl,br h hp.1,vz (m:=m) h hp.2⟩
def gp (P:Program) (s0:S) (t:TypeId) (len:Nat) (ps:Array (Nat×Operand)) (d:Tmp) (k:S->Prop):Prop:=
 match (ty P t).k with
 | .sl e=>(ty P e).ok=true/\(zcells P e).isSome=true/\len*(ty P e).size<=16777216/\len<=16777216 /\
  let s:=(jt s0 (ps.toList.map fun x=>ev s0 x.2)).fresh (.gh d)
  match jr (fun i=>some (i*(ty P e).size,(ty P e).size)) (List.replicate (len*(ty P e).size) .any) (kH s ps) with
  | some ts=>k ((s.root (.gh d) ⟨false,[.ow (List.replicate (ty P e).size .fr) (chunk (ty P e).size len (ts.map T.fz))]⟩).put (some d) (.one (.c (.rf ⟨.gh d,0,[]⟩))))
  | none=>False
 | _=>False
theorem m9:∀ {parts:List (Nat×AV)} {pl:Nat->Option (Nat×Nat)} {ts ts':List T},jr pl ts parts=some ts'->ts'.length=ts.length
 | [],pl,ts,ts',h=>by simp only [jr,ac8] at h; rw [h]
 | (i,x)::r,pl,ts,ts',h=>by
  simp only [jr] at h;cases hp:pl i with
  | none=>rw [hp] at h; simp at h
  | some q=>
   obtain ⟨off,size⟩:=q;rw [hp] at h;cases hc:fi x with
   | none=>rw [hc] at h; simp at h
   | some cs=>
    rw [hc] at h;dsimp only at h;split at h
    ·rename_i hcond;rw [m9 h,w8 hcond.2.1]
    ·simp at h
theorem No {m:Mm}:∀ {vs:List Value},Ts (TR w H γ m) (List.replicate vs.length .any) (fun _=>0) vs
 | []=>fun _=>rfl
 | v::vs=>⟨v,vs,fun _=>0,fun _=>0,rfl,fun _=>rfl,fun _=>rfl,No⟩
theorem JE (n size:Nat):(List.replicate n (List.replicate size Sh.fr)).flatten=List.replicate (n*size) Sh.fr:=by
 induction n with
 | zero=>simp
 | succ n ih=>rw [agI,af5,ih,agS]; congr 1; rw [ae5]; omega
theorem Rg (h:RX g s a w H γ F) {n:Nm} (hno:n.isOut=false) (hn:ae s.m n=none) {cs:Array Value} {ty':TypeId} {len cap size:Nat} {l:List (List D)} (hl:l.length=len) (hle:len<=cap) (hbig:len<=BIG)
  (hx:∀ x∈l,x.length=size) (hsz:cs.size=cap*size) (hcs:∀ k,Cs (OD w H k) (List.replicate (len*size) Sh.fr) l.flatten (fun _=>0) cs.toList) :
  ∃ γ' F',RX g (s.root n ⟨false,[.ow (List.replicate size .fr) l]⟩) a (w.alloc (.cells cs ty')) H γ' F'/\γ' n=.gh (.slice (some ⟨w.heap.size,0,none⟩) len cap):=by
 obtain ⟨hm,hf,hK,hH⟩:=xd h.mem cs ty' false;simp only [adB,false_and,if_false] at hm hf hK hH;have hX:RX g s a (w.alloc (.cells cs ty')) H γ F:=iM h hm hf (fun i=>dv hK (fun _ _ _ h=>h) (h.t i)) (fun _=>rfl)
 have hz:tot F s.m w.heap.size=0:=by
  rcases aeL (tot F s.m w.heap.size) with h' | h'
  ·exact h'
  ·have:=h.mem.lt w.heap.size (by omega); omega
 have hHz:∀ o,H w.heap.size o=none:=by
  intro o;cases hc:H w.heap.size o with
  | none=>rfl
  | some y=>have:=World.block_lt_of_cell? _ _ (h.mem.agree _ _ _ hc); simp at this
 have hcs':∀ k,Cs (OD (w.alloc (.cells cs ty')) H k) (List.replicate len (List.replicate size Sh.fr)).flatten l.flatten (fun _=>0) cs.toList:=by
  intro k;rw [JE];refine nI _ _ _ _ (fun s x g v hg hod=>?_) (hcs k);exact fx (fun _ _ _ h=>h) k k _ _ _ _ (adH _) (fun b hb=>absurd (Nat.le_zero.1 (hg b)) hb) hod
 subst hl;have hod:TR (w.alloc (.cells cs ty')) H γ s.m (.ow (List.replicate size .fr) l) (fun b=>0+if b=w.heap.size then 1 else 0) (.slice (some ⟨w.heap.size,0,none⟩) l.length cap):=
  ⟨1,G3 (eQ) rfl (by rw [agT]; exact hsz) hle hbig (by rw [agT]; exact hx) (hcs' 0)⟩
 exact lZ hX hno hn hod (fun b=>by
   by_cases hb:b=w.heap.size
   ·subst hb; rw [hz]; simp
   ·rw [if_neg hb]; have:=h.mem.le1 b; omega)
  (fun b hb=>by
   have hb':b=w.heap.size:=by
    by_cases hb':b=w.heap.size
    ·exact hb'
    ·rw [if_neg hb'] at hb; simp at hb
   subst hb';exact ⟨by simp,hHz⟩)
  (fun b hb=>by
   have hb':b=w.heap.size:=by
    by_cases hb':b=w.heap.size
    ·exact hb'
    ·rw [if_neg hb'] at hb; simp at hb
   right; have:=h.fr.size; omega)
theorem tY {m:Mm} {n:Nm} {sub:List Sh} {l:List (List D)} {v:Value} (hn:ae m n=some ⟨false,[.ow sub l]⟩) (hg:γ n=.gh v):AR w H γ m (.one (.c (.rf ⟨n,0,[]⟩))) v:=by
 refine ⟨fun _=>rfl,?_,?_⟩
 ·rw [cW]; exact ⟨_,hn,trivial⟩
 ·show aD w (γ n) 0=some v
  rw [hg]; rfl
theorem zx (h:RX g s a w H γ F) {t:TypeId} {len:Nat} {ps:Array (Nat×Operand)} {d:Tmp} {k:S->Prop} (hd:okD g.nt (some d)=true) (hp:(ps.toList.all fun x=>bh x.2)=true) (hK:gp P s t len ps d k) :
  ∃ s' y w' H' γ' F',(Instr.buildSlice t len (ps.map fun (i,x)=>(i,a.eval x))).run P w=.ok y w'/\k s'/\RX g s' (a.put (some d) y) w' H' γ' F':=by
 unfold gp at hK;cases hk:(ty P t).k with
 | sl e=>
  rw [hk] at hK;obtain ⟨hok,hzc,hsmall,hlb,hK⟩:=hK;obtain ⟨_,td,hit,hud,htk,_⟩:=dt hk (by simp);have:=tP htk
  subst this;obtain ⟨ie,de,hie,_⟩:=ij hok;have hsize:(ty P e).size=ie.size:=by
   obtain ⟨ie',_,hie',_,_,hs,_⟩:=ij hok;rw [hie] at hie';obtain rfl:ie=ie':=by simpa using hie'
   exact hs
  obtain ⟨zs,hzs⟩:=agL.1 hzc;obtain ⟨it',z,hi',hz,_⟩:=mh hzs;rw [hie] at hi';obtain rfl:ie=it':=by simpa using hi'
  obtain ⟨H1,F1,h1⟩:=ky (ps.toList.map fun x=>ev s x.2) s H F h;have h2:=jj h1 (.gh d)
  have hn:=iy h1 (.gh d)
  dsimp only at hK;generalize (jt s (ps.toList.map fun x=>ev s x.2)).fresh (.gh d)=s2 at hK h2 hn;cases hf:jr (fun i=>some (i*(ty P e).size,(ty P e).size)) (List.replicate (len*(ty P e).size) .any) (kH s2 ps) with
  | none=>rw [hf] at hK; exact hK.elim
  | some ts=>
   rw [hf] at hK;dsimp only at hK;rw [hsize] at hf hK hsmall;have hpr:PR w H1 γ s2.m (kH s2 ps) (ps.map fun (i,x)=>(i,a.eval x)).toList:=by
    rw [Array.toList_map];exact vz (m:=s2.m) h2 hp
   have hfill:∀ us:Array Value,us.size=len*ie.size->∃ cs,Instr.fill (fun i=>some (i*ie.size,ie.size)) us (ps.map fun (i,x)=>(i,a.eval x)).toList=some cs/\cs.size=ts.length/\Ts (TR w H1 γ s2.m) ts (fun _=>0) cs.toList:=by
    intro us hus;refine zd h2.mem _ _ _ us ts hpr (by simpa using hus) ?_ hf;have:=No (w:=w) (H:=H1) (γ:=γ) (m:=s2.m) (vs:=us.toList)
    rw [show us.toList.length=len*ie.size from by simpa using hus] at this;exact this
   have hlen:ts.length=len*ie.size:=by rw [m9 hf]; simp
   obtain ⟨us,cs,u1,u2,u3⟩:=oA (P:=P) (w:=w) (t:=t) (e:=e) (len:=len) (vs:=ps.map fun (i,x)=>(i,a.eval x)) (cells:=#[]) hud hie hz (by omega) (fun us hus=>by
    obtain ⟨cs,c1,c2,_⟩:=hfill us hus;exact ⟨cs,c1,by rw [c2,hlen],.inr trivial⟩)
   obtain ⟨cs',c1,c2,c3⟩:=hfill us u1;rw [u2] at c1;obtain rfl:cs=cs':=by simpa using c1
   have hmap:(ts.map T.fz).length=len*ie.size:=by rw [adE,hlen]
   obtain ⟨γ',F',hX,hγ⟩:=Rg h2 (n:=.gh d) rfl hn (cs:=cs) (ty':=e) (len:=len) (cap:=len) (size:=ie.size) (l:=chunk ie.size len (ts.map T.fz)) nC (adH _) (by
     show len<=2 ^ 62
     omega) (wO hmap) (by rw [c2,hlen]) (fun k=>by
      rw [sD hmap];have:=Zc (k:=k) (fun _=>rfl) c3
      rw [hlen] at this; exact this)
   refine ⟨_,_,_,H1,γ',F',u3,hK,RX.put hX hd (tY (sub:=List.replicate ie.size .fr) (l:=chunk ie.size len (ts.map T.fz)) ?_ hγ)⟩;simp [S.root,ae]
 | _=>rw [hk] at hK; exact hK.elim
end
end Go.Am
end

section
namespace Go.Am
def D.sure:D->Bool
 | .any=>false
 | _=>true
def Sh.isFr:Sh->Bool
 | .fr=>true
 | _=>false
def TK.isSS:TK->Bool
 | .sl _=>true
 | .str=>true
 | _=>false
def KG (s:S) (q:Pl):S:=⟨jq (thr q) s.t,aL (thr q) (bi s.m q .any)⟩
theorem RT {F:Nm->Fp} {m:Mm} {p:Pl} {t:T} {b:Nat}:tot F (bi m p t) b=tot F m b:=by
 unfold bi;cases ae m p.root with
 | none=>rfl
 | some r=>dsimp only; rw [eO]
theorem vH {w w':World} {H H':FH} (hH:∀ b o y,H b o=some y->H' b o=some y) {k k':Nat} (hk:k<=k') {ss:List Sh} {xs:List D} {f:Fp} {vs:List Value}
  (hw:∀ b,f b≠0->w'.heap[b]? = w.heap[b]?) (h:Cs (OD w H k) ss xs f vs):Cs (OD w' H' k') ss xs f vs:=
 nI _ _ _ _ (fun _ _ _ _ hg hod=>fx hH k k' _ _ _ _ hk (fun b hb=>hw b (by have:=hg b; omega)) hod) h
section
variable {P:Program} {g:G} {s:S} {a:Act} {w:World} {H:FH} {γ:Gam} {F:Nm->Fp}
theorem Kh (h:RX g s a w H γ F) {q:Pl} (hok:bU s.m q) {sub:List Sh} {l:List (List D)} (hg:be s.m q=some (.ow sub l)) :
  ∃ v f F',plV w γ q=some v/\(∃ k,OD w H k (.ow sub) (.li l) f v)/\RX g (KG s q) a w H γ F'/\∀ b,tot F' (KG s q).m b+f b=tot F s.m b:=by
 obtain ⟨f,v,t1,t2,t3,t4,t5⟩:=Kg h.mem hok hg;have hm:=t5 H (fun _ _ _ h=>h) h.mem.agree (fun b hb o=>h.mem.nofz b (by have:=t4 b; omega) o)
 have htot:∀ b,tot (fun n b=>F n b-if n=q.root then f b else 0) (KG s q).m b+f b=tot F s.m b:=by
  intro b;show tot _ (aL _ _) b+f b=_
  rw [bH,RT]; exact t4 b
 refine ⟨v,f,_,t1,t2,⟨hm,⟨h.fr.size,h.fr.os,h.fr.tape,h.fr.output,h.fr.block,h.fr.hold,h.fr.hnew,fun b hb=>h.fr.tt b ?_⟩,h.nt,h.df,fun i=>?_⟩,htot⟩
 ·have:=htot b; omega
 ·show AR w H γ _ (aK (jq _ s.t) i) _
  rw [j7];exact qS (pf h.mem hok) (fun _ _ _ h=>h) (h.t i)
theorem JB (h:RX g s a w H γ F) {w':World} (hsz:w.heap.size<=w'.heap.size) (hos:w'.os=w.os) (htp:w'.tape=w.tape) (hou:w'.output=w.output)
  (hb:∀ b,b<w.heap.size->w'.heap[b]? = w.heap[b]? \/ (tot F s.m b=0/\(∀ o,H b o=none)/\(g.own0 b≠0\/g.w0.heap.size<=b))):RX g s a w' H γ F:=by
 have hsame:∀ b,tot F s.m b≠0->w'.heap[b]? = w.heap[b]? := fun b hb'=>by
  rcases hb b (h.mem.lt b hb') with h1 | h1
  ·exact h1
  ·exact absurd h1.1 hb'
 have hK:=dn (w':=w') h.mem hsame
 have hin:∀ x∈s.m,∀ b,F x.1 b≠0->w'.heap[b]? = w.heap[b]? := fun x hx b hb=>hsame b (by have:=bX (F:=F) hx b; omega)
 refine ⟨⟨?_,fun x hx=>aX hK (fun _ _ _ h=>h) rfl (hin x hx) (h.mem.roots x hx),h.mem.keys,h.mem.le1,fun b hb=>by have:=h.mem.lt b hb; omega,h.mem.nofz⟩,
  ⟨ae8 h.fr.size hsz,hos.trans h.fr.os,htp.trans h.fr.tape,hou.trans h.fr.output,fun k hk h0=>?_,h.fr.hold,h.fr.hnew,h.fr.tt⟩,h.nt,h.df,fun i=>dv hK (fun _ _ _ h=>h) (h.t i)⟩
 ·intro b o y hy;have hc:=h.mem.agree b o y hy
  rcases hb b (World.block_lt_of_cell? _ _ hc) with h1 | h1
  ·rw [bJ h1]; exact hc
  ·rw [h1.2.1 o] at hy; simp at hy
 ·rcases hb k (by have:=h.fr.size; omega) with h1 | h1
  ·rw [h1]; exact h.fr.block k hk h0
  ·rcases h1.2.2 with h2 | h2
   ·exact absurd h0 h2
   ·omega
theorem zJ {t u tt e:TypeId} {dd:TypeDesc} {i:TypeInfo} {z:Value} (ht:P.underlying t=some (.slice e)) (hu:P.underlying u=some dd) (hdd:isSS dd=true) (hi:P.info? e=some i) (hz:i.zero=some z) (hzs:z.cells.size=i.size)
  {k kx:Nat} {sub:List Sh} {l ys:List (List D)} {f gx:Fp} {v x:Value} {ws:List Value} (hsub:sub.length=i.size)
  (hod:OD w H k (.ow sub) (.li l) f v) (hx:Src P w i.size x ys.length ws) (hys:∀ y∈ys,y.length=sub.length) (hcx:Cs (OD w H kx) (List.replicate ys.length sub).flatten ys.flatten gx ws) (hone:∀ u∈ws,oH u=true)
  (hd:∀ b,f b+gx b<=1) (hlt:∀ b,f b≠0\/gx b≠0->b<w.heap.size) (h62:l.length+ys.length<=4611686018427387904) (hby:(l.length+ys.length)*i.bytes<=140737488355328) :
  ∃ y w' f',(Builtin.append_ #[t,u] tt #[v,x]).run P w=.ok y w'/\(∃ k',OD w' H k' (.ow sub) (.li (l++ys)) f' y)/\w.heap.size<=w'.heap.size/\w'.os=w.os/\w'.tape=w.tape/\w'.output=w.output /\
   (∀ b,b<w.heap.size->w'.heap[b]? = w.heap[b]? \/ f b≠0)/\(∀ b,f' b<=f b+gx b+if b=w.heap.size then 1 else 0)/\(∀ b,f' b≠0->b<w'.heap.size):=by
 cases k with
 | zero=>simp [OD] at hod
 | succ k=>
  obtain ⟨ad,c,gg,vs,rfl,hlc,hlb,hlen,hvs,hcs,hwhere⟩:=mE hod;have hlen':∀ y∈l++ys,y.length=sub.length:=yq hlen hys
  have hws:ws.length=ys.length*sub.length:=by rw [hx.size,hsub]
  by_cases hroom:l.length+ys.length<=c
  ·rcases hwhere with ⟨rfl,rfl,rfl,hf0⟩ | ⟨b,cs,ty,fz,rfl,hb,hfz,hcsz,rfl,hf⟩
   ·have hys0:ys=[]:=by
     cases ys with
     | nil=>rfl
     | cons _ _=>simp at hroom
    subst hys0;have hw0:ws=[]:=by simpa using hws
    subst hw0;refine ⟨_,w,fun _=>0,JA ht hu hdd hi (a:=none) (n:=0) (c:=0) (m:=0) hx (adH _) (.inl rfl),⟨1,?_⟩,adH _,rfl,rfl,rfl,fun _ _=>.inl rfl,fun b=>aeR _,fun b hb=>absurd rfl hb⟩;rw [iV];exact .inl ⟨rfl,rfl,fun _=>rfl⟩
   ·have hfz':fz=(0,0):=hfz
    subst hfz';have hgb:gg b=0:=by have h1:=hd b; have h2:=hf b; rw [if_pos rfl] at h2; omega
    have hgxb:gx b=0:=by have h1:=hd b; have h2:=hf b; rw [if_pos rfl] at h2; omega
    have hfit:l.length*i.size+ws.length<=cs.size:=by
     rw [hws,hcsz,<- hsub,<- ae5]; exact ae2 _ hroom
    have hrun:=Su (tt:=tt) ht hu hdd hi hb hx (fun u hu=>hone u hu) hroom hfit
    refine ⟨_,_,fun d=>(gg d+gx d)+if d=b then 1 else 0,hrun,⟨k+kx+1,?_⟩,by simp [World.setRow],rfl,rfl,rfl,fun j hj=>?_,fun j=>?_,fun j hj=>?_⟩
    ·have hnew:=setRow_heap w b cs (cs.toList.take (l.length*i.size)++ws++cs.toList.drop (l.length*i.size+ws.length)).toArray ty (0,0) hb
     rw [show l.length+ys.length=(l++ys).length from by simp];refine G3 hnew rfl ?_ (by simpa using hroom) (by show (l++ys).length<=2 ^ 62; simpa using h62) hlen' ?_
     ·have:(cs.toList.take (l.length*i.size)).length=l.length*i.size:=by rw [aeF]; simp; omega
      simp only [ahA,adD,this,adT,Array.length_toList];rw [<- hcsz]; omega
     ·have h1:=vH (w':=w.setRow b (cs.toList.take (l.length*i.size)++ws++cs.toList.drop (l.length*i.size+ws.length)).toArray) (fun _ _ _ h=>h) (Nat.le_add_right k kx) (fun c hc=>setRow_other w b c _ (fun e=>hc (by rw [e]; exact hgb))) hcs
      have h2:=vH (w':=w.setRow b (cs.toList.take (l.length*i.size)++ws++cs.toList.drop (l.length*i.size+ws.length)).toArray) (fun _ _ _ h=>h) (Nat.le_add_left kx k) (fun c hc=>setRow_other w b c _ (fun e=>hc (by rw [e]; exact hgxb))) hcx
      rw [<- hsub] at h1 h2 ⊢;exact V3 hlen hvs h1 h2
    ·by_cases hjb:j=b
     ·right; subst hjb; rw [hf,if_pos rfl]; omega
     ·left; exact setRow_other w b j _ hjb
    ·have:=hf j; dsimp only; omega
    ·have:j<w.heap.size:=hlt j (by have:=hf j; dsimp only at hj; omega)
     simpa [World.setRow] using this
  ·have ho:Src P w i.size (.slice ad l.length c) l.length vs:=by
    rcases hwhere with ⟨rfl,rfl,rfl,_⟩ | ⟨b,cs,ty,fz,rfl,hb,hfz,hcsz,rfl,hf⟩
    ·have:vs=[]:=by simpa using hvs
     subst this;exact pQ
    ·refine vT (by rw [hvs,hsub]) (fun j u hj=>?_);have hjl:=aj hj
     rw [aeF] at hjl;rw [adY (by omega)] at hj;simp only [World.cell?,hb,afA,adB,if_false,afD];simpa using hj
   have hgr:=Jn (tt:=tt) ht hu hdd hi hz hx ho (by omega) (by omega) hby
   have hcap:l.length+ys.length<=grownCap w (l.length+ys.length) c e:=Am.Kb
   have hfle:∀ b,gg b<=f b:=by
    intro b;rcases hwhere with ⟨rfl,rfl,rfl,hf0⟩ | ⟨b',cs,ty,fz,rfl,hb,hfz,hcsz,rfl,hf⟩
    ·have hv0:vs=[]:=by simpa using hvs
     have:∀ b,gg b=0:=by simpa [Cs] using hcs
     rw [this b]; exact aeR _
    ·rw [hf]; omega
   have hno:∀ b,gg b≠0\/gx b≠0->b<w.heap.size:=fun b hb=>hlt b (by have:=hfle b; omega)
   generalize hcapv:grownCap w (l.length+ys.length) c e=cap at hgr hcap;have hnew:(w.drew.alloc (.cells ((vs++ws).toArray++Builtin.zeroCells z.cells (cap - (l.length+ys.length))) e)).heap[w.heap.size]? = some (.cells ((vs++ws).toArray++Builtin.zeroCells z.cells (cap - (l.length+ys.length))) e):=
    eQ (w:=w.drew)
   have hold:∀ b,b<w.heap.size->(w.drew.alloc (.cells ((vs++ws).toArray++Builtin.zeroCells z.cells (cap - (l.length+ys.length))) e)).heap[b]? = w.heap[b]? := fun b hb=>ov (w:=w.drew) hb
   refine ⟨_,_,fun d=>(gg d+gx d)+if d=w.heap.size then 1 else 0,hgr,⟨k+kx+1,?_⟩,by (show w.heap.size<=(w.heap.push _).size); simp,rfl,rfl,rfl,fun j hj=>.inl (hold j hj),fun j=>by have:=hfle j; dsimp only; omega,fun j hj=>?_⟩
   ·rw [show l.length+ys.length=(l++ys).length from by simp];rw [show l.length+ys.length=(l++ys).length from by simp] at hnew hold hcap;refine G3 hnew rfl ?_ hcap (by show (l++ys).length<=2 ^ 62; simpa using h62) hlen' ?_
    ·simp only [Array.size_append,ahA,adD,size_zeroCells,hvs,hws,hzs];rw [<- hsub,<- ae5,<- ae5];rw [adD] at hcap
     congr 1; omega
    ·have h1:=vH (w':=w.drew.alloc (.cells ((vs++ws).toArray++Builtin.zeroCells z.cells (cap - (l++ys).length)) e)) (fun _ _ _ h=>h) (Nat.le_add_right k kx) (fun c hc=>hold c (hno c (.inl hc))) hcs
     have h2:=vH (w':=w.drew.alloc (.cells ((vs++ws).toArray++Builtin.zeroCells z.cells (cap - (l++ys).length)) e)) (fun _ _ _ h=>h) (Nat.le_add_left kx k) (fun c hc=>hold c (hno c (.inr hc))) hcx
     rw [Array.toList_append];exact V3 hlen hvs h1 h2
   ·dsimp only at hj;by_cases hjb:j=w.heap.size
    ·subst hjb; show w.heap.size < (w.heap.push _).size; simp
    ·rw [if_neg hjb] at hj;have:=hno j (by omega)
     show j < (w.heap.push _).size
     simp; omega
end
end Go.Am
end

section
namespace Go.Am
def jF (size:Nat):AV->Option (List (List D))
 | .one (.c .nil)=>some []
 | .one (.c (.d (.li l)))=>some l
 | .one (.c (.d (.str b)))=>if size=1 then some (b.map fun c=>[.int .u8 c.toNat]) else none
 | _=>none
def FSx (size:Nat) (ys:List (List D)):Prop:=∀ y∈ys,y.length=size/\∀ x∈y,x.sure=true
def jc (s:S) (size:Nat):AV->Option (S×List Sh×List (List D))
 | .one (.c .nil)=>some (s,List.replicate size .fr,[])
 | .one (.c (.rf q))=>match be s.m q with
  | some (.ow sub l)=>if sub.length=size then some (KG s q,sub,l) else none
  | _=>none
 | _=>none
def qt (P:Program) (s00:S) (t u:TypeId) (x y:Operand) (d:Tmp) (k:S->Prop):Prop:=
 let s:=Lv s00 (ev s00 y)
 match (ty P t).k with
 | .sl e=>(ty P e).ok=true/\(ty P u).k.isSS=true/\((zcells P e).map (·.length))=some (ty P e).size /\
  match jF (ty P e).size (ev s y),jc s (ty P e).size (ev s x) with
  | some ys,some (s1,sub,l)=>sub.all Sh.isFr=true/\FSx (ty P e).size ys/\l.length+ys.length<=4611686018427387904/\(l.length+ys.length)*(ty P e).bytes<=140737488355328 /\
   k (((s1.fresh (.gh d)).root (.gh d) ⟨false,[.ow sub (l++ys)]⟩).put (some d) (.one (.c (.rf ⟨.gh d,0,[]⟩))))
  | _,_=>False
 | _=>False
theorem Vm {w:World} {H:FH} {k:Nat}:∀ {xs:List D} {vs:List Value},vs.length=xs.length->(∀ (j:Nat) (x:D),xs[j]? = some x->∃ v,vs[j]? = some v/\FDx H x v) ->
  Cs (OD w H k) (List.replicate xs.length .fr) xs (fun _=>0) vs
 | [],[],_,_=>fun _=>rfl
 | [],_::_,hl,_=>by simp at hl
 | _::_,[],hl,_=>by simp at hl
 | x::xs,v::vs,hl,h=>by
  refine ⟨v,vs,fun _=>0,fun _=>0,rfl,fun _=>rfl,?_,Vm (by simpa using hl) (fun j x hj=>h (j+1) x (by simpa using hj))⟩;rw [oy];obtain ⟨v',h1,h2⟩:=h 0 x rfl;obtain rfl:v=v':=by simpa using h1
  exact ⟨fun _=>rfl,h2⟩
theorem Qo {H:FH} {x:D} {y:Value} (hs:x.sure=true) (h:FDx H x y):oH y=true:=by
 obtain ⟨m,h⟩:=h;cases x with
 | int k n=>have:=h; cases m <;> (obtain ⟨rfl,_⟩:=this; rfl)
 | bool b=>cases m <;> (have:y=_:=h; subst this; rfl)
 | str l=>have:=h; cases m <;> (obtain ⟨rfl,_⟩:=this; rfl)
 | v z=>have:=h; cases m <;> (obtain ⟨rfl,h1⟩:=this; exact h1)
 | any=>simp [D.sure] at hs
 | li l=>
  cases m with
  | zero=>exact h.elim
  | succ m=>obtain ⟨a,c,rfl,_⟩:=pz.1 h; rfl
theorem NB (b:List UInt8):(b.map fun c=>[D.int .u8 (c.toNat:Int)]).flatten=b.map fun c=>D.int .u8 (c.toNat:Int):=by
 induction b with
 | nil=>rfl
 | cons c b ih=>simp [ih]
section
variable {P:Program} {g:G} {s:S} {a:Act} {w:World} {H:FH} {γ:Gam} {F:Nm->Fp}
theorem Y6 {sub:List Sh} (h:sub.all Sh.isFr=true):sub=List.replicate sub.length .fr:=by
 induction sub with
 | nil=>rfl
 | cons x sub ih=>
  simp only [adQ,ac9] at h;rw [adF,agI,<- ih h.2];cases x with
  | fr=>rfl
  | ow _=>simp [Sh.isFr] at h
theorem Z9 {m:Mm} (hm:Mem w H γ m F) {size:Nat} {x:AV} {v:Value} {ys:List (List D)} (hx:AR w H γ m x v) (hr:jF size x=some ys) (hok:FSx size ys) :
  ∃ ws,Src P w size v ys.length ws/\(∀ k,Cs (OD w H k) (List.replicate (ys.length*size) .fr) ys.flatten (fun _=>0) ws)/\∀ u∈ws,oH u=true:=by
 have hlen:∀ y∈ys,y.length=size:=fun y hy=>(hok y hy).1
 have hfl:=dc size ys hlen
 match x,hr with
 | .one (.c .nil),hr=>
  simp only [jF,ac8] at hr;subst hr;obtain ⟨_,rfl⟩:=hx;exact ⟨[],pQ,fun k=>by simp [Cs],by simp⟩
 | .one (.c (.d (.str b))),hr=>
  simp only [jF] at hr;by_cases hs:size=1
  ·subst hs;rw [if_pos rfl] at hr;obtain rfl:=Option.some.inj hr;obtain ⟨rfl,hb⟩:=zQ hx;have:=YR (P:=P) (w:=w) (l:=b)
   refine ⟨b.map fun b=>.int .u8 b.toNat,by rw [adE]; exact this,fun k=>?_,?_⟩
   ·rw [<- hfl];refine Vm (by rw [hfl]; simp) (fun j x hj=>?_);rw [NB,adG,aeG] at hj;obtain ⟨c,hc,rfl⟩:=hj;refine ⟨.int .u8 c.toNat,by rw [adG,hc]; rfl,0,rfl,?_⟩;have:=c.toNat_lt
    simp only [Lit.wf,ac9,decide_eq_true_eq];have h1:IntKind.u8.min=0:=rfl
    have h2:IntKind.u8.max=255:=rfl
    omega
   ·intro u hu;simp only [ad0] at hu;obtain ⟨c,_,rfl⟩:=hu; rfl
  ·rw [if_neg hs] at hr; simp at hr
 | .one (.c (.d (.li l))),hr=>
  simp only [jF,ac8] at hr;subst hr;obtain ⟨ad,c,rfl,_,_,hcase⟩:=gi hx.2;rcases hcase with rfl | ⟨b,o,e,k0,rfl,hel⟩
  ·exact ⟨[],pQ,fun k=>by simp [Cs],by simp⟩
  ·by_cases hl0:l.length=0
   ·have:l=[]:=by simpa using hl0
    subst this;exact ⟨[],pQ,fun k=>by simp [Cs],by simp⟩
   have he:e=size:=by
    have h0:=(hel 0 (by omega)).1
    have hg0:l.getD 0 []=l[0]:=by simp [List.getD,show 0<l.length by omega]
    rw [hg0,hlen _ (aeZ _)] at h0;exact h0.symm
   subst he;have hpt:∀ j,j<l.length*e->∃ v,w.cell? ⟨b,o+j,none⟩=some v/\∀ x,l.flatten[j]? = some x->FDx H x v:=by
    intro j hj;have he0:0<e:=Nat.pos_of_ne_zero (fun h=>by subst h; simp at hj)
    have hi:j / e<l.length:=by rw [Nat.div_lt_iff_lt_mul he0]; exact hj
    obtain ⟨y,h1,h2⟩:=(hel (j / e) hi).2 (j % e) (afO _ he0);have hje:j / e*e+j % e=j:=by rw [Nat.mul_comm]; exact Nat.div_add_mod j e
    refine ⟨y,?_,fun x hx=>?_⟩
    ·have:=hm.agree _ _ _ h1
     rw [af6,hje] at this; exact this
    ·rw [<- hje,dZ e l _ _ hlen hi (afO _ he0)] at hx;rw [List.getD,hx] at h2;exact ⟨k0,h2⟩
   obtain ⟨ws,w1,w2⟩:=lc (p:=fun j v=>w.cell? ⟨b,o+j,none⟩=some v/\∀ x,l.flatten[j]? = some x->FDx H x v) (l.length*e) hpt;refine ⟨ws,vT w1 (fun j v hj=>(w2 j v hj).1),fun k=>?_,fun u hu=>?_⟩
   ·rw [<- hfl];refine Vm (by rw [hfl,w1]) (fun j x hj=>?_);have hjl:j<ws.length:=by have:=aj hj; omega
    exact ⟨ws[j],adA hjl,(w2 j _ (adA hjl)).2 x hj⟩
   ·obtain ⟨j,hj,rfl⟩:=List.mem_iff_getElem.1 hu;have hjf:j<l.flatten.length:=by omega
    have h1:=(w2 j _ (adA hj)).2 _ (adA hjf)
    refine Qo ?_ h1;have hmem:l.flatten[j]∈l.flatten:=aeZ hjf
    rw [List.mem_flatten] at hmem;obtain ⟨y,hy,hxy⟩:=hmem;exact (hok y hy).2 _ hxy
theorem YV (h:RX g s a w H γ F) {size:Nat} {x:AV} {v:Value} {s1:S} {sub:List Sh} {l:List (List D)} (hx:AR w H γ s.m x v) (hb:jc s size x=some (s1,sub,l)) :
  ∃ k f F1,OD w H k (.ow sub) (.li l) f v/\RX g s1 a w H γ F1/\sub.length=size/\(∀ b,tot F1 s1.m b+f b<=1)/\(∀ b,f b≠0->b<w.heap.size/\(∀ o,H b o=none)/\(g.own0 b≠0\/g.w0.heap.size<=b)):=by
 match x,hb with
 | .one (.c .nil),hb=>
  simp only [jc,ac8,Prod.mk.injEq] at hb;obtain ⟨rfl,rfl,rfl⟩:=hb;obtain ⟨_,rfl⟩:=hx;refine ⟨1,fun _=>0,F,?_,h,by simp,fun b=>by have:=h.mem.le1 b; simpa using this,fun b hb=>absurd rfl hb⟩;rw [iV]; exact .inl ⟨rfl,rfl,fun _=>rfl⟩
 | .one (.c (.rf q)),hb=>
  simp only [jc] at hb;cases hg:be s.m q with
  | none=>rw [hg] at hb; simp at hb
  | some t=>
   rw [hg] at hb;cases t with
   | ow sub' l'=>
    dsimp only at hb;split at hb
    ·rename_i hsz;simp only [ac8,Prod.mk.injEq] at hb;obtain ⟨rfl,rfl,rfl⟩:=hb;obtain ⟨_,hok,hv⟩:=hx;obtain ⟨v',f,F',e1,⟨k,e2⟩,e3,e4⟩:=Kh h (iq hok) hg;rw [hv] at e1;obtain rfl:v=v':=by simpa using e1
     exact ⟨k,f,F',e2,e3,hsz,fun b=>by rw [e4]; exact h.mem.le1 b,fun b hb=>by
      have hne:tot F s.m b≠0:=by have:=e4 b; omega
      exact ⟨h.mem.lt b hne,h.mem.nofz b hne,h.fr.tt b hne⟩⟩
    ·simp at hb
   | _=>simp at hb
theorem NG (h:RX g s a w H γ F) {t u tt:TypeId} {x y:Operand} {d:Tmp} {k:S->Prop} (hd:okD g.nt (some d)=true) (hx:bh x=true) (hy:bh y=true) (hK:qt P s t u x y d k) :
  ∃ s' z w' H' γ' F',(Builtin.append_ #[t,u] tt #[a.eval x,a.eval y]).run P w=.ok z w'/\k s'/\RX g s' (a.put (some d) z) w' H' γ' F':=by
 unfold qt at hK;dsimp only at hK;obtain ⟨H1,F1,h1⟩:=FA h (ev s y);generalize Lv s (ev s y)=s1 at hK h1;cases hk:(ty P t).k with
 | sl e=>
  rw [hk] at hK;obtain ⟨hok,hss,hzl,hK⟩:=hK;obtain ⟨_,td,hit,hud,htk,_⟩:=dt hk (by simp);have:=tP htk
  subst this;obtain ⟨ie,de,hie,_,_,hsize,hbytes,_⟩:=ij hok;rw [hsize,hbytes] at hK;rw [hsize] at hzl;obtain ⟨zs,hzs,hzl⟩:=aeG.1 hzl;obtain ⟨it',z,hi',hz,hzc,_⟩:=mh hzs;rw [hie] at hi';obtain rfl:ie=it':=by simpa using hi'
  have hzsz:z.cells.size=ie.size:=by rw [<- hzl,<- hzc]; simp
  obtain ⟨ud,huu,hudd⟩:∃ ud,P.underlying u=some ud/\isSS ud=true:=by
   have hne:(ty P u).k≠.ot:=fun e=>by rw [e] at hss; simp [TK.isSS] at hss
   obtain ⟨_,ud,_,h2,h3,_⟩:=dt rfl hne;refine ⟨ud,h2,?_⟩;rw [<- h3] at hss;cases ud <;> first | rfl | (simp [pB,TK.isSS] at hss)
  cases hsr:jF ie.size (ev s1 y) with
  | none=>rw [hsr] at hK; exact hK.elim
  | some ys=>
   cases hbs:jc s1 ie.size (ev s1 x) with
   | none=>rw [hsr,hbs] at hK; exact hK.elim
   | some q=>
    obtain ⟨s2,sub,l⟩:=q;rw [hsr,hbs] at hK;obtain ⟨hfr,hrows,hb62,hby,hK⟩:=hK;obtain ⟨ws,r1,r2,r3⟩:=Z9 (P:=P) h1.mem (br h1 hy) hsr hrows;obtain ⟨kb,f,F2,b1,b2,b3,b4,b5⟩:=YV h1 (br h1 hx) hbs;have hsub:=Y6 hfr
    obtain ⟨z',w',f',c1,⟨k',c2⟩,c3,c4,c5,c6,c7,c8,c9⟩:=zJ (tt:=tt) hud huu hudd hie hz hzsz (gx:=fun _=>0) (kx:=0) b3 b1 r1 (fun y hy=>by rw [b3]; exact (hrows y hy).1)
     (by rw [hsub,JE,b3]; exact r2 0) r3 (fun b=>by have:=b4 b; omega) (fun b hb=>by rcases hb with hb | hb; exact (b5 b hb).1; exact absurd rfl hb) hb62 hby
    have hX:=JB b2 c3 c4 c5 c6 (fun b hb=>by
     rcases c7 b hb with h3 | h3
     ·exact .inl h3
     ·exact .inr ⟨by have:=b4 b; omega,(b5 b h3).2⟩)
    have hX2:=jj hX (.gh d)
    have hn:=iy hX (.gh d)
    have hHnew:∀ b,w.heap.size<=b->∀ o,H1 b o=none:=by
     intro b hb o;cases hc:H1 b o with
     | none=>rfl
     | some y=>have:=World.block_lt_of_cell? _ _ (h1.mem.agree _ _ _ hc); simp at this; omega
    have hts:∀ b,tot F2 (s2.fresh (.gh d)).m b<=tot F2 s2.m b:=by
     intro b;unfold S.fresh;split
     ·exact adH _
     ·show tot F2 (aL _ _) b<=_
      rw [bH]; exact kC
    have htz:tot F2 s2.m w.heap.size=0:=by
     rcases aeL (tot F2 s2.m w.heap.size) with h' | h'
     ·exact h'
     ·have:=b2.mem.lt w.heap.size (by omega); omega
    obtain ⟨γ',F',hX3,hγ⟩:=lZ hX2 (n:=.gh d) rfl hn (v:=z') (t:=.ow sub (l++ys)) (f:=f') ⟨k',c2⟩ (fun b=>by
      have h3:=hts b; have h4:=b4 b; have h5:=c8 b
      by_cases hb:b=w.heap.size
      ·subst hb;have:f w.heap.size=0:=by
        rcases aeL (f w.heap.size) with h' | h'
        ·exact h'
        ·have:=(b5 w.heap.size (by omega)).1; omega
       rw [if_pos rfl] at h5; omega
      ·rw [if_neg hb] at h5; omega)
     (fun b hb=>⟨c9 b hb,by
      have h5:=c8 b
      by_cases hb2:b=w.heap.size
      ·subst hb2; exact hHnew _ (adH _)
      ·rw [if_neg hb2] at h5; exact (b5 b (by omega)).2.1⟩)
     (fun b hb=>by
      have h5:=c8 b
      by_cases hb2:b=w.heap.size
      ·right; have:=b2.fr.size; omega
      ·rw [if_neg hb2] at h5; exact (b5 b (by omega)).2.2)
    refine ⟨_,z',w',H1,γ',F',c1,hK,RX.put hX3 hd (tY (sub:=sub) (l:=l++ys) ?_ hγ)⟩;simp [ae]
 | _=>rw [hk] at hK; exact hK.elim
end
end Go.Am
end
