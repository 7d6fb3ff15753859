/-
  Part 7: AmAppRun · AmFreeze · AmBox · AmAppend · AmAppendOp.
-/
import Derived.Test.YtgpedlcblhiklaaGreatDoorSo6
import Derived.Laws.Append
import Derived.Laws.CopyRow
import Derived.Laws.AppendOwn
set_option linter.unusedSimpArgs false
set_option linter.unusedVariables false
set_option linter.unusedSectionVars false
set_option linter.unnecessarySimpa false
section
namespace Go.Am
def isSS:TypeDesc->Bool
 |.slice _=>true
 |.string=>true
 |_=>false
variable{d:TypeDesc}
theorem nJ(h:isSS d=true):(∃e,d=.slice e)\/d=.string:=by
 cases d<;>simp[isSS]at h⊢
variable{e t tt u:TypeId}{i:TypeInfo}{ws:List Value}{x z:Value}
section
variable {P:Program} {w:World}
structure Src (P:Program) (w:World) (size:Nat) (x:Value) (n:Nat) (ws:List Value):Prop where
 len:∀w',(Builtin.lenOf x).run P w'=.ok n w'
 cells:∀w':World,w'.heap=w.heap->(Builtin.firstCells size n x).run P w'=.ok ws.toArray w'
 size:ws.length=n*size
theorem vg{size n c:Nat}{b o:Nat}(hl:ws.length=n*size)(h:U6 w b o ws):Src P w size (.slice (some ⟨b,o,none⟩) n c) n ws:=by
 refine⟨fun _=>rfl,fun w' hw=>?_,hl⟩;refine run_firstCells_some w' size n _ n c ws hl (fun j v hv=>?_);rw[dx];exact(dF (by rw[hw])).trans (h j v hv)
theorem oP{size c:Nat}{a:Option Addr}:Src P w size (.slice a 0 c) 0 []:=by
 refine⟨fun _=>rfl,fun w' _=>?_,by simp⟩;cases a with
 |none=>rfl
 |some a=>simp only[Builtin.firstCells,Nat.zero_mul];rfl
theorem XT{l:List UInt8}:Src P w 1 (.string ⟨l.toArray⟩) l.length (l.map fun b=>.int .u8 b.toNat):=by
 have hs:(⟨l.toArray⟩:ByteArray).size=l.length:=by rfl
 refine⟨fun w'=>?_,fun w' _=>?_,by simp⟩
 all_goals grind [Builtin.lenOf,Sem.run_pure,Builtin.firstCells,ByteArray.data_extract]
theorem GS(g:P.underlying t=some (.slice e))(f:P.underlying u=some d)(hd:isSS d=true)(hi:P.info? e=some i)
  {a:Option Addr} {n c m:Nat} (hx:Src P w i.size x m ws) (b:n+m<=c) (hw:ws=[]\/a=none) :
  (Builtin.append_ #[t,u] tt #[.slice a n c,x]).run P w=.ok (.slice a (n+m) c) w:=by
 have h1:=hx.len w
 have h2:=hx.cells w rfl
 cases a with
 |none=>
  rcases nJ hd with⟨e',rfl⟩|rfl
  all_goals simp[Builtin.append_,run_underlying g,run_underlying f,sizeOf,typeInfo,hi,h1,h2,b]
 |some a=>
  have:ws=[]:=by grind
  subst this;rcases nJ hd with⟨e',rfl⟩|rfl
  all_goals simp[Builtin.append_,run_underlying g,run_underlying f,sizeOf,typeInfo,hi,h1,h2,b,storeCells]
theorem Qn(h:P.underlying t=some (.slice e))(j:P.underlying u=some d)(hd:isSS d=true)(hi:P.info? e=some i)
  {g n c m:Nat} {cur:Array Value} {ty':TypeId} (k:w.heap[g]? = some (.cells cur ty' (0,0))) (hx:Src P w i.size x m ws) (h1':∀v∈ws,v.oneCell'=true) (a:n+m<=c) (f:n*i.size+ws.length<=cur.size) :
  (Builtin.append_ #[t,u] tt #[.slice (some ⟨g,0,none⟩) n c,x]).run P w =
   .ok (.slice (some ⟨g,0,none⟩) (n+m) c) (w.setRow g (cur.toList.take (n*i.size)++ws++cur.toList.drop (n*i.size+ws.length)).toArray):=by
 have h1:=hx.len w
 have h2:=hx.cells w rfl
 have b:=run_storeCells_at P g (n*i.size) ty' ws 0 cur w k kQ1 h1'
 simp only[Nat.add_zero]at b;rcases nJ hd with⟨e',rfl⟩|rfl
 all_goals simp[Builtin.append_,run_underlying h,run_underlying j,sizeOf,typeInfo,hi,h1,h2,a,Addr.add_lit,b]
theorem GR{b:List Value}(j:P.underlying t=some (.slice e))(k:P.underlying u=some d)(hd:isSS d=true)(hi:P.info? e=some i)
  (hz:i.zero=some z) {a:Option Addr} {n c m:Nat} (hx:Src P w i.size x m ws) (ho:Src P w i.size (.slice a n c) n b) (l:c<n+m) (h:((n+m:Nat):Int)<=9223372036854775807) (hb:(n+m)*i.bytes<=140737488355328) :
  (Builtin.append_ #[t,u] tt #[.slice a n c,x]).run P w =
   .ok (.slice (some ⟨w.heap.size,0,none⟩) (n+m) (grownCap w (n+m) c e))
    (w.drew.alloc (.cells ((b++ws).toArray++Builtin.zeroCells z.cells (grownCap w (n+m) c e - (n+m))) e)):=by
 have h1:=hx.len w
 have h2:=hx.cells w.drew rfl
 have h3:=ho.cells w.drew rfl
 have hn:¬ (n+m<=c):=by omega
 have f:¬ (9223372036854775807 < ((n:Int)+(m:Int))):=by omega
 have g:¬ (281474976710656<Builtin.nextslicecap (n+m) c*i.bytes):=by simp_all[growslice_fits]
 rcases nJ hd with⟨e',rfl⟩|rfl
 all_goals simp[Builtin.append_,run_underlying j,run_underlying k,sizeOf,typeInfo,zeroValue,hi,hz,h1,h2,h3,hn,f,g,Question.forced,newRow,grownCap]
 all_goals grind
theorem IR{a b:Nat}:a<=grownCap w a b e:=by
 grind [grownCap,Question.cut]
end
def AV1.map(f:T->T):AV1->AV1
 |.c t=>.c (f t)
 |.agg ts=>.agg (ts.map f)
def AV.map(f:T->T):AV->AV
 |.one x=>.one (x.map f)
 |.tup xs=>.tup (xs.map (·.map f))
 |.any=>.any
def sv(f:AV->AV)(t:List (Nat×AV)):List (Nat×AV):=t.map fun x=>(x.1,f x.2)
theorem qm{f:AV->AV}(hf:f .any=.any):∀(t:List (Nat×AV))(i:Nat),aY (sv f t) i=f (aY t i)
 |[],i=>hf.symm
 |(k,v)::t,i=>by
  simp only[sv,af3,aY];split
  ·rfl
  ·exact qm hf t i
variable{H':FH}{m m':Mm}{w':World}{γ':Gam}
theorem XD{w:World}{H:FH}{γ:Gam}{f:T->T}(hf:∀t y,TR w H γ m t (fun _=>0) y->TR w' H' γ' m' (f t) (fun _=>0) y) :
  ∀{ts:List T}{g:Fp}{vs:List Value},(∀b,g b=0)->Ts (TR w H γ m) ts g vs->Ts (TR w' H' γ' m') (ts.map f) g vs:=by
 intro ts g vs a h;unfold Ts;rw[af7];refine K9 (fun _ t k y hk c=>?_) h;have:k=fun _=>0:=by grind
 grind
theorem NX{w:World}{H:FH}{γ:Gam}{f:T->T}(hf:∀t y,TR w H γ m t (fun _=>0) y->TR w' H' γ' m' (f t) (fun _=>0) y)
  {x:AV1} {y:Value} (h:AR1 w H γ m x y):AR1 w' H' γ' m' (x.map f) y:=by
 cases x with
 |c t=>exact hf t y h
 |agg ts=>obtain⟨cs,h1,h2,h3⟩:=h;exact⟨cs,h1,by grind,XD hf (fun _=>rfl) h3⟩
theorem NY{w:World}{H:FH}{γ:Gam}{f:T->T}(hf:∀t y,TR w H γ m t (fun _=>0) y->TR w' H' γ' m' (f t) (fun _=>0) y) :
  ∀{xs:List AV1}{ys:List Value},ARs w H γ m xs ys->ARs w' H' γ' m' (xs.map (·.map f)) ys
 |[],[],_=>trivial
 |_::_,_::_,h=>⟨NX hf h.1,NY hf h.2⟩
 |[],_::_,h=>h.elim
 |_::_,[],h=>h.elim
theorem iv{w:World}{H:FH}{γ:Gam}{f:T->T}(hf:∀t y,TR w H γ m t (fun _=>0) y->TR w' H' γ' m' (f t) (fun _=>0) y)
  {x:AV} {y:Value} (h:AR w H γ m x y):AR w' H' γ' m' (x.map f) y:=by
 cases x with
 |one x=>exact NX hf h
 |tup xs=>obtain⟨l,h1,h2⟩:=h;exact⟨l,h1,NY hf h2⟩
 |any=>trivial
def T.frz(q:Pl)(l:List (List D)):T->T
 |.rf p=>match p with
  |⟨n,o,[]⟩=>if n=q.root/\o=q.off then .d (.li l)else(T.rf ⟨n,o,[]⟩).kill (thr q)
  |p=>(T.rf p).kill (thr q)
 |t=>t.kill (thr q)
def IK(m:Mm)(q:Pl)(l:List (List D)):Mm:=bh (aM (thr q) (bh m q .any)) q (.d (.li l))
def IL(s:S)(q:Pl):S:=
 match q.path,aW s.m q with
 |[],some (.ow _ l)=>⟨sv (AV.map (T.frz q l)) s.t,IK s.m q l⟩
 |_,_=>s
variable{n:Nm}{v:Value}
theorem Lc{w:World}{H:FH}{γ:Gam}{F:Nm->Fp}(f:Mem w H γ m F){off:Nat}(c:aW m ⟨n,off,[]⟩=some .any)(hv:aH w (γ n) off=some v){x:D}(hx:FDx H x v) :
  Mem w H γ (bh m ⟨n,off,[]⟩ (.d x)) F/\Keeps w γ m w γ (bh m ⟨n,off,[]⟩ (.d x)):=by
 unfold aW at c;cases hr:ae m n with
 |none=>grind
 |some r=>
  rw[hr]at c;dsimp only at c;have i:=bY c
  have e:bh m ⟨n,off,[]⟩ (.d x)=cE m n { r with cells:=r.cells.set off (.d x) }:=by grind [bh]
  have j:∀k,ae (bh m ⟨n,off,[]⟩ (.d x)) k=if n=k then some { r with cells:=r.cells.set off (.d x) }else ae m k:=fun k=>by grind [fC]
  have o:Keeps w γ m w γ (bh m ⟨n,off,[]⟩ (.d x)):=by
   constructor
   ·intro q hq;refine⟨?_,rfl⟩;rw[ax]at hq⊢;rw[j];obtain⟨p,h1,h2⟩:=hq;by_cases hn:n=q.root
    ·rw[if_pos hn];rw[<- hn,hr]at h1;obtain rfl:r=p:=by grind
     refine⟨_,rfl,?_⟩;obtain⟨B,E,C⟩:=q;dsimp only[aR]at h2⊢
     grind
    grind
   ·intro q hq;refine⟨?_,rfl⟩;rw[b9]at hq⊢;rw[j];obtain⟨p,h1,h2⟩:=hq;by_cases hn:n=q.root
    ·rw[if_pos hn];rw[<- hn,hr]at h1;obtain rfl:r=p:=by grind
     refine⟨_,rfl,?_⟩;dsimp only[bx]at h2⊢
     grind
    grind
  refine⟨⟨f.agree,?_,?_,?_,?_,?_⟩,o⟩
  ·intro y hy;rw[e]at hy;rcases px f.keys hy with⟨_,hy⟩|rfl
   ·exact be o (fun _ _ _ h=>h) rfl (fun _ _=>rfl) (f.roots y hy)
   ·have a:=f.roots _ (aj hr)
    dsimp only at a⊢;have a:=be o (fun _ _ _ h=>h) rfl (fun _ _=>rfl) a
    unfold bU at a⊢;dsimp only;split at a
    ·rename_i hb;rw[if_pos hb];obtain⟨b,cs,ty,fz,g,h1,h2,h3,h4,h5,h6⟩:=a;refine⟨b,cs,ty,fz,g,h1,h2,h3,by grind,?_,h6⟩;unfold Ts at h5⊢;rw[ahO];obtain⟨s0,t0,v0,s,fr,G,z,a3,a4,a5,u,_⟩:=cQ _ _ _ _ off h5 i;rw[c]at z;obtain rfl:T.any=t0:=by grind
     have l:v0=v:=by
      grind [aH,World.cell?]
     subst l;have h0:∀b,s b=0:=a5
     have:=u (fun(_:Unit) t=>TR w H γ (bh m ⟨n,off,[]⟩ (.d x)) t) (.d x) v0 (fun _=>0) (fun _ _ _ _ _ h=>h) ⟨fun _=>rfl,hx⟩
     grind [pL,oI]
    ·rename_i hb;rw[if_neg hb];obtain⟨A,t,h1,h2,h3⟩:=a;rw[h2]at c i;have:off=0:=by grind
     subst this;obtain rfl:t=.any:=by grind
     rw[h1]at hv;simp only[aH,if_true,af0]at hv;subst hv;exact⟨A,.d x,h1,by grind,h3,hx⟩
  ·grind [mA,Mem.keys]
  ·grind [dD,Mem.le1]
  ·intro b hb;rw[e,dD]at hb;exact f.lt b hb
  ·intro b hb;rw[e,dD]at hb;exact f.nofz b hb
section
variable {P:Program} {g:G} {s:S} {a:Act} {w:World} {H:FH} {γ:Gam} {F:Nm->Fp}
theorem Lf(h:RX g s a w H γ F)(q:Pl):∃H' F',RX g (IL s q) a w H' γ F':=by
 unfold IL;obtain⟨n,off,path⟩:=q;cases path with
 |cons st u=>grind
 |nil=>
  dsimp only;cases D:aW s.m ⟨n,off,[]⟩with
  |none=>grind
  |some t=>
   cases t with
   |ow sub l=>
    dsimp only;have d:bZ s.m ⟨n,off,[]⟩:=by
     unfold aW at D;rw[ax];cases hr:ae s.m n with
     |none=>grind
     |some r=>rw[hr]at D;exact⟨r,rfl,bY D⟩
    obtain⟨f,v,Q,O,t3,t4,t5⟩:=yS h.mem d D
    let H':FH:=fun b o=>if f b≠0 then(w.cell? ⟨b,o,none⟩).map HV.c else H b o
    have I:∀b o y,H b o=some y->H' b o=some y:=by
     intro b o y hy;simp only[H'];split
     ·rename_i e;rw[h.mem.nofz b (by grind) o]at hy;cases hy
     omega
    have J:∀b o y,H' b o=some y->RdV w b o y:=by
     intro b o y hy;simp only[H']at hy;split at hy
     ·obtain⟨z,hz,rfl⟩:=agG.1 hy;exact hz
     ·exact h.mem.agree b o y hy
    have E:=t5 H' I J (fun b hb o=>by
     have h1:=t4 b;have h2:=h.mem.le1 b
     simp only[H'];rw[if_neg kQ1];exact h.mem.nofz b kQ1 o)
    have hx:FDx H' (.li l) v:=by
     obtain⟨k,K⟩:=O
     grind [TZ]
    have A:aW (aM (thr ⟨n,off,[]⟩) (bh s.m ⟨n,off,[]⟩ .any)) ⟨n,off,[]⟩=some .any:=by
     obtain⟨r,hr,C⟩:=ax.1 d;dsimp only[aR]at hr C;unfold aW;rw[km,zS (t:=T.any) hr];simp only[if_true,Option.map_some,af5];rw[agQ C];rfl
    have hv:aH w (γ n) off=some v:=Q
    obtain⟨M,L⟩:=Lc E A hv hx;have G:=oL h.mem d
    refine⟨H',_,⟨M,?_,h.nt,h.df,fun i=>?_⟩⟩
    ·have B:∀b,tot (fun k b=>F k b-if k=n then f b else 0) (IK s.m ⟨n,off,[]⟩ l) b=tot (fun k b=>F k b-if k=n then f b else 0) s.m b:=by
      grind [IK,bh,dD,bk]
     refine⟨h.fr.size,h.fr.os,h.fr.tape,h.fr.output,h.fr.block,fun b o y hy=>I _ _ _ (h.fr.hold b o y hy),fun b o h1 h2=>?_,fun b hb=>?_,h.fr.nz.1,fun b o x l' c h1 h2=>?_⟩
     rotate_left 2
     ·by_cases hb:f b=0
      ·simp only[H']at h1;rw[if_neg kQ1]at h1;exact h.fr.nz.2 b o x l' c h1 h2
      ·obtain⟨k,K⟩:=O
       grind [OA]
     ·by_cases hb:f b=0
      ·simp only[H']at h1;rw[if_neg kQ1]at h1;exact h.fr.hnew b o h1 h2
      ·exact h.fr.tt b (by grind)
     ·have N:=B b
      have h4:=t4 b
      dsimp only at h4 N;have S:tot (fun k b=>F k b-if k=n then f b else 0) (IK s.m ⟨n,off,[]⟩ l) b≠0:=hb
      refine h.fr.tt b ?_;omega
    ·show AR w H' γ _ (aY (sv _ s.t) i) _
     rw[qm rfl];refine iv (fun t y j=>?_) (h.t i);have hk:=fun(t:T) (j:TR w H γ s.m t (fun _=>0) y)=>i7 L (fun _ _ _ h=>h) (fun _ hb=>absurd rfl hb) (qa G I (fun _ hb=>absurd rfl hb) j)
     cases t with
     |rf p=>
      obtain⟨V,U,P⟩:=p;cases P with
      |nil=>
       simp only[T.frz];split
       ·rename_i hc;obtain⟨rfl,rfl⟩:=hc;obtain⟨_,_,R⟩:=j;have:y=v:=by
         grind
        subst this;exact⟨fun _=>rfl,hx⟩
       ·exact hk _ j
      |cons st u=>exact hk _ j
     |_=>exact hk _ j
   |_=>grind
def Vt(s:S):T->S
 |.rf p=>IL s p
 |_=>s
def C5:S->List T->S
 |s,[]=>s
 |s,t::ts=>C5 (Vt s t) ts
def IN(s:S):AV->S
 |.one (.c t)=>Vt s t
 |.one (.agg ts)=>C5 s ts
 |_=>s
def pe(s:S):List AV->S
 |[]=>s
 |v::vs=>pe (IN s v) vs
theorem OB(h:RX g s a w H γ F)(t:T):∃H' F',RX g (Vt s t) a w H' γ F':=by
 cases t with
 |rf p=>exact Lf h p
 |_=>exact⟨H,F,h⟩
theorem GA:∀(ts:List T)(s:S)(H:FH)(F:Nm->Fp),RX g s a w H γ F->∃H' F',RX g (C5 s ts) a w H' γ F'
 |[],s,H,F,h=>⟨H,F,h⟩
 |t::ts,s,H,F,h=>by
  obtain⟨H1,F1,h1⟩:=OB h t;exact GA ts _ H1 F1 h1
theorem D4(h:RX g s a w H γ F)(v:AV):∃H' F',RX g (IN s v) a w H' γ F':=by
 unfold IN;split
 ·exact OB h _
 ·exact GA _ _ _ _ h
 grind
theorem yX:∀(vs:List AV)(s:S)(H:FH)(F:Nm->Fp),RX g s a w H γ F->∃H' F',RX g (pe s vs) a w H' γ F'
 |[],s,H,F,h=>⟨H,F,h⟩
 |v::vs,s,H,F,h=>by
  obtain⟨H1,F1,h1⟩:=D4 h v;exact yX vs _ H1 F1 h1
end
def S.fresh(s:S)(n:Nm):S:=match ae s.m n with
 |none=>s
 |some _=>s.drop n
def S.root(s:S)(n:Nm)(r:Root):S:=⟨s.t,(n,r)::s.m⟩
def zcells(P:Program)(t:TypeId):Option (List Value):=
 match P.info? t with
 |some it=>match it.zero with
  |some z=>if z.cells.all okT=true then some z.cells.toList else none
  |none=>none
 |none=>none
def T.fz:T->D
 |.d x=>x
 |.nil=>.li []
 |_=>.any
variable{α:Type}
def chunk(size:Nat):Nat->List α->List (List α)
 |0,_=>[]
 |n+1,l=>l.take size::chunk size n (l.drop size)
theorem np{size:Nat}:∀{n:Nat}{l:List α},(chunk size n l).length=n
 |0,_=>rfl
 |n+1,l=>by simp only[chunk,af4,np]
theorem rX{size:Nat}:∀{n:Nat}{l:List α},l.length=n*size->(chunk size n l).flatten=l
 |0,l,h=>by
  have:l=[]:=by grind
  subst this;rfl
 |n+1,l,h=>by
  rw[Nat.add_mul]at h;simp only[chunk,List.flatten_cons];rw[rX (by grind),ahE]
theorem vz{size:Nat}:∀{n:Nat}{l:List α},l.length=n*size->∀x∈chunk size n l,x.length=size
 |0,l,h,x,hx=>by grind [chunk]
 |n+1,l,h,x,hx=>by
  rw[Nat.add_mul]at h;simp only[chunk,agC]at hx;rcases hx with rfl|hx
  ·grind
  ·exact vz (by grind) x hx
theorem qG(hk:(m.map (·.1)).Nodup):n ∉ (cm m n).map (·.1):=by
 induction m<;>grind [cm]
variable{k:S->Prop}{vs:Array (Nat×Value)}
section
variable {P:Program} {g:G} {s:S} {a:Act} {w:World} {H:FH} {γ:Gam} {F:Nm->Fp}
theorem cR(h:RX g s a w H γ F)(n:Nm):RX g (s.fresh n) a w H γ F:=by
 grind [S.fresh,xU]
theorem cv(h:RX g s a w H γ F)(n:Nm):ae (s.fresh n).m n=none:=by
 unfold S.fresh;split
 ·omega
 ·show ae (aM (bO n) (cm s.m n)) n=none
  rw[km];have:ae (cm s.m n) n=none:=vL.2 (qG h.mem.keys)
  grind
theorem j6{zs:List Value}(h:zcells P t=some zs):∃it z,P.info? t=some it/\it.zero=some z/\z.cells.toList=zs/\zs.all okT=true:=by
 grind [zcells]
theorem SE{it:TypeInfo}(hi:P.info? t=some it)(hz:it.zero=some z) :
  (Instr.alloc t true (.tuple #[])).run P w=.ok (.pointer (some ⟨w.heap.size,0,none⟩)) (w.alloc (.cells z.cells t)):=by
 simp[Instr.alloc,zeroValue,typeInfo,hi,hz,newVar,newRow]
theorem ZG:(Instr.box t v).run P w=.ok (.pointer (some ⟨w.heap.size,0,none⟩)) (w.alloc (.cells v.cells t)):=by
 rfl
theorem Ub(h:RX g s a w H γ F)(hno:n.isOut=false){ts:List T}{cs:Array Value}(hl:cs.size=ts.length)(e:Ts (TR w H γ (s.fresh n).m) ts (fun _=>0) cs.toList)(ty:TypeId)(f:∀t,n.tyd=some t->ty=t){d:Option Tmp}(hd:okD g.nt d=true)(i:ts≠[]) :
  ∃γ' F',RX g (((s.fresh n).root n ⟨true,ts⟩).put d (.one (.c (.pl ⟨n,0,[]⟩)))) (a.put d (.pointer (some ⟨w.heap.size,0,none⟩))) (w.alloc (.cells cs ty)) H γ' F':=by
 obtain⟨γ',F',h1,h2⟩:=T3 (cR h n) hno (cv h n) hl e ty f;refine⟨γ',F',RX.put h1 hd ⟨fun _=>rfl,?_,⟨w.heap.size,0,none⟩,?_,rfl⟩⟩
 ·rw[ax];refine⟨⟨true,ts⟩,by simp[ae],?_⟩;show 0<ts.length
  grind
 ·show(match γ' n with|.blk b=>some (⟨b,0,none⟩:Addr)|.gh _=>none)=_
  rw[h2]
def nQ(t:Nat)(d:Nat):Nm:=if t=158 then .loc (158*1000000+d)else .loc d
theorem Wg{t:Nat}{d:Nat}:(nQ t d).isOut=false:=by unfold nQ;split<;>rfl
theorem Zg{t:Nat}{d:Nat}(hd:d < 1000000):∀u,(nQ t d).tyd=some u->t=u:=by
 grind [nQ,Nm.tyd]
def vh(P:Program)(s:S)(t:TypeId)(d:Tmp)(k:S->Prop):Prop:=
 match zcells P t with
 |some zs=>zs≠[]/\d < 1000000/\k (((s.fresh (nQ t d)).root (nQ t d) ⟨true,zs.map ra⟩).put (some d) (.one (.c (.pl ⟨nQ t d,0,[]⟩))))
 |none=>False
theorem Qi(h:RX g s a w H γ F){d:Tmp}(hd:okD g.nt (some d)=true)(b:vh P s t d k) :
  ∃s' y w' γ' F',(Instr.alloc t true (.tuple #[])).run P w=.ok y w'/\k s'/\RX g s' (a.put (some d) y) w' H γ' F':=by
 unfold vh at b;cases hz:zcells P t with
 |none=>grind
 |some zs=>
  rw[hz]at b;obtain⟨e,c,b⟩:=b;obtain⟨it,z,h1,h2,h3,h4⟩:=j6 hz;obtain⟨γ',F',hX⟩:=Ub h (n:=nQ t d) Wg (ts:=zs.map ra) (cs:=z.cells) (by grind) (by grind [za]) t (Zg c) hd (by simp_all)
  grind [SE]
def Qt(s:S)(x:Operand)(d:Tmp)(k:S->Prop):Prop:=
 match eT (ev (s.fresh (.loc d)) x)with
 |some ts=>ts≠[]/\ts.all T.sure=true/\d < 1000000/\k (((s.fresh (.loc d)).root (.loc d) ⟨true,ts⟩).put (some d) (.one (.c (.pl ⟨.loc d,0,[]⟩))))
 |none=>False
theorem X7(h:RX g s a w H γ F){x:Operand}{d:Tmp}(hd:okD g.nt (some d)=true)(hx:aG x=true)(b:Qt s x d k) :
  ∃s' y w' H' γ' F',(Instr.box t (a.eval x)).run P w=.ok y w'/\k s'/\RX g s' (a.put (some d) y) w' H' γ' F':=by
 unfold Qt at b;have h':=cR h (.loc d)
 have hv:=aJ h' hx
 cases hz:eT (ev (s.fresh (.loc d)) x)with
 |none=>grind
 |some ts=>
  rw[hz]at b;obtain⟨c,hs,f,b⟩:=b;obtain⟨e,c2⟩:=yx h'.mem hv hz hs;obtain⟨γ',F',hX⟩:=Ub h (n:=.loc d) rfl (ts:=ts) (cs:=(a.eval x).cells) e c2 t (fun u i=>by grind [Nm.tyd]) hd c
  grind [ZG]
theorem Qv(u:Mem w H γ m F){a:List (Nat×AV)}{k:AV->Prop}(h:rT P t a k)(hp:PR w H γ m a vs.toList) :
  ∃z d,(∀w:World,(Instr.build t vs).run P w=.ok z w)/\AR w H γ m d z/\k d:=by
 unfold rT at h;cases hz:zst P t with
 |none=>grind
 |some q=>
  obtain⟨zs,g⟩:=q;rw[hz]at h;dsimp only at h;cases hf:jD (g[·]?) (zs.map ra) a with
  |none=>grind
  |some ts=>
   rw[hf]at h;unfold zst at hz;cases hi:P.info? t with
   |none=>grind
   |some it=>
    rw[hi]at hz;cases x:P.underlying t with
    |none=>grind
    |some td=>
     rw[x]at hz;cases td with
     |struct j=>
      dsimp only at hz;cases l:it.zero with
      |none=>grind
      |some z=>
       cases o:j.toList.mapM (fun f=>(P.info? f.type).map fun i=>(f.offset,i.size))with
       |none=>grind
       |some pl=>
        rw[l,o]at hz;dsimp only at hz;split at hz
        ·rename_i n;simp only[af0,Prod.mk.injEq]at hz;obtain⟨rfl,rfl⟩:=hz;have b:z.cells.toList.all okT=true:=by grind
         obtain⟨c,v,s,p⟩:=yb u a vs.toList (z.cells.toList.map ra) z.cells ts hp (by simp) (za b) hf;refine⟨.agg c,.one (.agg ts),fun w=>run_build w t vs c ?_,⟨c,rfl,s,p⟩,h⟩
         simp_all[Program.built]
        grind
     |array N e=>
      dsimp only at hz;cases l:it.zero with
      |none=>grind
      |some z=>
       cases r:P.info? e with
       |none=>grind
       |some y=>
        rw[l,r]at hz;dsimp only at hz;split at hz
        ·rename_i n;simp only[af0,Prod.mk.injEq]at hz;obtain⟨rfl,rfl⟩:=hz;have b:z.cells.toList.all okT=true:=by grind
         obtain⟨c,v,s,p⟩:=yb u a vs.toList (z.cells.toList.map ra) z.cells ts hp (by simp) (za b) hf;refine⟨.agg c,.one (.agg ts),fun w=>run_build w t vs c ?_,⟨c,rfl,s,p⟩,h⟩
         grind [Program.built,C0]
        grind
     |_=>grind
theorem jz{len:Nat}{cells:Array Value}{b:TypeInfo}
  (f:P.underlying t=some (.slice e)) (d:P.info? e=some b) (hz:b.zero=some z) (a:¬ len*b.size > 2 ^ 24)
  (h:∀us:Array Value,us.size=len*b.size->∃cs,Instr.fill (fun i=>some (i*b.size,b.size)) us vs.toList=some cs/\cs.size=len*b.size/\(cells=cs\/True)) :
  ∃us cs,us.size=len*b.size/\Instr.fill (fun i=>some (i*b.size,b.size)) us vs.toList=some cs /\
  (Instr.buildSlice t len vs).run P w=.ok (.slice (some ⟨w.heap.size,0,none⟩) len len) (w.alloc (.cells cs e)):=by
 by_cases c:len*b.size=0
 ·obtain⟨cs,h1,h2,_⟩:=h ((Array.range (len*b.size)).map ((#[]:Array Value)[· % (#[]:Array Value).size]!)) (by simp);refine⟨_,cs,by simp,h1,?_⟩;simp[Instr.buildSlice,run_underlying f,sizeOf,typeInfo,zeroValue,d,hz,a,c,newRow]at h1⊢;simp[h1]
 ·obtain⟨cs,h1,h2,_⟩:=h ((Array.range (len*b.size)).map (z.cells[· % z.cells.size]!)) (by simp);refine⟨_,cs,by simp,h1,?_⟩;simp[Instr.buildSlice,run_underlying f,sizeOf,typeInfo,zeroValue,d,hz,a,c,newRow,h1]
theorem Z7{k:Nat}:∀{ts:List T}{f:Fp}{vs:List Value},(∀b,f b=0)->Ts (TR w H γ m) ts f vs ->
  Cs (OD w H k) (List.replicate ts.length .fr) (ts.map T.fz) f vs
 |[],_,_,hf,_=>hf
 |t::ts,f,vs,hf,h=>by
  obtain⟨v,r,f1,a,h1,h2,h3,h4⟩:=h;refine⟨v,r,f1,a,h1,h2,?_,Z7 (fun b=>by grind) h4⟩;rw[fK];refine⟨fun b=>by grind,?_⟩;cases t with
  |d x=>exact h3.2
  |nil=>obtain⟨_,rfl⟩:=h3;exact kX
  |_=>exact⟨0,trivial⟩
def kw(s:S)(ps:Array (Nat×Operand)):List (Nat×AV):=ps.toList.map fun x=>(x.1,ev s x.2)
theorem tb{m:Mm}{s:S}(h:RX g s a w H γ F):∀{ps:List (Nat×Operand)},(ps.all fun x=>aG x.2)=true ->
  PR w H γ s.m (ps.map fun x=>(x.1,ev s x.2)) (ps.map fun x=>(x.1,a.eval x.2))
 |[],_=>trivial
 |x::ps,hp=>by
  simp only[agF,afZ]at hp;exact⟨rfl,aJ h hp.1,tb (m:=m) h hp.2⟩
def gG(P:Program)(s0:S)(t:TypeId)(len:Nat)(ps:Array (Nat×Operand))(d:Tmp)(k:S->Prop):Prop:=
 match(ty P t).k with
 |.sl e=>(ty P e).ok=true/\(zcells P e).isSome=true/\len*(ty P e).size<=16777216/\len<=16777216 /\
  let s:=(pe s0 (ps.toList.map fun x=>ev s0 x.2)).fresh (.gh d)
  match jD (fun i=>some (i*(ty P e).size,(ty P e).size)) (List.replicate (len*(ty P e).size) .any) (kw s ps)with
  |some ts=>k ((s.root (.gh d) ⟨false,[.ow (List.replicate (ty P e).size .fr) (chunk (ty P e).size len (ts.map T.fz))]⟩).put (some d) (.one (.c (.rf ⟨.gh d,0,[]⟩))))
  |none=>False
 |_=>False
theorem nv:∀{a:List (Nat×AV)}{pl:Nat->Option (Nat×Nat)}{ts ts':List T},jD pl ts a=some ts'->ts'.length=ts.length
 |[],pl,ts,ts',h=>by grind [jD]
 |(i,x)::r,pl,ts,ts',h=>by
  simp only[jD]at h;cases hp:pl i with
  |none=>grind
  |some q=>
   obtain⟨off,size⟩:=q;rw[hp]at h;cases hc:eT x with
   |none=>grind
   |some cs=>
    rw[hc]at h;dsimp only at h;split at h
    ·rename_i b;rw[nv h,wa b.2.1]
    grind
theorem Lo:∀{vs:List Value},Ts (TR w H γ m) (List.replicate vs.length .any) (fun _=>0) vs
 |[]=>fun _=>rfl
 |v::vs=>⟨v,vs,fun _=>0,fun _=>0,rfl,fun _=>rfl,fun _=>rfl,Lo⟩
theorem Kh(n size:Nat):(List.replicate n (List.replicate size Sh.fr)).flatten=List.replicate (n*size) Sh.fr:=by
 simp_all
theorem P8(h:RX g s a w H γ F)(hno:n.isOut=false)(hn:ae s.m n=none){cs:Array Value}{ty':TypeId}{len cap size:Nat}{l:List (List D)}(hl:l.length=len)(f:len<=cap)(e:len<=BIG)
  (hx:∀x∈l,x.length=size) (A:cs.size=cap*size) (j:∀k,Cs (OD w H k) (List.replicate (len*size) Sh.fr) l.flatten (fun _=>0) cs.toList) :
  ∃γ' F',RX g (s.root n ⟨false,[.ow (List.replicate size .fr) l]⟩) a (w.alloc (.cells cs ty')) H γ' F'/\γ' n=.gh (.slice (some ⟨w.heap.size,0,none⟩) len cap):=by
 obtain⟨q,hf,p,u⟩:=pZ h.mem cs ty' false;simp only[agA,false_and,if_false]at q hf p u;have hX:RX g s a (w.alloc (.cells cs ty')) H γ F:=jE h q hf (fun i=>dv p (fun _ _ _ h=>h) (h.t i)) (fun _=>rfl)
 have hz:tot F s.m w.heap.size=0:=by
  rcases agY (tot F s.m w.heap.size)with h'|h'
  ·exact h'
  ·have:=h.mem.lt w.heap.size kQ1;omega
 have B:∀o,H w.heap.size o=none:=by
  intro o;cases hc:H w.heap.size o with
  |none=>rfl
  |some y=>have:=(h.mem.agree _ _ _ hc).lt;omega
 have d:∀k,Cs (OD (w.alloc (.cells cs ty')) H k) (List.replicate len (List.replicate size Sh.fr)).flatten l.flatten (fun _=>0) cs.toList:=by
  intro k;rw[Kh];refine kW _ _ _ _ (fun s x g v z c=>?_) (j k);exact cH (fun _ _ _ h=>h) k k _ _ _ _ (af2 _) (fun b hb=>absurd (Nat.le_zero.1 (z b)) hb) c
 subst hl;have c:TR (w.alloc (.cells cs ty')) H γ s.m (.ow (List.replicate size .fr) l) (fun b=>0+if b=w.heap.size then 1 else 0) (.slice (some ⟨w.heap.size,0,none⟩) l.length cap):=
  ⟨1,yU (bu) rfl (by grind) f e (by grind) (d 0)⟩
 exact dL hX hno hn c (fun b=>by
   grind [Mem.le1])
  (fun b hb=>by
   simp_all)
  (fun b hb=>by
   have r:b=w.heap.size:=by
    grind
   right;have:=h.fr.size;omega)
theorem gQ{sub:List Sh}{l:List (List D)}(hn:ae m n=some ⟨false,[.ow sub l]⟩)(a:γ n=.gh v):AR w H γ m (.one (.c (.rf ⟨n,0,[]⟩))) v:=by
 refine⟨fun _=>rfl,?_,?_⟩
 ·rw[b9];exact⟨_,hn,trivial⟩
 ·show aH w (γ n) 0=some v
  rw[a];rfl
theorem zh(h:RX g s a w H γ F){t:TypeId}{len:Nat}{ps:Array (Nat×Operand)}{d:Tmp}(hd:okD g.nt (some d)=true)(hp:(ps.toList.all fun x=>aG x.2)=true)(c:gG P s t len ps d k) :
  ∃s' y w' H' γ' F',(Instr.buildSlice t len (ps.map fun(i,x)=>(i,a.eval x))).run P w=.ok y w'/\k s'/\RX g s' (a.put (some d) y) w' H' γ' F':=by
 unfold gG at c;cases hk:(ty P t).k with
 |sl e=>
  rw[hk]at c;obtain⟨u,A,f,L,c⟩:=c;obtain⟨_,td,hit,C,G,_⟩:=aV hk (by simp);have:=oD G
  subst this;obtain⟨b,O,p,_⟩:=jq u;have o:(ty P e).size=b.size:=by
   omega
  obtain⟨zs,I⟩:=Option.isSome_iff_exists.1 A;obtain⟨r,z,D,hz,_⟩:=j6 I;rw[p]at D;obtain rfl:b=r:=by grind
  obtain⟨H1,F1,h1⟩:=yX (ps.toList.map fun x=>ev s x.2) s H F h;have h2:=cR h1 (.gh d)
  have hn:=cv h1 (.gh d)
  dsimp only at c;generalize(pe s (ps.toList.map fun x=>ev s x.2)).fresh (.gh d)=s2 at c h2 hn;cases hf:jD (fun i=>some (i*(ty P e).size,(ty P e).size)) (List.replicate (len*(ty P e).size) .any) (kw s2 ps)with
  |none=>grind
  |some ts=>
   rw[hf]at c;dsimp only at c;rw[o]at hf c f;have v:PR w H1 γ s2.m (kw s2 ps) (ps.map fun(i,x)=>(i,a.eval x)).toList:=by
    rw[Array.toList_map];exact tb (m:=s2.m) h2 hp
   have j:∀us:Array Value,us.size=len*b.size->∃cs,Instr.fill (fun i=>some (i*b.size,b.size)) us (ps.map fun(i,x)=>(i,a.eval x)).toList=some cs/\cs.size=ts.length/\Ts (TR w H1 γ s2.m) ts (fun _=>0) cs.toList:=by
    intro us hus;refine yb h2.mem _ _ _ us ts v (by grind) ?_ hf;have:=Lo (w:=w) (H:=H1) (γ:=γ) (m:=s2.m) (vs:=us.toList)
    grind
   have J:ts.length=len*b.size:=by rw[nv hf];simp
   obtain⟨us,cs,u1,M,N⟩:=jz (P:=P) (w:=w) (t:=t) (e:=e) (len:=len) (vs:=ps.map fun(i,x)=>(i,a.eval x)) (cells:=#[]) C p hz kQ1 (fun us hus=>by
    grind)
   obtain⟨E,K,c2,c3⟩:=j us u1;rw[M]at K;obtain rfl:cs=E:=by grind
   have q:(ts.map T.fz).length=len*b.size:=by grind
   obtain⟨γ',F',hX,B⟩:=P8 h2 (n:=.gh d) rfl hn (cs:=cs) (ty':=e) (len:=len) (cap:=len) (size:=b.size) (l:=chunk b.size len (ts.map T.fz)) np (af2 _) (by
     show len<=2 ^ 62
     omega) (vz q) kQ1 (fun k=>by
      grind [rX,Z7])
   refine⟨_,_,_,H1,γ',F',N,c,RX.put hX hd (gQ (sub:=List.replicate b.size .fr) (l:=chunk b.size len (ts.map T.fz)) ?_ B)⟩;simp[S.root,ae]
 |_=>grind
end
def D.sure:D->Bool
 |.any=>false
 |_=>true
def Sh.isFr:Sh->Bool
 |.fr=>true
 |_=>false
def TK.isSS:TK->Bool
 |.sl _=>true
 |.str=>true
 |_=>false
def KF(s:S)(q:Pl):S:=⟨oz (thr q) s.t,aM (thr q) (bh s.m q .any)⟩
theorem SZ{F:Nm->Fp}{p:Pl}{t:T}{b:Nat}:tot F (bh m p t) b=tot F m b:=by
 grind [bh,dD]
theorem sZ{w:World}{H:FH}(d:∀b o y,H b o=some y->H' b o=some y){k k':Nat}(hk:k<=k'){c:List Sh}{xs:List D}{f:Fp}{vs:List Value}
  (hw:∀b,f b≠0->w'.heap[b]? = w.heap[b]?) (h:Cs (OD w H k) c xs f vs):Cs (OD w' H' k') c xs f vs:=
 kW _ _ _ _ (fun _ _ _ _ e a=>cH d k k' _ _ _ _ hk (fun b hb=>hw b (by grind)) a) h
variable{l:List (List D)}{sub:List Sh}
section
variable {P:Program} {g:G} {s:S} {a:Act} {w:World} {H:FH} {γ:Gam} {F:Nm->Fp}
theorem GC(h:RX g s a w H γ F){q:Pl}(d:bZ s.m q)(j:aW s.m q=some (.ow sub l)) :
  ∃v f F',plV w γ q=some v/\(∃k,OD w H k (.ow sub) (.li l) f v)/\RX g (KF s q) a w H γ F'/\∀b,tot F' (KF s q).m b+f b=tot F s.m b:=by
 obtain⟨f,v,e,r,t3,t4,t5⟩:=yS h.mem d j;have p:=t5 H (fun _ _ _ h=>h) h.mem.agree (fun b hb o=>h.mem.nofz b (by grind) o)
 have c:∀b,tot (fun n b=>F n b-if n=q.root then f b else 0) (KF s q).m b+f b=tot F s.m b:=by
  intro b;show tot _ (aM _ _) b+f b=_
  grind [bk,SZ]
 refine⟨v,f,_,e,r,⟨p,⟨h.fr.size,h.fr.os,h.fr.tape,h.fr.output,h.fr.block,h.fr.hold,h.fr.hnew,fun b hb=>h.fr.tt b ?_,h.fr.nz⟩,h.nt,h.df,fun i=>?_⟩,c⟩
 ·grind
 ·show AR w H γ _ (aY (oz _ s.t) i) _
  rw[sg];exact xS (oL h.mem d) (fun _ _ _ h=>h) (h.t i)
theorem oN(h:RX g s a w H γ F){w':World}(r:w.heap.size<=w'.heap.size)(n:w'.os=w.os)(q:w'.tape=w.tape)(f:w'.output=w.output)
  (hb:∀b,b<w.heap.size->w'.heap[b]? = w.heap[b]? \/ (tot F s.m b=0/\(∀o,H b o=none)/\(g.own0 b≠0\/g.w0.heap.size<=b)/\Thawed w' b)):RX g s a w' H γ F:=by
 have e:∀b,Thawed w b->Thawed w' b:=fun b h0=>by
  grind [Thawed.lt,Thawed.of_block]
 have d:∀b,tot F s.m b≠0->w'.heap[b]? = w.heap[b]? := fun b p=>by
  rcases hb b (h.mem.lt b p)with h1|h1
  all_goals omega
 have u:=gl (w':=w') h.mem d
 have j:∀x∈s.m,∀b,F x.1 b≠0->w'.heap[b]? = w.heap[b]? := fun x hx b hb=>d b (by grind [bR])
 refine⟨⟨?_,fun x hx=>be u (fun _ _ _ h=>h) rfl (j x hx) (h.mem.roots x hx),h.mem.keys,h.mem.le1,fun b hb=>by have:=h.mem.lt b hb;omega,h.mem.nofz⟩,
  ⟨ahK h.fr.size r,n.trans h.fr.os,q.trans h.fr.tape,f.trans h.fr.output,fun k hk h0=>?_,h.fr.hold,h.fr.hnew,h.fr.tt,fun b h0=>e b (h.fr.nz.1 b h0),fun b o x l c h1 h2=>e b (h.fr.nz.2 b o x l c h1 h2)⟩,h.nt,h.df,fun i=>dv u (fun _ _ _ h=>h) (h.t i)⟩
 ·intro b o y hy;have hc:=h.mem.agree b o y hy
  grind [RdV.lt,RdV.frame]
 ·rcases hb k (by have:=h.fr.size;omega)with h1|h1
  ·rw[h1];exact h.fr.block k hk h0
  omega
theorem A9{tt:TypeId}{Y:TypeDesc}(U:P.underlying t=some (.slice e))(I:P.underlying u=some Y)(s:isSS Y=true)(hi:P.info? e=some i)(hz:i.zero=some z)(V:z.cells.size=i.size)
  {k kx:Nat} {sub:List Sh} {l ys:List (List D)} {f gx:Fp} {v x:Value} {ws:List Value} (r:sub.length=i.size)
  (B:OD w H k (.ow sub) (.li l) f v) (hx:Src P w i.size x ys.length ws) (Q:∀y∈ys,y.length=sub.length) (N:Cs (OD w H kx) (List.replicate ys.length sub).flatten ys.flatten gx ws) (L:∀u∈ws,oF u=true)
  (hd:∀b,f b+gx b<=1) (W:∀b,f b≠0\/gx b≠0->b<w.heap.size) (ac:l.length+ys.length<=4611686018427387904) (S:(l.length+ys.length)*i.bytes<=140737488355328) :
  ∃y w' f',(Builtin.append_ #[t,u] tt #[v,x]).run P w=.ok y w'/\(∃k',OD w' H k' (.ow sub) (.li (l++ys)) f' y)/\w.heap.size<=w'.heap.size/\w'.os=w.os/\w'.tape=w.tape/\w'.output=w.output /\
   (∀b,b<w.heap.size->w'.heap[b]? = w.heap[b]? \/ (f b≠0/\Thawed w' b))/\(∀b,f' b<=f b+gx b+if b=w.heap.size then 1 else 0)/\(∀b,f' b≠0->b<w'.heap.size):=by
 cases k with
 |zero=>simp[OD]at B
 |succ k=>
  obtain⟨ad,c,E,vs,rfl,hlc,aa,M,O,J,g⟩:=lZ B;have p:∀y∈l++ys,y.length=sub.length:=xO M Q
  have hws:ws.length=ys.length*sub.length:=by rw[hx.size,r]
  by_cases o:l.length+ys.length<=c
  ·rcases g with⟨rfl,rfl,rfl,hf0⟩|⟨b,cs,ty,fz,rfl,hb,hfz,hcsz,rfl,hf⟩
   ·have G:ys=[]:=by
     grind
    subst G;have R:ws=[]:=by simp_all
    subst R;refine⟨_,w,fun _=>0,GS U I s hi (a:=none) (n:=0) (c:=0) (m:=0) hx (af2 _) (.inl rfl),⟨1,?_⟩,af2 _,rfl,rfl,rfl,fun _ _=>.inl rfl,fun b=>agW _,fun b hb=>absurd rfl hb⟩
    grind [e9]
   ·have A:fz=(0,0):=hfz
    subst A;have ab:E b=0:=by grind
    have X:gx b=0:=by grind
    have F:l.length*i.size+ws.length<=cs.size:=by
     rw[hws,hcsz,<- r,<- Nat.add_mul];exact ag8 _ o
    have K:=Qn (tt:=tt) U I s hi hb hx (fun u I=>L u I) o F
    refine⟨_,_,fun d=>(E d+gx d)+if d=b then 1 else 0,K,⟨k+kx+1,?_⟩,by simp[World.setRow],rfl,rfl,rfl,fun j hj=>?_,fun j=>?_,fun j hj=>?_⟩
    ·have hnew:=setRow_heap w b cs (cs.toList.take (l.length*i.size)++ws++cs.toList.drop (l.length*i.size+ws.length)).toArray ty (0,0) hb
     rw[show l.length+ys.length=(l++ys).length from by simp];refine yU hnew rfl ?_ (by grind) (by show(l++ys).length<=2 ^ 62;grind) p ?_
     ·grind
     ·have h1:=sZ (w':=w.setRow b (cs.toList.take (l.length*i.size)++ws++cs.toList.drop (l.length*i.size+ws.length)).toArray) (fun _ _ _ h=>h) (Nat.le_add_right k kx) (fun c hc=>setRow_other w b c _ (fun e=>hc (by grind))) J
      have h2:=sZ (w':=w.setRow b (cs.toList.take (l.length*i.size)++ws++cs.toList.drop (l.length*i.size+ws.length)).toArray) (fun _ _ _ h=>h) (Nat.le_add_left kx k) (fun c hc=>setRow_other w b c _ (fun e=>hc (by grind))) N
      grind [Tp]
    ·by_cases T:j=b
     ·right;subst T;exact⟨by grind,_,_,setRow_heap w j cs _ ty (0,0) hb⟩
     grind [setRow_other]
    all_goals grind [World.setRow]
  ·have ho:Src P w i.size (.slice ad l.length c) l.length vs:=by
    rcases g with⟨rfl,rfl,rfl,_⟩|⟨b,cs,ty,fz,rfl,hb,hfz,hcsz,rfl,hf⟩
    ·simp_all[oP]
    ·refine vg (by grind) (fun j u hj=>?_)
     grind [World.cell?]
   have C:=GR (tt:=tt) U I s hi hz hx ho kQ1 kQ1 S
   have q:l.length+ys.length<=grownCap w (l.length+ys.length) c e:=Am.IR
   have Z:∀b,E b<=f b:=by
    grind [Cs]
   have hno:∀b,E b≠0\/gx b≠0->b<w.heap.size:=fun b hb=>W b (by grind)
   generalize hcapv:grownCap w (l.length+ys.length) c e=cap at C q;have hnew:(w.drew.alloc (.cells ((vs++ws).toArray++Builtin.zeroCells z.cells (cap - (l.length+ys.length))) e)).heap[w.heap.size]? = some (.cells ((vs++ws).toArray++Builtin.zeroCells z.cells (cap - (l.length+ys.length))) e):=
    bu (w:=w.drew)
   have hold:∀b,b<w.heap.size->(w.drew.alloc (.cells ((vs++ws).toArray++Builtin.zeroCells z.cells (cap - (l.length+ys.length))) e)).heap[b]? = w.heap[b]? := fun b hb=>cP (w:=w.drew) hb
   refine⟨_,_,fun d=>(E d+gx d)+if d=w.heap.size then 1 else 0,C,⟨k+kx+1,?_⟩,by grind,rfl,rfl,rfl,fun j hj=>.inl (hold j hj),fun j=>by grind,fun j hj=>?_⟩
   ·rw[show l.length+ys.length=(l++ys).length from by simp];rw[show l.length+ys.length=(l++ys).length from by simp]at hnew hold q;refine yU hnew rfl ?_ q (by show(l++ys).length<=2 ^ 62;grind) p ?_
    ·simp only[Array.size_append,List.size_toArray,af6,size_zeroCells,O,hws,V];rw[<- r,<- Nat.add_mul,<- Nat.add_mul]
     grind
    ·have h1:=sZ (w':=w.drew.alloc (.cells ((vs++ws).toArray++Builtin.zeroCells z.cells (cap - (l++ys).length)) e)) (fun _ _ _ h=>h) (Nat.le_add_right k kx) (fun c hc=>hold c (hno c (.inl hc))) J
     have h2:=sZ (w':=w.drew.alloc (.cells ((vs++ws).toArray++Builtin.zeroCells z.cells (cap - (l++ys).length)) e)) (fun _ _ _ h=>h) (Nat.le_add_left kx k) (fun c hc=>hold c (hno c (.inr hc))) N
     grind [Tp]
   grind
end
def jO(size:Nat):AV->Option (List (List D))
 |.one (.c .nil)=>some []
 |.one (.c (.d (.li l)))=>some l
 |.one (.c (.d (.str b)))=>if size=1 then some (b.map fun c=>[.int .u8 c.toNat])else none
 |_=>none
def E6(size:Nat)(ys:List (List D)):Prop:=∀y∈ys,y.length=size/\∀x∈y,x.sure=true
def ja(s:S)(size:Nat):AV->Option (S×List Sh×List (List D))
 |.one (.c .nil)=>some (s,List.replicate size .fr,[])
 |.one (.c (.rf q))=>match aW s.m q with
  |some (.ow sub l)=>if sub.length=size then some (KF s q,sub,l)else none
  |_=>none
 |_=>none
def qb(P:Program)(a:S)(t u:TypeId)(x y:Operand)(d:Tmp)(k:S->Prop):Prop:=
 let s:=IN a (ev a y)
 match(ty P t).k with
 |.sl e=>(ty P e).ok=true/\(ty P u).k.isSS=true/\((zcells P e).map (·.length))=some (ty P e).size /\
  match jO (ty P e).size (ev s y),ja s (ty P e).size (ev s x)with
  |some ys,some (s1,sub,l)=>sub.all Sh.isFr=true/\E6 (ty P e).size ys/\l.length+ys.length<=4611686018427387904/\(l.length+ys.length)*(ty P e).bytes<=140737488355328 /\
   k (((s1.fresh (.gh d)).root (.gh d) ⟨false,[.ow sub (l++ys)]⟩).put (some d) (.one (.c (.rf ⟨.gh d,0,[]⟩))))
  |_,_=>False
 |_=>False
theorem Tn{w:World}{H:FH}{k:Nat}:∀{xs:List D}{vs:List Value},vs.length=xs.length->(∀(j:Nat)(x:D),xs[j]? = some x->∃v,vs[j]? = some v/\FDx H x v) ->
  Cs (OD w H k) (List.replicate xs.length .fr) xs (fun _=>0) vs
 |[],[],_,_=>fun _=>rfl
 |[],_::_,hl,_=>by grind
 |_::_,[],hl,_=>by grind
 |x::xs,v::vs,hl,h=>by
  refine⟨v,vs,fun _=>0,fun _=>0,rfl,fun _=>rfl,?_,Tn (by grind) (fun j x hj=>h (j+1) x (by grind))⟩;rw[fK];obtain⟨a,h1,h2⟩:=h 0 x rfl
  grind
theorem N5{H:FH}{x:D}{y:Value}(hs:x.sure=true)(h:FDx H x y):oF y=true:=by
 obtain⟨m,h⟩:=h;cases x with
 |int k n=>have:=h;cases m<;>(obtain⟨rfl,_⟩:=this;rfl)
 |bool b=>cases m<;>(have:y=_:=h;subst this;rfl)
 |str l=>have:=h;cases m<;>(obtain⟨rfl,_⟩:=this;rfl)
 |mp l=>obtain⟨b,rfl⟩:=Lb ⟨m,h⟩;rfl
 |fn f l=>obtain⟨b,rfl⟩:=Tv ⟨m,h⟩;rfl
 |v z=>have:=h;cases m<;>(obtain⟨rfl,h1⟩:=this;exact h1)
 |any=>grind [D.sure]
 |li l=>
  cases m with
  |zero=>exact h.elim
  |succ m=>obtain⟨a,c,rfl,_⟩:=j8.1 h;rfl
theorem L3(b:List UInt8):(b.map fun c=>[D.int .u8 (c.toNat:Int)]).flatten=b.map fun c=>D.int .u8 (c.toNat:Int):=by
 induction b<;>grind
section
variable {P:Program} {g:G} {s:S} {a:Act} {w:World} {H:FH} {γ:Gam} {F:Nm->Fp}
theorem aaJ(h:sub.all Sh.isFr=true):sub=List.replicate sub.length .fr:=by
 induction sub<;>grind [Sh.isFr]
theorem adN(C:Mem w H γ m F){size:Nat}{x:AV}{ys:List (List D)}(hx:AR w H γ m x v)(hr:jO size x=some ys)(r:E6 size ys) :
  ∃ws,Src P w size v ys.length ws/\(∀k,Cs (OD w H k) (List.replicate (ys.length*size) .fr) ys.flatten (fun _=>0) ws)/\∀u∈ws,oF u=true:=by
 have f:∀y∈ys,y.length=size:=fun y hy=>(r y hy).1
 have A:=cM size ys f
 match x,hr with
 |.one (.c .nil),hr=>
  simp only[jO,af0]at hr;subst hr;obtain⟨_,rfl⟩:=hx;exact⟨[],oP,fun k=>by simp[Cs],by simp⟩
 |.one (.c (.d (.str b))),hr=>
  simp only[jO]at hr;by_cases hs:size=1
  ·subst hs;rw[if_pos rfl]at hr;obtain rfl:=Option.some.inj hr;obtain⟨rfl,hb⟩:=DT hx;have:=XT (P:=P) (w:=w) (l:=b)
   refine⟨b.map fun b=>.int .u8 b.toNat,by grind,fun k=>?_,?_⟩
   ·rw[<- A];refine Tn (by grind) (fun j x hj=>?_);rw[L3,af5,agG]at hj;obtain⟨c,hc,rfl⟩:=hj;refine⟨.int .u8 c.toNat,by grind,0,rfl,?_⟩;have:=c.toNat_lt
    simp only[Lit.wf,afZ,decide_eq_true_eq];have h1:IntKind.u8.min=0:=rfl
    have h2:IntKind.u8.max=255:=rfl
    omega
   ·intro u s;simp only[agL]at s;obtain⟨c,_,rfl⟩:=s;rfl
  grind
 |.one (.c (.d (.li l))),hr=>
  simp only[jO,af0]at hr;subst hr;obtain⟨ad,c,rfl,_,_,g⟩:=gk hx.2;rcases g with rfl|⟨b,o,e,k0,rfl,hel⟩
  ·exact⟨[],oP,fun k=>by simp[Cs],by simp⟩
  ·by_cases B:l.length=0
   ·have:l=[]:=by grind
    subst this;exact⟨[],oP,fun k=>by simp[Cs],by simp⟩
   have he:e=size:=by
    have h0:=(hel 0 kQ1).1
    grind
   subst he;have z:∀j,j<l.length*e->∃v,w.cell? ⟨b,o+j,none⟩=some v/\∀x,l.flatten[j]? = some x->FDx H x v:=by
    intro j hj;have q:0<e:=Nat.pos_of_ne_zero (fun h=>by grind)
    have hi:j / e<l.length:=by simp_all[Nat.div_lt_iff_lt_mul]
    obtain⟨y,h1,h2⟩:=(hel (j / e) hi).2 (j % e) (ah3 _ q);have i:j / e*e+j % e=j:=by grind [Nat.div_add_mod]
    refine⟨y,?_,fun x hx=>?_⟩
    ·have:=C.agree _ _ _ h1
     rw[Nat.add_assoc,i]at this;exact this
    ·rw[<- i,dW e l _ _ f hi (ah3 _ q)]at hx;rw[List.getD,hx]at h2;exact⟨k0,h2⟩
   obtain⟨ws,w1,w2⟩:=lc (p:=fun j v=>w.cell? ⟨b,o+j,none⟩=some v/\∀x,l.flatten[j]? = some x->FDx H x v) (l.length*e) z;refine⟨ws,vg w1 (fun j v hj=>(w2 j v hj).1),fun k=>?_,fun u s=>?_⟩
   ·grind [Tn]
   ·obtain⟨j,hj,rfl⟩:=ahW.1 s;have n:j<l.flatten.length:=by omega
    have h1:=(w2 j _ (af1 hj)).2 _ (af1 n)
    refine N5 ?_ h1;have a:l.flatten[j]∈l.flatten:=ah1 n
    rw[List.mem_flatten]at a;obtain⟨y,hy,t⟩:=a;exact(r y hy).2 _ t
theorem X2(h:RX g s a w H γ F){size:Nat}{x:AV}{s1:S}(hx:AR w H γ s.m x v)(hb:ja s size x=some (s1,sub,l)) :
  ∃k f F1,OD w H k (.ow sub) (.li l) f v/\RX g s1 a w H γ F1/\sub.length=size/\(∀b,tot F1 s1.m b+f b<=1)/\(∀b,f b≠0->b<w.heap.size/\(∀o,H b o=none)/\(g.own0 b≠0\/g.w0.heap.size<=b)):=by
 match x,hb with
 |.one (.c .nil),hb=>
  simp only[ja,af0,Prod.mk.injEq]at hb;obtain⟨rfl,rfl,rfl⟩:=hb;obtain⟨_,rfl⟩:=hx;refine⟨1,fun _=>0,F,?_,h,by simp,fun b=>by have:=h.mem.le1 b;omega,fun b hb=>absurd rfl hb⟩
  grind [e9]
 |.one (.c (.rf q)),hb=>
  simp only[ja]at hb;cases j:aW s.m q with
  |none=>grind
  |some t=>
   rw[j]at hb;cases t with
   |ow n l'=>
    dsimp only at hb;split at hb
    ·rename_i e;simp only[af0,Prod.mk.injEq]at hb;obtain⟨rfl,rfl,rfl⟩:=hb;obtain⟨_,i,hv⟩:=hx;obtain⟨y,f,F',r,⟨k,z⟩,u,p⟩:=GC h (fh i) j;rw[hv]at r;obtain rfl:v=y:=by grind
     exact⟨k,f,F',z,u,e,fun b=>by rw[p];exact h.mem.le1 b,fun b hb=>by
      have d:tot F s.m b≠0:=by grind
      exact⟨h.mem.lt b d,h.mem.nofz b d,h.fr.tt b d⟩⟩
    grind
   |_=>grind
theorem Lv(h:RX g s a w H γ F){t tt:TypeId}{x y:Operand}{d:Tmp}(hd:okD g.nt (some d)=true)(hx:aG x=true)(hy:aG y=true)(c:qb P s t u x y d k) :
  ∃s' z w' H' γ' F',(Builtin.append_ #[t,u] tt #[a.eval x,a.eval y]).run P w=.ok z w'/\k s'/\RX g s' (a.put (some d) z) w' H' γ' F':=by
 unfold qb at c;dsimp only at c;obtain⟨H1,F1,h1⟩:=D4 h (ev s y);generalize IN s (ev s y)=s1 at c h1;cases hk:(ty P t).k with
 |sl e=>
  rw[hk]at c;obtain⟨O,K,r,c⟩:=c;obtain⟨_,td,hit,V,Y,_⟩:=aV hk (by simp);have:=oD Y
  subst this;obtain⟨J,de,B,_,_,j,p,_⟩:=jq O;rw[j,p]at c;rw[j]at r;obtain⟨zs,Z,r⟩:=agG.1 r;obtain⟨N,z,X,hz,ac,_⟩:=j6 Z;rw[B]at X;obtain rfl:J=N:=by grind
  have I:z.cells.size=J.size:=by grind
  obtain⟨A,huu,hudd⟩:∃A,P.underlying u=some A/\isSS A=true:=by
   have L:(ty P u).k≠.ot:=fun e=>by grind [TK.isSS]
   obtain⟨_,A,_,h2,h3,_⟩:=aV rfl L;refine⟨A,h2,?_⟩;rw[<- h3]at K;cases A<;>first|rfl|grind [fX,TK.isSS]
  cases D:jO J.size (ev s1 y)with
  |none=>grind
  |some ys=>
   cases E:ja s1 J.size (ev s1 x)with
   |none=>grind
   |some q=>
    obtain⟨s2,sub,l⟩:=q;rw[D,E]at c;obtain⟨T,i,C,W,c⟩:=c;obtain⟨ws,r1,r2,r3⟩:=adN (P:=P) h1.mem (aJ h1 hy) D i;obtain⟨kb,f,G,b1,b2,b3,b4,b5⟩:=X2 h1 (aJ h1 hx) E;have aa:=aaJ T
    obtain⟨z',w',f',c1,⟨k',c2⟩,c3,c4,c5,c6,c7,c8,c9⟩:=A9 (tt:=tt) V huu hudd B hz I (gx:=fun _=>0) (kx:=0) b3 b1 r1 (fun y hy=>by rw[b3];exact(i y hy).1)
     (by grind [Kh]) r3 (fun b=>by grind) (fun b hb=>by grind) C W
    have hX:=oN b2 c3 c4 c5 c6 (fun b hb=>by
     grind)
    have Q:=cR hX (.gh d)
    have hn:=cv hX (.gh d)
    have M:∀b,w.heap.size<=b->∀o,H1 b o=none:=by
     intro b hb o;cases hc:H1 b o with
     |none=>rfl
     |some y=>have:=(h1.mem.agree _ _ _ hc).lt;omega
    have af:∀b,tot G (s2.fresh (.gh d)).m b<=tot G s2.m b:=by
     intro b;unfold S.fresh;split
     ·omega
     ·show tot G (aM _ _) b<=_
      rw[bk];exact fY
    have ab:tot G s2.m w.heap.size=0:=by
     rcases agY (tot G s2.m w.heap.size)with h'|h'
     ·exact h'
     ·have:=b2.mem.lt w.heap.size kQ1;omega
    obtain⟨γ',F',U,R⟩:=dL Q (n:=.gh d) rfl hn (v:=z') (t:=.ow sub (l++ys)) (f:=f') ⟨k',c2⟩ (fun b=>by
      grind)
     (fun b hb=>⟨c9 b hb,by
      grind⟩)
     (fun b hb=>by
      have h5:=c8 b
      by_cases ad:b=w.heap.size
      ·right;have:=b2.fr.size;omega
      grind)
    refine⟨_,z',w',H1,γ',F',c1,c,RX.put U hd (gQ (sub:=sub) (l:=l++ys) ?_ R)⟩;simp[ae]
 |_=>grind
end
end Go.Am
end
