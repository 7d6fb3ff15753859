/-
  Part 16: AmE15 · AmE13 · AmE16 · AmB2 · AmRen · AmB3 · AmKp1 · AmLib.
-/
import Derived.Test.YtjccmeppajblpaaGreatDoorSn15
set_option linter.unusedSimpArgs false
set_option linter.unusedVariables false
set_option linter.unusedSectionVars false
set_option linter.unnecessarySimpa false
section
namespace Go.Am
section
variable {g:G} {s1:S} {a:Act} {w:World} {H1:FH} {γ:Gam} {F1:Nm->Fp}
theorem Fx {j:Nat} (h1:RX g s1 a w H1 γ F1) {o:Operand} {os:List Operand} {r:Nm} {cells:List T} (hops':ay o=true/\os.all ay=true) (heo:ev s1 o=.one (.c (.pl ⟨r,0,[]⟩))) (hroot:aa s1.m r=some ⟨true,cells⟩)
  (htyd:(Nm.out j).tyd=r.tyd) (hself:cells.all (T.self r)=true) (hfz:(os.map (ev s1)).all AV.isFz=true) {nt:Nat} (hle:os.length+1<=nt) :
  ∃ b γc,γ r=.blk b/\RX ⟨nt,w,H1,F1 r,fun i=>if i=j then some b else none,none,[]⟩ ⟨aL 0 (.one (.c (.pl ⟨.out j,0,[]⟩))::os.map fun x=>(ev s1 x).map T.canon),[(.out j,⟨true,cells.map (T.ren r (.out j))⟩)]⟩
   ⟨((o::os).map a.eval).toArray++Array.replicate (nt - ((o::os).map a.eval).toArray.size) undef,[]⟩ w H1 γc (fun _=>F1 r):=by
 have hevo:=aD h1 hops'.1
 rw [heo] at hevo;obtain ⟨_,hokp,ad,had,hval⟩:=hevo;have hR:=h1.mem.roots _ (ab hroot)
 obtain ⟨b,hγr⟩:∃ b,γ r=.blk b:=by
  have hR2:=hR
  unfold aV at hR2;rw [if_pos rfl] at hR2;obtain ⟨b,_,_,_,_,e,_⟩:=hR2;exact ⟨b,e⟩
 have had':ad=⟨b,0,none⟩:=by
  simp only [plA,hγr,SJ] at had; exact had.symm
 subst had';have hoff:0<cells.length:=by
  rw [aj] at hokp;obtain ⟨r0,q1,q2⟩:=hokp;dsimp only at q1;rw [hroot] at q1;obtain rfl:=Option.some.inj q1;exact q2
 let γc:Gam:=fun n=>if n=.out j then .blk b else γ n
 let mc:Mm:=[(.out j,⟨true,cells.map (T.ren r (.out j))⟩)]
 let g1:G:=⟨nt,w,H1,F1 r,fun i=>if i=j then some b else none,none,[]⟩
 have hγc:γc (.out j)=.blk b:=by simp [γc]
 have hRc:aV w H1 γc mc (.out j) ⟨true,cells.map (T.ren r (.out j))⟩ (F1 r):=
  j7 hR htyd hself hγr hroot hγc ⟨cells.map (T.ren r (.out j)),by simp [mc,aa],by simp⟩
 have hge:∀ c,F1 r c<=tot F1 s1.m c:=fun c=>aQ (F:=F1) (ab hroot) c
 let Fc:Nm->Fp:=fun _=>F1 r
 have htc:∀ c,tot Fc mc c=F1 r c:=fun c=>(Uf (F1 r c))
 have hmc:Mem w H1 γc mc Fc:=by
  refine ⟨h1.mem.agree,fun x hx=>?_,by simp [mc],fun c=>by rw [htc]; exact Th (hge c) (h1.mem.le1 c),fun c hc=>by rw [htc] at hc; exact h1.mem.lt c (by have:=hge c; omega),fun c hc=>by rw [htc] at hc; exact h1.mem.nofz c (by have:=hge c; omega)⟩;simp only [mc,SY] at hx;subst hx;exact hRc
 refine ⟨b,γc,hγr,?_⟩;refine ⟨hmc,⟨SN _,rfl,rfl,rfl,fun _ _ _=>rfl,fun _ _ _ h=>h,fun b o h2 h3=>absurd h3 h2,fun c hc=>.inl (by rw [htc] at hc; exact hc),gk⟩,?_,⟨rfl,fun i b' e=>?_,dc h1⟩,fun i=>?_⟩
 ·simp [g1]; omega
 ·simp only [g1] at e;split at e
  ·rename_i hj; subst hj; simp only [SJ] at e; subst e; exact hγc
  ·simp at e
 ·have hget:∀ x,(o::os)[i]? = some x->(((o::os).map a.eval).toArray++Array.replicate (nt - ((o::os).map a.eval).toArray.size) undef).getD i undef=a.eval x:=by
   intro x hx;rw [S5,Tx (by simp; have:=ae hx; simp at this; omega)];have e:((o::os).map a.eval)[i]? = some (a.eval x):=by rw [SM,hx]; rfl
   rw [List.getElem?_toArray,e]; rfl
  cases i with
  | zero=>
   rw [G.tv_none rfl,hget o rfl,hval];simp only [aL,aE,if_true];refine ⟨fun _=>rfl,?_,⟨b,0,none⟩,?_,rfl⟩
   ·rw [aj];refine ⟨⟨true,cells.map (T.ren r (.out j))⟩,by simp [mc,aa],?_⟩;show 0 < (cells.map (T.ren r (.out j))).length
    simpa using hoff
   ·simp only [plA,hγc]
  | succ i=>
   have hent:aE (aL 0 (.one (.c (.pl ⟨.out j,0,[]⟩))::os.map fun x=>(ev s1 x).map T.canon)) (i+1)=((os.map fun x=>(ev s1 x).map T.canon)[i]?).getD .any:=by
    simp only [aL,aE];rw [if_neg (by omega)];rw [cv];simp
   show AR w H1 γc mc (aE (aL 0 (.one (.c (.pl ⟨.out j,0,[]⟩))::os.map fun x=>(ev s1 x).map T.canon)) (i+1)) _
   rw [hent,SM];cases hi:os[i]? with
   | none=>simp only [T4,Ud]; trivial
   | some x=>
    have hx:=aD h1 (SQ.1 hops'.2 x (Tb hi))
    simp only [Option.map_some,Option.getD_some];have hz:(ev s1 x).isFz=true:=SQ.1 hfz (ev s1 x) (Tc (Tb hi))
    rw [G.tv_none rfl,hget x (by simpa using hi)];exact cZ bK (gY (fun _ _ _ h=>h) hz hx)
theorem I3 {j:Nat} (h1:RX g s1 a w H1 γ F1) {r:Nm} {cells:List T} (hroot:aa s1.m r=some ⟨true,cells⟩) (htyd:(Nm.out j).tyd=r.tyd) {b:Nat} (hγr:γ r=.blk b) {nt:Nat} {s2:S} {a':Act} {w':World} {H2:FH} {γ':Gam} {F2:Nm->Fp}
  (e2:RX ⟨nt,w,H1,F1 r,fun i=>if i=j then some b else none,none,[]⟩ s2 a' w' H2 γ' F2) {cells':List T} (hout:aa s2.m (.out j)=some ⟨true,cells'⟩) (hl2:cells'.length=cells.length) (hs2:cells'.all (T.self (.out j))=true) :
  ∃ F3,RX g ⟨iZ (gO r) s1.t,(r,⟨true,cells'.map (T.ren (.out j) r)⟩)::au (gO r) (aW s1.m r)⟩ a w' H2 γ F3:=by
 have hge:∀ c,F1 r c<=tot F1 s1.m c:=fun c=>aQ (F:=F1) (ab hroot) c
 have hfr:=e2.fr
 dsimp only at hfr;have hd:=lb h1 r
 have hmdm:(s1.drop r).m=au (bv r) (aW s1.m r):=rfl
 have hdm:=hd.mem
 rw [hmdm] at hdm;generalize hmd0:au (bv r) (aW s1.m r)=md at hdm;have tdel:∀ c,tot F1 md c+F1 r c=tot F1 s1.m c:=fun c=>by
  rw [<- hmd0,aM]; exact fi hroot c
 have hsame:∀ c,tot F1 md c≠0->w'.heap[c]? = w.heap[c]? := fun c hc=>
  hfr.block c (h1.mem.lt c (by have:=tdel c; omega)) (by have:=tdel c; have:=h1.mem.le1 c; omega)
 have hnewc:∀ c,c<w.heap.size->F1 r c=0->H1 c=H2 c:=by
  intro c hc h0
  funext o
  cases hh:H1 c o with
  | some y=>rw [hfr.hold c o y hh]
  | none=>
   cases hh2:H2 c o with
   | none=>rfl
   | some y=>
    rcases hfr.hnew c o (by rw [hh2]; simp) hh with h' | h'
    ·exact absurd h0 h'
    ·omega
 have hKp:=bS (w':=w') hdm hsame
 have hmd:Mem w' H2 γ md F1:=by
  refine ⟨e2.mem.agree,fun x hx=>aF hKp hfr.hold rfl (fun c hc=>hsame c (by have:=aQ (F:=F1) hx c; omega)) (hdm.roots x hx),hdm.keys,hdm.le1,fun c hc=>by have:=hdm.lt c hc; have:=hfr.size; omega,fun c hc o=>?_⟩;rw [<- hnewc c (hdm.lt c hc) (by have:=tdel c; have:=h1.mem.le1 c; omega)]; exact hdm.nofz c hc o
 have hRout:=e2.mem.roots _ (ab hout)
 have hγ':γ' (.out j)=.blk b:=e2.df.2.1 j b (by simp)
 have hnone:aa md r=none:=by rw [<- hmd0]; exact tW h1.mem.keys
 have hupd:upd γ r (.blk b)=γ:=by
  funext n
  by_cases hn:n=r
  ·subst hn; rw [bR,hγr]
  ·rw [gS hn]
 have hRr:aV w' H2 (upd γ r (.blk b)) ((r,⟨true,cells'.map (T.ren (.out j) r)⟩)::md) r ⟨true,cells'.map (T.ren (.out j) r)⟩ (F2 (.out j)):=
  j7 hRout htyd.symm hs2 hγ' hout bR ⟨cells'.map (T.ren (.out j) r),by simp only [aa,if_true],by simp⟩
 have hf1:∀ c,F2 (.out j) c<=tot F2 s2.m c:=fun c=>aQ (F:=F2) (ab hout) c
 have hf2:∀ c,F2 (.out j) c≠0->F1 r c≠0\/w.heap.size<=c:=fun c hc=>hfr.tt c (by have:=hf1 c; omega)
 have hmd0':∀ c,F2 (.out j) c≠0->tot F1 md c=0:=fun c hc=>by
  rcases hf2 c hc with h' | h'
  ·have:=tdel c; have:=h1.mem.le1 c; omega
  ·rcases S7 (tot F1 md c) with h0 | h0
   ·exact h0
   ·have:=hdm.lt c (by omega); omega
 obtain ⟨hM,htot⟩:=mT hmd (n:=r) (rc:=.blk b) (r:=⟨true,cells'.map (T.ren (.out j) r)⟩) (f:=F2 (.out j)) hnone hRr (fun c=>by
   by_cases hc:F2 (.out j) c=0
   ·have:=hdm.le1 c; omega
   ·have:=hmd0' c hc; have:=e2.mem.le1 c; have:=hf1 c; omega)
  (fun c hc=>⟨e2.mem.lt c (by have:=hf1 c; omega),e2.mem.nofz c (by have:=hf1 c; omega)⟩)
 rw [hupd] at hM;have hFr:Fr w H1 (tot F1 s1.m) w' H2 (tot (upd F1 r (F2 (.out j))) ((r,⟨true,cells'.map (T.ren (.out j) r)⟩)::md)):=by
  refine ⟨hfr.size,hfr.os,hfr.tape,hfr.output,fun c hc h0=>hfr.block c hc (by have:=hge c; omega),hfr.hold,fun c o h2 h3=>?_,fun c hc=>?_,hfr.nz⟩
  ·rcases hfr.hnew c o h2 h3 with h' | h'
   ·exact .inl (by have:=hge c; omega)
   ·exact .inr h'
  ·rw [htot] at hc;by_cases h0:F2 (.out j) c=0
   ·exact .inl (by have:=tdel c; omega)
   ·rcases hf2 c h0 with h' | h'
    ·exact .inl (by have:=hge c; omega)
    ·exact .inr h'
 have hKB:KeepsB (gO r) w γ s1.m w' γ ((r,⟨true,cells'.map (T.ren (.out j) r)⟩)::md):=by
  have hKa:=fa (w:=w') (γ:=γ) (rc:=.blk b) (r:=⟨true,cells'.map (T.ren (.out j) r)⟩) hnone
  rw [hupd] at hKa;have hKd:KeepsB (bv r) w γ s1.m w γ md:=by rw [<- hmd0]; exact db
  constructor
  ·intro q hbq hq;by_cases hqr:q.root=r
   ·obtain ⟨qr,qo,qp⟩:=q;dsimp only at hqr;subst hqr;simp only [gO,decide_true,TH,TW,Bool.not_eq_false',List.isEmpty_iff] at hbq;subst hbq;refine ⟨?_,by simp only [plA]⟩;rw [aj] at hq ⊢;obtain ⟨r0,q1,q2⟩:=hq;dsimp only at q1 q2;rw [hroot] at q1;obtain rfl:=Option.some.inj q1;refine ⟨⟨true,cells'.map (T.ren (.out j) qr)⟩,by simp only [aa,if_true],?_⟩;have q2':qo<cells.length:=q2
    show qo < (cells'.map (T.ren (.out j) qr)).length
    simp; omega
   ·obtain ⟨k1,k2⟩:=hKd.pl q (by simp [bv,hqr]) hq;obtain ⟨k3,k4⟩:=hKp.pl q k1;obtain ⟨k5,k6⟩:=hKa.pl q k3;exact ⟨k5,k6.trans (k4.trans k2)⟩
  ·intro q hbq hq;have hqr:q.root≠r:=by
    intro e;simp [gO,e] at hbq
   obtain ⟨k1,k2⟩:=hKd.rf q (by simp [bv,hqr]) hq;obtain ⟨k3,k4⟩:=hKp.rf q k1;obtain ⟨k5,k6⟩:=hKa.rf q k3;exact ⟨k5,k6.trans (k4.trans k2)⟩
 have hmem2:aa ((r,(⟨true,cells'.map (T.ren (.out j) r)⟩:Root))::au (gO r) (aW s1.m r)) r=some ⟨true,cells'.map (T.ren (.out j) r)⟩:=by simp only [aa,if_true]
 have hKB2:KeepsB (gO r) w γ s1.m w' γ ((r,⟨true,cells'.map (T.ren (.out j) r)⟩)::au (gO r) (aW s1.m r)):=by
  constructor
  ·intro q hbq hq;refine ⟨?_,(hKB.pl q hbq hq).2⟩;by_cases hqr:q.root=r
   ·have h:=(hKB.pl q hbq hq).1
    rw [aj] at h ⊢;obtain ⟨r0,q1,q2⟩:=h;refine ⟨r0,?_,q2⟩;rw [hqr] at q1 ⊢;simpa only [aa,if_true] using q1
   ·have h2:bw (au (gO r) (aW s1.m r)) q:=n8 (by rw [aj] at hq ⊢; rw [fh hqr]; exact hq)
    rw [aj] at h2 ⊢;obtain ⟨r0,q1,q2⟩:=h2;exact ⟨r0,by simp only [aa]; rw [if_neg (fun e=>hqr e.symm)]; exact q1,q2⟩
  ·intro q hbq hq;have hqr:q.root≠r:=by
    intro e;simp [gO,e] at hbq
   refine ⟨?_,(hKB.rf q hbq hq).2⟩;have h2:fx (au (gO r) (aW s1.m r)) q:=oa (by unfold fx at hq ⊢; rw [fh hqr]; exact hq)
   unfold fx at h2 ⊢;simp only [aa];rw [if_neg (fun e=>hqr e.symm)];exact h2
 have ht2:∀ Fu:Nm->Fp,tot Fu ((r,(⟨true,cells'.map (T.ren (.out j) r)⟩:Root))::au (gO r) (aW s1.m r))=tot Fu ((r,⟨true,cells'.map (T.ren (.out j) r)⟩)::md):=fun Fu=>by
  funext c
  rw [bg,bg,<- hmd0,aM,aM]
 have hM2:Mem w' H2 γ ((r,⟨true,cells'.map (T.ren (.out j) r)⟩)::au (gO r) (aW s1.m r)) (upd F1 r (F2 (.out j))):=by
  refine ⟨hM.agree,fun x hx=>?_,?_,fun b=>by rw [ht2]; exact hM.le1 b,fun b hb=>hM.lt b (by rwa [ht2] at hb),fun b hb=>hM.nofz b (by rwa [ht2] at hb)⟩
  ·rcases SS.1 hx with rfl | hx
   ·dsimp only;rw [bR];exact j7 hRout htyd.symm hs2 hγ' hout hγr ⟨_,hmem2,by simp⟩
   ·simp only [au,S9] at hx;obtain ⟨x0,hx0,rfl⟩:=hx;dsimp only;have hne:x0.1≠r:=fun e=>iu (n:=r) h1.mem.keys (by have:=Tc (f:=(·.1)) hx0; rw [e] at this; exact this)
    rw [gS hne];refine nA hKB2 hfr.hold rfl (fun c hc=>hsame c ?_) (h1.mem.roots x0 (pH hx0));have:=aQ (F:=F1) hx0 c
    rw [<- hmd0,aM];omega
  ·have:=hM.keys
   rw [<- hmd0] at this;simpa only [List.map_cons,kB] using this
 refine ⟨_,dP h1 hM2 (by rw [ht2]; exact hFr) (fun i=>?_) (fun _=>rfl)⟩;rw [iJ];exact mJ hKB2 hfr.hold (h1.t i)
end
theorem DM {e:En} (he:e.ok) (hm:e.P.follows .mixedOrders=true) {f:Nat} {fn:Func} (hf:e.P.funcs[f]? = some fn) (hname:(fn.name == "runtime.NumGoroutine")=false) (hb:fn.body.isSome=true) {an:An} {sh:List Sh} {u:U} {ps rs:List U}
  (hlen:Nat.ble (ps.length+1) fn.ntmps=true) (hc:eQ fn.ntmps (fn.body.getD .skip)=true):Cont e.P f (wS e fn an sh u ps rs):=by
 have hb':fn.body=some (fn.body.getD .skip):=by cases h:fn.body with
  | none=>rw [h] at hb; cases hb
  | some c=>rfl
 refine ⟨DI hf hname hb,fun pk s ops k k' hk hcc=>?_,fun g pk s a w H γ F1 ops k hX hops hcc=>?_⟩
 ·unfold wS at hcc ⊢;split at hcc
  ·exact hcc.elim
  ·dsimp only at hcc ⊢;split at hcc
   ·split at hcc
    ·split at hcc
     ·split at hcc
      ·split at hcc
       ·obtain ⟨KK,KP,b1,b2,b3⟩:=hcc;refine ⟨KK,KP,b1,fun z x' hz=>hk _ _ ?_ (b2 z x' hz),b3⟩;exact ((bG _ _).trans (cJ _ _ _ _ _)).trans ⟨TE _,fq (SN _),((oh _).trans (dS (SN _))).trans (il _ _ _ (SN _))⟩
       ·exact hcc.elim
      ·exact hcc.elim
     ·exact hcc.elim
    ·exact hcc.elim
   ·exact hcc.elim
 ·unfold wS at hcc;cases ops with
  | nil=>exact hcc.elim
  | cons o os=>
   dsimp only at hcc;have hops':ay o=true/\os.all ay=true:=by simpa using hops
   obtain ⟨H1,F2,h1⟩:=bT (os.map (evA s)) s H F1 hX;generalize aX s (os.map (evA s))=s1 at hcc h1;split at hcc
   ·rename_i r hro;obtain ⟨H2,γ2,F3,h2⟩:=ca (g:=g) r (dK u) sh 0 (Iv h1);generalize aR s1 r (dK u) sh 0=s2 at hcc h2;split at hcc
    ·rename_i r' hev2;split at hcc
     ·rename_i cells hdr hty hroot;have hr':r'=r:=by simpa using hdr
      subst hr';split at hcc
      ·rename_i ts hts;split at hcc
       ·rename_i x y hx hy;have hn2:=fd h2
        obtain ⟨c1,c2,c3⟩:=cr hy;obtain ⟨k1,_⟩:=mF hts (ii hx);have hrootS:aa s2.toS.m r'=some ⟨true,cells.map Tt.toT⟩:=by
         have:=aT hroot
         exact this
        have hlen2:os.length=ps.length:=by
         have:=congrArg List.length c3
         rw [cd] at this;simpa using this
        obtain ⟨b,γc,hγr,hent⟩:=Fx (j:=0) h2 hops' (by rw [af hops'.1,hev2]; rfl) hrootS (by rw [hty]; rfl) (gj hts).1 (by rw [dw hops'.2]; exact c2) (nt:=fn.ntmps) (by rw [hlen2]; exact SP hlen);have hent2:=mU hent (.out 0)
        have e0:(⟨1,(0,0,.one (.c (.pl ⟨.out 0,0,[]⟩)))::sq 1 ps y,[(.out 0,0,⟨true,ah sh (flat u x),none⟩)]⟩:St).toS=⟨aL 0 (.one (.c (.pl ⟨.out 0,0,[]⟩))::os.map fun x=>(ev s2.toS x).map T.canon),[(Nm.out 0,(⟨true,(cells.map Tt.toT).map (T.ren r' (.out 0))⟩:Root))].map fun x=>(x.1,if x.1=.out 0 then fK x.2 else x.2)⟩:=by
         have e1:(os.map fun x=>(ev s2.toS x).map T.canon)=eM ps y:=by
          have e:(os.map fun x=>(ev s2.toS x).map T.canon)=(os.map (ev s2.toS)).map (AV.map T.canon):=by rw [SX]; rfl
          rw [e,dw hops'.2]; exact c3
         rw [e1];refine aZ.S_ext ?_ ?_
         ·simp only [St.toS,List.map_cons,aL,fL]; rfl
         ·rw [(gj hts).2];simp only [St.toS,List.map_cons,List.map_nil,if_true,Rt.toR,holed,fK,k1]
        rw [<- e0] at hent2;obtain ⟨KK,KP,h,hkk,hkp⟩:=hcc;have back:∀ {s':S} {a':Act} {w':World} {H':FH} {γ':Gam} {F':Nm->Fp} {cells1 ts1:List Tt} {y1:El u},RX ⟨fn.ntmps,w,H2,F3 r',fun i=>if i=0 then some b else none,none,[]⟩ s' a' w' H' γ' F' ->
          aa s'.m (.out 0)=some ⟨true,cells1.map Tt.toT⟩->dq sh cells1=some ts1->gi u ts1=some y1 ->
          ∃ F4,RX g (⟨s2.nx+1,iT (i7 r') s2.nx s2.t,(r',s2.nx,⟨true,ah sh (flat u y1),none⟩)::bN (i7 r') s2.nx (d9 s2.m r')⟩:St).toS a w' H' γ2 F4:=by
         intro s' a' w' H' γ' F' cells1 ts1 y1 e2 hout q2 q3;obtain ⟨k3,_⟩:=mF q2 (ii q3);have hl:(cells1.map Tt.toT).length=(cells.map Tt.toT).length:=by
          have l2:∀ (sh:List Sh) (a b:List C),a.length=b.length->(ah sh a).length=(ah sh b).length:=by
           intro sh;induction sh with
           | nil=>intro a b _; cases a <;> cases b <;> rfl
           | cons s r ih=>
            intro a b hab;have hcons:∀ (c:C) (cs:List C),(ah (s::r) (c::cs)).length=(ah r cs).length+1:=by
             intro c cs;cases s <;> cases c <;> rfl
            cases a with
            | nil=>cases b with
             | nil=>rfl
             | cons _ _=>cases hab
            | cons c cs=>cases b with
             | nil=>cases hab
             | cons d ds=>rw [hcons,hcons,ih cs ds (by simpa using hab)]
          have a1:=congrArg List.length k3
          have a2:=congrArg List.length k1
          have a3:=l2 sh (flat u y1) (flat u x) (by rw [fe,fe])
          simp only [List.length_map] at a1 a2 ⊢;omega
         obtain ⟨F4,hX'⟩:=I3 (j:=0) h2 hrootS (by rw [hty]; rfl) hγr e2 hout hl (gj q2).1;refine ⟨F4,?_⟩;have hcn:=mU hX' r'
         have hlist:((r',(⟨true,(cells1.map Tt.toT).map (T.ren (.out 0) r')⟩:Root))::au (gO r') (aW s2.toS.m r')).map (fun x=>(x.1,if x.1=r' then fK x.2 else x.2))=(r',⟨true,(ah sh (flat u y1)).map Tt.toT⟩)::au (gO r') (aW s2.toS.m r'):=by
          simp only [List.map_cons,if_true]
          congr 1
          ·rw [q7 k3.symm]; simp only [fK,k3]
          ·refine (S1 fun z hz=>?_).trans (List.map_id _);have hne:z.1≠r':=by
            intro e;have hz1:z.1∈(au (gO r') (aW s2.toS.m r')).map (·.1):=Tc (f:=(·.1)) hz
            have e2:(au (gO r') (aW s2.toS.m r')).map (·.1)=(aW s2.toS.m r').map (·.1):=by simp only [au,SX]; rfl
            rw [e2,e] at hz1;exact iu h2.mem.keys hz1
           rw [if_neg hne]; rfl
         have hfin:(⟨s2.nx+1,iT (i7 r') s2.nx s2.t,(r',s2.nx,⟨true,ah sh (flat u y1),none⟩)::bN (i7 r') s2.nx (d9 s2.m r')⟩:St).toS=⟨iZ (gO r') s2.toS.t,(r',⟨true,(ah sh (flat u y1)).map Tt.toT⟩)::au (gO r') (aW s2.toS.m r')⟩:=by
          refine aZ.S_ext (ik _ _ _) ?_;simp only [St.toS,List.map_cons]
          congr 1
          have:=dF (i7 r') s2.nx (d9 s2.m r')
          rw [l8 _ _ hn2] at this;exact this
         rw [hfin];dsimp only at hcn;rw [hlist] at hcn;exact hcn
        refine calls_of_wp hf hb' (Code.wp_mono (fun ex a' w' hl=>?_) (iN (e:=⟨e.P,e.E,e.cs,e.sh,FL sh u KP⟩) he hm (g:=⟨fn.ntmps,w,H2,F3 r',fun i=>if i=0 then some b else none,none,[]⟩) _ an _ _ hc h _ w ⟨H2,γc,_,hent2⟩));obtain ⟨s',hq,hR⟩:=hl;have fin:∀ t:St,s'=t.toS->jb e.P fn.results.toList sh u rs KK t ->
          a'.defers=[]/\∃ v,(results fn a'.tmps).run e.P w'=.ok v w'/\gr g a pk k (.returned v) w':=by
         rintro t rfl ht
         unfold jb at ht;dsimp only at ht;have hR1:=ca (.out 0) (dK u) sh 0 (kS fn.results.toList hR)
         generalize aR (gD t fn.results.toList) (.out 0) (dK u) sh 0=s3 at ht hR1;have hid:=lf (us:=rs) (k:=fun vs=>match bh rs vs,bi s3.m (.out 0) with
          | some x_1,some ⟨true,cells,none⟩=>match dq sh cells with
           | some ts=>match gi u ts with
            | some y_1=>KK (x_1,y_1)
            | none=>False
           | none=>False
          | _,_=>False) (by
           intro vs hvs;split at hvs
           ·rename_i h1 _; exact ⟨_,h1⟩
           ·exact hvs.elim) ht
         have hg2:=fl (us:=rs) (K:=fun r=>∃ cells ts y1,bi s3.m (.out 0)=some ⟨true,cells,none⟩/\dq sh cells=some ts/\gi u ts=some y1/\KK (r,y1)) (G7 hR1) (by
           intro vs hvs;split at hvs
           ·rename_i x1 cells1 h1 h2;split at hvs
            ·rename_i ts h3;split at hvs
             ·rename_i y1 h4; exact ⟨x1,h1,cells1,ts,y1,h2,h3,h4,hvs⟩
             ·exact hvs.elim
            ·exact hvs.elim
           ·exact hvs.elim) ht
         obtain ⟨Hs,γs,Fs,hXs⟩:=hR1;obtain ⟨y0,v,H4,F4,e1,e2,e3,e4,r0,e5,cells1,ts1,y1,q1,q2,q3,q4⟩:=BJ hXs rfl (zO hid (K:=fun v=>∃ r,v=(bJ rs r).toV/\∃ cells ts y1,bi s3.m (.out 0)=some ⟨true,cells,none⟩/\dq sh cells=some ts/\gi u ts=some y1/\KK (r,y1)) (fun r hr=>⟨r,rfl,hr⟩) hg2);rw [hid] at e2 e3;obtain ⟨F5,hX5⟩:=back e2 (aT q1) q2 q3;refine ⟨e2.df.1,y0,e1,.inl ⟨y0,_,bJ rs r0,H4,γ2,F5,rfl,hkk _ _ q4,?_,hX5⟩⟩;rw [<- e5];exact cZ bK (gY (fun _ _ _ h=>h) e4 e3)
        cases ex with
        | normal=>obtain ⟨t,e1,ht⟩:=hq; exact fin t e1 ht
        | ret=>obtain ⟨t,e1,ht⟩:=hq; exact fin t e1 ht
        | exit i=>obtain ⟨t,e1,ht⟩:=hq; exact ht.elim
        | panic c=>
         obtain ⟨v,t,rfl,rfl,hv⟩:=hq;unfold FL at hv;dsimp only at hv;have hR1:=ca (.out 0) (dK u) sh 0 hR
         have hdf:a'.defers=[]:=by obtain ⟨_,_,_,hX'⟩:=hR; exact hX'.df.1
         generalize aR t (.out 0) (dK u) sh 0=s3 at hv hR1;split at hv
         ·rename_i cells1 q1;split at hv
          ·rename_i ts1 q2;split at hv
           ·rename_i y1 q3;obtain ⟨Hs,γs,Fs,hXs⟩:=hR1;obtain ⟨F5,hX5⟩:=back hXs (aT q1) q2 q3;exact ⟨hdf,.inr ⟨v,_,rfl,hkp _ _ hv,Hs,γ2,F5,hX5⟩⟩
           ·exact hv.elim
          ·exact hv.elim
         ·exact hv.elim
        | _=>exact hq.elim
       ·exact hcc.elim
      ·exact hcc.elim
     ·exact hcc.elim
    ·exact hcc.elim
   ·exact hcc.elim
end Go.Am
end

section
namespace Go.Am
theorem uE {e:En} (he:e.ok) (hm:e.P.follows .mixedOrders=true) {fn:Func} {an:An} {ps rs:List U} {g:G} (hg:g.nt=fn.ntmps) (hc:eQ fn.ntmps (fn.body.getD .skip)=true) {x:Fl ps} {KK:Fl rs->Prop} {K:AV->Prop}
  (hK:∀ r,KK r->K (bJ rs r).toV) (h:bq e fn an ps rs x KK):AW e.P g (fn.body.getD .skip) (Eo e.P fn.results.toList K) ⟨aL 0 (eM ps x),[]⟩:=by
 have h1:=iN (e:=⟨e.P,e.E,e.cs,e.sh,fun _ _=>False⟩) he hm (g:=g) _ an (pc ps x) _ (by rw [hg]; exact hc) h
 have e0:(pc ps x).toS=⟨aL 0 (eM ps x),[]⟩:=aZ.S_ext (fL 0 ps x) rfl
 rw [e0] at h1;refine ke h1 (fun ex s' a w h' hR=>?_);cases ex with
 | normal=>
  obtain ⟨t,rfl,ht⟩:=h';exact kK hK ht hR
 | ret=>
  obtain ⟨t,rfl,ht⟩:=h';exact kK hK ht hR
 | exit i=>exact h'.elim (fun t ht=>ht.2.elim)
 | panic c=>obtain ⟨_,_,_,_,hf⟩:=h'; exact hf.elim
 | _=>exact h'.elim
end Go.Am
end

section
namespace Go.Am
theorem RJ {u:U} (hu:scU u=true) (x:El u):∀ {H H':FH} {y:Value},FDx H (am u x).toD y->FDx H' (am u x).toD y:=by
 intro H H' y h;cases u with
 | i k=>obtain ⟨rfl,h2⟩:=dT h; exact ⟨0,rfl,h2⟩
 | b8=>obtain ⟨rfl,h2⟩:=dT h; exact ⟨0,rfl,h2⟩
 | bo=>obtain rfl:=gP h; exact ⟨0,rfl⟩
 | s=>obtain ⟨rfl,h2⟩:=fH h; exact ⟨0,rfl,h2⟩
 | _=>cases hu
theorem N0 {u:U} (hu:scU u=true) (x:El u):wC u x=.c (.d (am u x)):=by cases u <;> first | rfl | cases hu
theorem RS {w w':World} {H H':FH} {γ γ':Gam} {m m':Mm}:∀ {rs:List U} {y:Fl rs} {z:Value},rs.all scU=true->AR w H γ m (bJ rs y).toV z->AR w' H' γ' m' (bJ rs y).toV z:=by
 have one:∀ {u:U} {x:El u} {z:Value},scU u=true->AR1 w H γ m (wC u x).toV z->AR1 w' H' γ' m' (wC u x).toV z:=by
  intro u x z hu h;rw [N0 hu] at h ⊢;exact ⟨h.1,RJ hu x h.2⟩
 have all:∀ (rs:List U) (y:Fl rs) (zs:List Value),rs.all scU=true->ARs w H γ m ((bJ.resL rs y).map A1.toV) zs->ARs w' H' γ' m' ((bJ.resL rs y).map A1.toV) zs:=by
  intro rs;induction rs with
  | nil=>intro y zs _ h; cases zs with
   | nil=>trivial
   | cons _ _=>exact h.elim
  | cons u r ih=>
   intro y zs hs h;simp only [S6,SL] at hs;cases zs with
   | nil=>exact h.elim
   | cons z zs=>exact ⟨one hs.1 h.1,ih _ zs hs.2 h.2⟩
 intro rs y z hs h
 match rs,y with
 | [],_=>obtain ⟨l,h1,h2⟩:=h; exact ⟨l,h1,all [] () _ rfl h2⟩
 | [u],y=>
  simp only [S6,List.all_nil,Um] at hs;have e:(bJ [u] y).toV=.one (wC u y).toV:=by show (sk u y).toV=_; rw [pe]; rfl
  rw [e] at h ⊢;exact one hs h
 | u::v::r,y=>obtain ⟨l,h1,h2⟩:=h; exact ⟨l,h1,all (u::v::r) y _ hs h2⟩
section
variable {P:Program} {g:G} {a:Act} {w:World} {H:FH} {γ:Gam} {F:Nm->Fp}
theorem Bq {s:St} {p:Pl} {sh:List Sh} {u:U} {l:List (El u)} {r:Rt} (hr:bi s.m p.root=some r) (hh:r.hole=none) (h:sliceAt s.m p=some ⟨sh,u,l⟩) (hp:okP s.toS.m p):aP s.toS.m p=some (.ow sh (l.map (ai u))):=by
 unfold sliceAt at h;split at h
 ·rename_i sh' u' l' ht;cases h;have e:r.toR=⟨r.blk,r.cells.map Tt.toT⟩:=by unfold Rt.toR; rw [hh]; rfl
  have hg:aa s.toS.m p.root=some ⟨r.blk,r.cells.map Tt.toT⟩:=by rw [<- e]; exact aT hr
  unfold atT at ht;rw [hr] at ht;dsimp only at ht;unfold aP;rw [hg];dsimp only;cases hpath:p.path with
  | nil=>
   rw [hpath] at ht;dsimp only at ht ⊢;split at ht
   ·simp only [SJ] at ht;have:(r.cells.drop p.off)[0]? = some (.ow sh u l):=by
     have h2:=congrArg (·[0]?) ht
     simp only [Tu] at h2;rw [S2 (by omega)] at h2;exact h2
    rw [Td,Uf] at this;rw [SM,this]; rfl
   ·cases ht
  | cons st q=>
   rw [hpath] at ht;dsimp only at ht ⊢;split at ht
   ·rename_i sub u2 l2 _ hc;unfold okP at hp;rw [hpath] at hp;obtain ⟨r',sub',l',e1,e2,e3⟩:=hp;rw [hg] at e1;obtain rfl:=Option.some.inj e1;dsimp only at e2;have hc':(r.cells.map Tt.toT)[p.off]? = some (.ow sub (l2.map (ai u2))):=by rw [SM,hc]; rfl
    rw [hc'] at e2;have e2':=Option.some.inj e2
    simp only [T.ow.injEq] at e2';obtain ⟨rfl,rfl⟩:=e2';rw [hc'];dsimp only;rw [uZ e3 ht]
   ·cases ht
 ·cases h
def jX (w:World) (H:FH) (t:Fp):FH:=fun b o=>if t b≠0 then w.cell? ⟨b,o,none⟩ else H b o
theorem oW {s:S} (h:RX g s a w H γ F):∀ b o y,H b o=some y->jX w H (tot F s.m) b o=some y:=by
 intro b o y hy;unfold jX;split
 ·rename_i hb; rw [h.mem.nofz b hb o] at hy; cases hy
 ·exact hy
theorem CB {s:S} (h:RX g s a w H γ F):∀ b o y,jX w H (tot F s.m) b o=some y->w.cell? ⟨b,o,none⟩=some y:=by
 intro b o y hy;unfold jX at hy;split at hy
 ·exact hy
 ·exact h.mem.agree b o y hy
theorem Do (s:St) (v:At):lent s v=v\/∃ p r sh u l,v=.one (.c (.rf p))/\lent s v=sct (.li u l)/\bi s.m p.root=some r/\r.hole=none/\sliceAt s.m p=some ⟨sh,u,l⟩:=by
 unfold lent;split
 ·rename_i p;split
  ·rename_i r hr;split
   ·rename_i sh u l hh hs; exact .inr ⟨p,r,sh,u,l,rfl,rfl,hr,hh,hs⟩
   ·exact .inl rfl
  ·exact .inl rfl
 ·exact .inl rfl
theorem N9 {s:St} (h:RX g s.toS a w H γ F) {v:At} {z:Value} (hv:AR w H γ s.toS.m v.toV z) (hz:(lent s v).toV.isFz=true):AR w (jX w H (tot F s.toS.m)) γ [] (lent s v).toV z:=by
 rcases Do s v with e | ⟨p,r,sh,u,l,rfl,e,hr,hh,hs⟩
 ·rw [e] at hz ⊢;exact gY (oW h) hz hv
 ·rw [e];have hg:=Bq hr hh hs (kD hv.2.1)
  obtain ⟨f,y,e1,⟨k,e4⟩,e5,_⟩:=vp h.mem (dM hv.2.1) hg;rw [hv.2.2] at e1;obtain rfl:=Option.some.inj e1;refine ⟨fun _=>rfl,KR (oW h) k _ _ f _ e4 (fun b hb o x hx=>?_)⟩;unfold jX;have hbt:tot F s.toS.m b≠0:=by
   have h1:=e5 b
   have h2:=aQ (F:=F) (ab (aT hr)) b
   dsimp only at h2;have h3:tot F s.toS.m b=tot F (toM s.m) b:=rfl
   omega
  rw [if_pos hbt]; exact hx
theorem LZ {s:St} (h:RX g s.toS a w H γ F) {ops:List Operand} (hops:ops.all ay=true) {ps:List U} {x:Fl ps} (hx:bh ps (ops.map fun x=>lent s (evA s x))=some x) {nt:Nat} (hle:ops.length<=nt) :
  RX ⟨nt,w,jX w H (tot F s.toS.m),fun _=>0,fun _=>none,none,[]⟩ ⟨aL 0 (eM ps x),[]⟩ ⟨(ops.map a.eval).toArray++Array.replicate (nt - (ops.map a.eval).toArray.size) undef,[]⟩ w (jX w H (tot F s.toS.m)) γ F:=by
 obtain ⟨c1,c2,c3⟩:=cr hx;refine ⟨⟨CB h,fun x hx=>by simp at hx,by simp,fun b=>Tf _,fun b hb=>absurd rfl hb,fun b hb=>absurd rfl hb⟩,⟨SN _,rfl,rfl,rfl,fun _ _ _=>rfl,fun _ _ _ h=>h,fun b o h2 h3=>absurd h3 h2,fun b hb=>absurd rfl hb,gk⟩,?_,⟨rfl,fun j b e=>by simp at e,uT (oW h) (dc h)⟩,fun i=>?_⟩
 ·simp; omega
 ·show AR w _ γ [] (aE (aL 0 (eM ps x)) i) (Array.getD _ i undef)
  rw [<- c3,cv];simp only [Tf,if_true,Ux,SM];cases hi:ops[i]? with
  | none=>simp only [T4,Ud]; trivial
  | some y=>
   have hop:=SQ.1 hops y (Tb hi)
   have hy:=aD h hop
   rw [af hop] at hy;simp only [Option.map_some,Option.getD_some];have hz:(lent s (evA s y)).toV.isFz=true:=by
    refine SQ.1 c2 _ (Tc ?_);exact Tc (f:=fun x=>lent s (evA s x)) (Tb hi)
   have hget:((ops.map a.eval).toArray++Array.replicate (nt - (ops.map a.eval).toArray.size) undef).getD i undef=a.eval y:=by
    rw [S5,Tx (by simp; exact ae hi)];simp [hi]
   rw [hget];exact cZ bK (N9 h hy hz)
theorem IZ {s1:S} (h1:RX g s1 a w H γ F) {w':World} {H2:FH} {tt:Fp} (hfr:Fr w (jX w H (tot F s1.m)) (fun _=>0) w' H2 tt) (hag:∀ b o y,H2 b o=some y->w'.cell? ⟨b,o,none⟩=some y) :
  RX g s1 a w' (fun b o=>if tot F s1.m b≠0 then none else H2 b o) γ F:=by
 have hold:∀ b,b<w.heap.size->w'.heap[b]? = w.heap[b]? := fun b hb=>hfr.block b hb rfl
 have hsame:∀ b,tot F s1.m b≠0->w'.heap[b]? = w.heap[b]? := fun b hb=>hold b (h1.mem.lt b hb)
 have hKp:=bS (w':=w') h1.mem hsame
 have hle:∀ b o y,H b o=some y->(if tot F s1.m b≠0 then none else H2 b o)=some y:=by
  intro b o y hy;split
  ·rename_i hb; rw [h1.mem.nofz b hb o] at hy; cases hy
  ·exact hfr.hold b o y (oW h1 b o y hy)
 have hnew:∀ b o,(if tot F s1.m b≠0 then none else H2 b o)≠none->H b o=none->w.heap.size<=b:=by
  intro b o h2 h3;split at h2
  ·exact absurd rfl h2
  ·rename_i hb;have h4:jX w H (tot F s1.m) b o=none:=by unfold jX; rw [if_neg hb]; exact h3
   rcases hfr.hnew b o h2 h4 with h' | h'
   ·exact absurd rfl h'
   ·exact h'
 have hmem:Mem w' (fun b o=>if tot F s1.m b≠0 then none else H2 b o) γ s1.m F:=by
  refine ⟨fun b o y hy=>?_,fun x hx=>aF hKp hle rfl (fun b hb=>hsame b (by have:=aQ (F:=F) hx b; omega)) (h1.mem.roots x hx),h1.mem.keys,h1.mem.le1,fun b hb=>by have:=h1.mem.lt b hb; have:=hfr.size; omega,fun b hb o=>?_⟩
  ·split at hy
   ·cases hy
   ·exact hag b o y hy
  ·rw [if_pos hb]
 have hFr:Fr w H (tot F s1.m) w' (fun b o=>if tot F s1.m b≠0 then none else H2 b o) (tot F s1.m):=
  ⟨hfr.size,hfr.os,hfr.tape,hfr.output,fun b hb _=>hold b hb,hle,fun b o h2 h3=>.inr (hnew b o h2 h3),fun b hb=>.inl hb,hfr.nz.1,fun b o x l c h2 h3=>by
   have h5:=hnew b o (by rw [h2]; simp) h3
   split at h2
   ·cases h2
   ·rename_i hb;exact hfr.nz.2 b o x l c h2 (by unfold jX; rw [if_neg hb]; exact h3)⟩
 exact dP h1 hmem hFr (fun i=>bu hKp hle (h1.t i)) (fun _=>rfl)
theorem uR {e:En} (he:e.ok) (hm:e.P.follows .mixedOrders=true) {f:Nat} {fn:Func} (hf:e.P.funcs[f]? = some fn) (hname:(fn.name == "runtime.NumGoroutine")=false) (hb:fn.body.isSome=true) {an:An} {ps rs:List U} {Φ:Fl ps->(Fl rs->Prop)->Prop}
  (hlen:Nat.ble ps.length fn.ntmps=true) (hc:eQ fn.ntmps (fn.body.getD .skip)=true) (law:∀ x KK,Φ x KK->bq e fn an ps rs x KK):Cont e.P f (uV ps rs Φ):=by
 have hb':fn.body=some (fn.body.getD .skip):=by cases h:fn.body with
  | none=>rw [h] at hb; cases hb
  | some c=>rfl
 refine ⟨DI hf hname hb,fun pk s ops k k' hk hcc=>?_,fun g pk s a w H γ F ops k hX hops hcc=>?_⟩
 ·unfold uV at hcc ⊢;split at hcc
  ·obtain ⟨KK,h1,h2⟩:=hcc;exact ⟨KK,h1,fun y hy=>hk _ _ (Ext.refl s) (h2 y hy)⟩
  ·exact hcc.elim
 ·unfold uV at hcc;split at hcc
  rotate_left
  ·exact hcc.elim
  rename_i x hx hs;obtain ⟨KK,h1,hk⟩:=hcc;have hlx:ops.length=ps.length:=by
   obtain ⟨_,_,c3⟩:=cr hx;have:=congrArg List.length c3
   rw [cd] at this;simpa using this
  have hA:=uE (g:=⟨fn.ntmps,w,jX w H (tot F s.toS.m),fun _=>0,fun _=>none,none,[]⟩) he hm rfl hc (K:=fun r=>∃ y,KK y/\r=(bJ rs y).toV) (fun r hr=>⟨r,hr,rfl⟩) (law x KK h1)
  refine calls_of_wp hf hb' (Code.wp_mono (fun ex a' w' hl=>?_) (hA _ w ⟨_,γ,F,LZ hX hops hx (nt:=fn.ntmps) (by rw [hlx]; exact SP hlen)⟩));obtain ⟨s',hq,H',γ',F',hX'⟩:=hl;have fin:nF e.P s' fn.results.toList (fun r=>∃ y,KK y/\r=(bJ rs y).toV)->a'.defers=[]/\∃ v,(results fn a'.tmps).run e.P w'=.ok v w'/\gr g a pk k (.returned v) w':=by
   intro hq;obtain ⟨z,v,s2,H2,F2,e1,e2,e3,e4,y,e5,e6⟩:=sO hX' rfl hq;refine ⟨e2.df.1,z,e1,.inl ⟨z,s,bJ rs y,_,γ,F,rfl,hk y e5,?_,IZ hX e2.fr e2.mem.agree⟩⟩;have:=cZ bK e3
   rw [e6] at this;exact RS hs this
  cases ex with
  | normal=>exact fin hq
  | ret=>exact fin hq
  | _=>exact hq.elim
theorem Jd {e:En} (he:e.ok) (hm:e.P.follows .mixedOrders=true) {f:Nat} {fn:Func} (hf:e.P.funcs[f]? = some fn) (hname:(fn.name == "runtime.NumGoroutine")=false) (hb:fn.body.isSome=true) {an:An} {ps rs:List U} {pre:Fl ps->Prop} {Fn:Fl ps->Fl rs}
  (hlen:Nat.ble ps.length fn.ntmps=true) (hc:eQ fn.ntmps (fn.body.getD .skip)=true) (law:∀ x,pre x->∀ KK:Fl rs->Prop,KK (Fn x)->bq e fn an ps rs x KK):Cont e.P f (Ck ps rs pre Fn):=by
 have h:=uR he hm hf hname hb (rs:=rs) (Φ:=fun x KK=>pre x/\KK=fun y=>y=Fn x) hlen hc (fun x KK ⟨h1,h2⟩=>law x h1 KK (by rw [h2]))
 refine ⟨h.run,fun pk s ops k k' hk hcc=>?_,fun g pk s a w H γ F ops k hX hops hcc=>h.call g pk s a w H γ F ops k hX hops ?_⟩
 ·unfold Ck at hcc ⊢;split at hcc
  ·exact ⟨hcc.1,hk _ _ (Ext.refl s) hcc.2⟩
  ·exact hcc.elim
 ·unfold Ck at hcc;unfold uV;split at hcc
  ·exact ⟨_,⟨hcc.1,rfl⟩,fun y hy=>by rw [hy]; exact hcc.2⟩
  ·exact hcc.elim
end
end Go.Am
end

section
namespace Go.Am
theorem bf {p:Prop} [d:Decidable p] {b:Bool} (h:dand p b=true):p/\b=true:=by
 unfold dand at h;split at h
 ·rename_i hp; exact ⟨hp,h⟩
 ·cases h
section
variable {kb:At->Bool} {k:At->Prop} (hk:∀ v,kb v=true->k v)
include hk
theorem Mo {c x y:At} (h:LC c x y kb=true):rk c x y k:=by
 unfold LC at h; unfold rk;split at h
 ·split at h
  ·rename_i e; rw [if_pos e]; exact hk _ h
  ·rename_i e; rw [if_neg e]; exact hk _ h
 ·cases h
omit hk in
theorem Oh {op:BinOp} {κ:IntKind} {a b:Int} {kb:C->Bool} {k:C->Prop} (hk:∀ v,kb v=true->k v) (h:Qf op κ a b kb=true):Ep op κ a b k:=by
 unfold Qf at h; unfold Ep;cases op <;> first | exact hk _ h | exact ⟨(bf h).1,hk _ (bf h).2⟩
omit hk in
theorem Mq {op:BinOp} {x y:C} {kb:C->Bool} {k:C->Prop} (hk:∀ v,kb v=true->k v) (h:Lf op x y kb=true):Dg op x y k:=by
 unfold Lf at h; unfold Dg;split at h
 ·cases op <;> first | exact hk _ h | exact ⟨(bf h).1,hk _ (bf h).2⟩ | (cases h; done)
 ·split at h
  ·split at h
   ·rename_i hc; rw [if_pos hc]; exact Oh hk h
   ·cases h
  ·cases h
theorem OZ {P:Program} {op:BinOp} {t:TypeId} {x y:At} (h:Q7 P op t x y kb=true):C7 P op t x y k:=by
 unfold Q7 at h; unfold C7
 (repeat' split at h) <;> first | (cases h; done) | exact hk _ h | exact Mq (fun _=>hk _) h
theorem QL {op:UnOp} {x:At} (h:unB op x kb=true):unT op x k:=by
 unfold unB at h; unfold unT;split at h
 ·exact hk _ h
 ·split at h
  ·exact hk _ h
  ·cases h
 ·split at h
  ·exact hk _ h
  ·cases h
 ·cases h
theorem A3 {x:At} {i:Nat} (h:tA x i kb=true):gN x i k:=by
 unfold tA at h; unfold gN
 (repeat' split at h) <;> first | (cases h; done) | exact hk _ h
omit hk in
theorem Nz {gd:Option (Nat×Bool)} {n:Nat} {q:Prop} (h:q):gift gd n q:=by
 unfold gift;split
 ·exact fun _=>h
 ·exact h
omit hk in
theorem O7 {gd:Option (Nat×Bool)} {m:List (Nm×Nat×Rt)} {x:At} {kb:Nat->Bool} {k:Nat->Prop} (hk:∀ v,kb v=true->k v) (h:QR gd m x kb=true):C5 gd m x k:=by
 unfold QR at h; unfold C5
 (repeat' split at h) <;> first | (cases h; done) | exact hk _ h | exact Nz (hk _ h)
theorem IT {x i:At} (h:DY x i kb=true):lN x i k:=by
 unfold DY at h; unfold lN
 (repeat' split at h) <;> first | (cases h; done) | exact ⟨(bf h).1,hk _ (bf h).2⟩
omit hk in
theorem mP {x:Option At} {d:Nat} {kb:Nat->Bool} {k:Nat->Prop} (hk:∀ v,kb v=true->k v) (h:lw x d kb=true):dZ x d k:=by
 unfold lw at h; unfold dZ
 (repeat' split at h) <;> first | (cases h; done) | exact hk _ h | exact ⟨(bf h).1,hk _ (bf h).2⟩
theorem IY {P:Program} {t:TypeId} {x:At} {lo hi:Option At} (h:D4 P t x lo hi kb=true):lQ P t x lo hi k:=by
 unfold D4 at h; unfold lQ
 (repeat' split at h) <;> first | (cases h; done) | exact mP (fun _=>mP fun _ h=>⟨(bf h).1,hk _ (bf h).2⟩) h | exact mP (fun _=>mP fun _ h=>⟨(bf h).1.1,(bf h).1.2,hk _ (bf h).2⟩) h
theorem wh {P:Program} {m:List (Nm×Nat×Rt)} {t:TypeId} {x:At} {i:Nat} (h:nS P m t x i kb=true):dL P m t x i k:=by
 unfold nS at h; unfold dL
 (repeat' split at h) <;> first | (cases h; done) | exact hk _ h
theorem wx {P:Program} {m:List (Nm×Nat×Rt)} {t:TypeId} {x i:At} (h:ny P m t x i kb=true):dH P m t x i k:=by
 unfold ny at h; unfold dH
 (repeat' split at h) <;> first | (cases h; done) | exact ⟨(bf h).1,hk _ (bf h).2⟩
theorem Dh {P:Program} {m:List (Nm×Nat×Rt)} {t:TypeId} {x:At} (h:FSx P m t x kb=true):jH P m t x k:=by
 unfold FSx at h; unfold jH
 (repeat' split at h) <;> first | (cases h; done) | exact hk _ h | exact ⟨(bf h).1,hk _ (bf h).2⟩
theorem Jq {P:Program} {t:TypeId} {x:At} {i:Nat} (h:Fv P t x i kb=true):lV P t x i k:=by
 unfold Fv at h; unfold lV
 (repeat' split at h) <;> first | (cases h; done) | exact hk _ h
theorem zx {x:At} (h:qt x kb=true):fg x k:=by
 unfold qt at h; unfold fg
 (repeat' split at h) <;> first | (cases h; done) | exact hk _ h
theorem IN {P:Program} {t:TypeId} {ps:List (Nat×At)} (h:DD P t ps kb=true):mv P t ps k:=by
 unfold DD at h; unfold mv
 (repeat' split at h) <;> first | (cases h; done) | exact hk _ h
theorem LX {P:Program} {su du:TypeId} {x:At} (h:MC P su du x kb=true):ro P su du x k:=by
 unfold MC at h; unfold ro
 (repeat' split at h) <;> first | (cases h; done) | exact hk _ h
theorem Fh {P:Program} {m:List (Nm×Nat×Rt)} {t:TypeId} {x key:At} {ok:Bool} (h:zm P m t x key ok kb=true):jr P m t x key ok k:=by
 unfold zm at h; unfold jr
 (repeat' split at h) <;> first | (cases h; done) | exact hk _ h
end
section
variable {s:St} {kb:St->Bool} {k:St->Prop} (hk:∀ s',kb s'=true->k s')
include hk
theorem JD {P:Program} {t:TypeId} {d:Tmp} (h:Fq P s t d kb=true):mb P s t d k:=by
 unfold Fq at h; unfold mb
 (repeat' split at h) <;> first | (cases h; done) | exact hk _ h
theorem Nv {x:Operand} {d:Tmp} (h:PY s x d kb=true):Bg s x d k:=by
 unfold PY at h; unfold Bg
 (repeat' split at h) <;> first | (cases h; done) | exact hk _ h
theorem uO {P:Program} {E:Ut} {t:TypeId} {n:Nat} {ps:Array (Nat×Operand)} {d:Tmp} (h:lG P E s t n ps d kb=true):cW P E s t n ps d k:=by
 unfold lG at h; unfold cW;dsimp only at h ⊢
 (repeat' split at h) <;> first | (cases h; done) | exact hk _ h
theorem p5 {P:Program} {E:Ut} {sub:List Sh} {t:TypeId} {n:Nat} {ps:Array (Nat×Operand)} {d:Tmp} (h:jV P E sub s t n ps d kb=true):cx P E sub s t n ps d k:=by
 unfold jV at h; unfold cx;dsimp only at h ⊢
 (repeat' split at h) <;> first | (cases h; done) | exact hk _ h
theorem p6 {P:Program} {E:Ut} {sub:List Sh} {t:TypeId} {n:Nat} {ps:Array (Nat×Operand)} {d:Tmp} (h:jT P E sub s t n ps d kb=true):cG P E sub s t n ps d k:=by
 unfold jT at h; unfold cG
 (repeat' split at h) <;> first | (cases h; done) | exact hk _ h
omit hk in
theorem o9 {q:Bool} {p:Prop} (hq:q=true->p):∀ (path:List Step) (sub:List Sh) (u:U) (l:List (El u)),xE sub u l path q=true->lu sub u l path p
 | [],_,_,_,h=>by cases h
 | [_],_,_,_,h=>⟨(bf h).1,hq (bf h).2⟩
 | st::st'::r,sub,u,l,h=>by
  unfold xE at h; unfold lu;split at h
  ·exact ⟨(bf h).1,o9 hq (st'::r) _ _ _ (bf h).2⟩
  ·cases h
omit hk in
theorem uX {q:Bool} {p:Prop} (hq:q=true->p):∀ (a b:List Step),sG a b q=true->kM a b p
 | [],[],h=>hq h
 | a::r,b::t,h=>by
  unfold sG at h; unfold kM;split at h
  ·exact ⟨(bf h).1,uX hq r t (bf h).2⟩
  ·cases h
 | [],_::_,h=>by cases h
 | _::_,[],h=>by cases h
theorem yM {p:Pl} {t:Tt} (h:NE s p t kb=true):vW s p t k:=by
 unfold NE at h; unfold vW
 (repeat' split at h) <;> first | (cases h; done) | exact hk _ h | exact o9 (hk _) _ _ _ _ h | exact o9 (uX (hk _) _ _) _ _ _ _ h
theorem Fe {p:Pl} {ts:List Tt} (h:yN s p ts kb=true):jt s p ts k:=by
 unfold yN at h; unfold jt
 (repeat' split at h) <;> first | (cases h; done) | exact o9 (hk _) _ _ _ _ h
omit hk in
theorem kZ {kb:St->Bool} {k:St->Prop} (hk:∀ s',kb s'=true->k s'):∀ (ts:List Tt) (s:St) (p:Pl),oS s p ts kb=true->fQ s p ts k
 | [],_,_,h=>hk _ h
 | t::ts,s,p,h=>by
  cases t with
  | rf q=>
   simp only [oS] at h; simp only [fQ]
   (repeat' split at h) <;> first | (cases h; done) | exact yM (fun s' h'=>kZ hk ts _ _ h') h
  | any=>cases h
  | d c=>cases c <;> first | (cases h; done) | exact yM (fun s' h'=>kZ hk ts _ _ h') h
  | _=>exact yM (fun s' h'=>kZ hk ts _ _ h') h
theorem JZ {P:Program} {t:TypeId} {x v:At} (h:Ee P s t x v kb=true):lA P s t x v k:=by
 unfold Ee at h; unfold lA
 (repeat' split at h) <;> first | (cases h; done) | exact Fe hk h | exact kZ hk _ _ _ h
theorem Dr {P:Program} {E:Ut} {t u:TypeId} {x y:Operand} {d:Tmp} (h:yj P E s t u x y d kb=true):jE P E s t u x y d k:=by
 unfold yj at h; unfold jE;dsimp only at h ⊢
 (repeat' split at h) <;> first | (cases h; done) | exact ⟨(bf h).1,hk _ (bf h).2⟩
theorem yQ {P:Program} {E:Ut} {t u:TypeId} {x y:Operand} {d:Tmp} (h:qx P E s t u x y d kb=true):gG P E s t u x y d k:=by
 unfold qx at h; unfold gG
 (repeat' split at h) <;> first | (cases h; done) | exact ⟨(bf h).1,hk _ (bf h).2⟩
theorem rY {P:Program} {E:Ut} {own:Bool} {t:TypeId} {d:Tmp} (h:oK P E own s t d kb=true):en P E own s t d k:=by
 unfold oK at h; unfold en
 (repeat' split at h) <;> first | (cases h; done) | exact hk _ h
theorem Dy {P:Program} {t:TypeId} {x key:At} (h:yt P s t x key kb=true):jN P s t x key k:=by
 unfold yt at h; unfold jN
 (repeat' split at h) <;> first | (cases h; done) | exact hk _ h
theorem Ed {P:Program} {t:TypeId} {x key v:At} (h:zD P s t x key v kb=true):jj P s t x key v k:=by
 unfold zD at h; unfold jj
 (repeat' split at h) <;> first | (cases h; done) | exact hk _ h
theorem vU {b:EnB} {pk:PKt} {t:TypeId} {n c:At} {f:Bool} {d:Tmp} (h:nE b s t n c f d kb=true):dE ⟨b.e.P,b.e.E,b.e.cs,b.e.sh,pk⟩ s t n c f d k:=by
 unfold nE at h; unfold dE;dsimp only
 (repeat' split at h) <;> first | (cases h; done) | exact ⟨(bf h).1,hk _ (bf h).2⟩
end
def qj (Cb:CKb) (C:CKt):Prop:=∀ (pk:PKt) (s:St) (ops:List Operand) (kb:St->At->Bool) (k:St->At->Prop),(∀ s' v,kb s' v=true->k s' v)->Cb s ops kb=true->C pk s ops k
def zQ:CBt->CTt->Prop
 | [],[]=>True
 | x::r,y::q=>(x.1=y.1/\qj x.2 y.2)/\zQ r q
 | _,_=>False
theorem zQ.get:∀ {cb:CBt} {cs:CTt},zQ cb cs->∀ {f:Nat} {Cb:CKb},CBt.get cb f=some Cb->∃ C,cs.get f=some C/\qj Cb C
 | [],[],_,f,Cb,h=>by cases h
 | (f0,c)::r,(f1,C)::q,⟨⟨e,h1⟩,h2⟩,f,Cb,h=>by
  dsimp only at e h1;subst e;simp only [CBt.get] at h;simp only [CTt.get];split at h
  ·simp only [SJ] at h; subst h; exact ⟨C,rfl,h1⟩
  ·exact zQ.get h2 h
 | [],_::_,h,_,_,_=>h.elim
 | _::_,[],h,_,_,_=>h.elim
abbrev EnB.w (b:EnB) (pk:PKt):En:=⟨b.e.P,b.e.E,b.e.cs,b.e.sh,pk⟩
section
variable {b:EnB} (hc:zQ b.cs b.e.cs) {pk:PKt}
theorem KB {o:Oper} {s:St} {kb:At->Bool} {k:At->Prop} (hk:∀ v,kb v=true->k v) (h:qB b o s kb=true):qT (b.w pk) o s k:=by
 unfold qB at h; unfold qT;dsimp only [EnB.w];split at h
 ·exact hk _ h
 ·exact hk _ h
 ·exact Mo hk h
 ·exact OZ hk h
 ·exact QL hk h
 ·exact Dh hk h
 ·exact Jq hk h
 ·exact wh hk h
 ·exact wx hk h
 ·split at h
  ·exact IT hk h
  ·cases h
 ·exact A3 hk h
 ·exact LX hk h
 ·exact IY hk h
 ·exact zx hk h
 ·exact IN hk h
 ·split at h
  ·split at h
   ·exact O7 (fun _=>hk _) h
   ·cases h
  ·cases h
 ·cases h
include hc
theorem Rh {o:Oper} {s:St} {kb:St->Bool} {k:St->Prop} (hk:∀ s',kb s'=true->k s') (h:lB b o s kb=true):lT (b.w pk) o s k:=by
 unfold lB at h; unfold lT;have esh:∀ t,Ox (b.w pk) t=Ox b.e t:=fun _=>rfl
 simp only [esh];dsimp only [EnB.w];split at h
 ·exact JZ (fun _=>hk _) h
 ·split at h
  ·exact JD hk h
  ·cases h
 ·split at h
  ·exact Nv hk h
  ·cases h
 ·split at h
  ·split at h
   ·exact uO hk h
   ·split at h
    ·exact p6 hk h
    ·exact p5 hk h
  ·cases h
 ·split at h
  ·split at h
   ·split at h
    ·exact Dr hk h
    ·exact yQ hk h
   ·cases h
  ·exact Dy (fun _=>hk _) h
  ·split at h
   ·rename_i C hg;obtain ⟨C',h1,h2⟩:=hc.get hg;rw [h1];exact h2 _ _ _ _ _ (fun _ _=>hk _) h
   ·cases h
  ·split at h
   ·split at h
    ·rename_i C hg;obtain ⟨C',h1,h2⟩:=hc.get hg;rw [h1];exact h2 _ _ _ _ _ (fun _ _=>hk _) h
    ·cases h
   ·cases h
  ·cases h
 ·split at h
  ·exact rY hk h
  ·split at h
   ·exact rY hk h
   ·cases h
  ·cases h
 ·split at h
  ·cases h
  ·exact Fh (fun _=>hk _) h
 ·split at h
  ·cases h
  ·exact Ed (fun _=>hk _) h
 ·split at h
  ·exact vU hk h
  ·cases h
 ·cases h
theorem Gu {o:Oper} {s:St} {kb:St->Bool} {k:St->Prop} (hk:∀ s',kb s'=true->k s') (h:NY b o s kb=true):sR (b.w pk) o s k:=by
 unfold NY at h; unfold sR;split at h
 ·exact KB (fun _=>hk _) h
 ·exact Rh hc hk h
theorem DZ {o:Oper} {s:St} {kb:St->Bool} {k:St->Prop} (hk:∀ s',kb s'=true->k s') (h:opB b o s kb=true):opT (b.w pk) o s k:=by
 unfold opB at h; unfold opT;have e1:MR (b.w pk) o=MR b.e o:=by unfold MR; rfl
 rw [e1];split at h
 ·cases h
 ·exact Gu hc hk h
theorem GI {all:List Oper} {kb:St->Bool} {k:St->Prop} (hk:∀ s',kb s'=true->k s'):∀ (l:List Oper) (s:St),wc b all l s kb=true->jg (b.w pk) all l s k
 | [],s,h=>hk s h
 | o::r,s,h=>by
  unfold wc at h; unfold jg;have ih:∀ s,wc b all r s kb=true->jg (b.w pk) all r s k:=fun s h=>GI hk r s h
  split at h
  ·exact DZ hc (fun s' h'=>ih s' h') h
  ·split at h
   ·split at h
    ·split at h
     ·split at h
      ·rename_i e; rw [if_pos e]; exact DZ hc (fun s' h'=>ih s' h') h
      ·rename_i e; rw [if_neg e]; exact ih _ h
     ·split at h
      ·rename_i e; rw [if_pos e]; exact ih _ h
      ·rename_i e; rw [if_neg e]; exact DZ hc (fun s' h'=>ih s' h') h
    ·exact ih _ h
    ·cases h
   ·cases h
omit hc in
theorem Pt {ops:List Oper} {o:Oper} {s:St} {fb nb:St->Bool} {f no:St->Prop} (hf:∀ s',fb s'=true->f s') (hn:∀ s',nb s'=true->no s') (h:gB ops o s fb nb=true):gT ops o s f no:=by
 unfold gB at h; unfold gT
 (repeat' split at h) <;> first
  | (cases h; done)
  | exact hf _ h
  | exact hn _ h
  | (rename_i e; rw [if_pos e]; first | exact hf _ h | exact hn _ h)
  | (rename_i e; rw [if_neg e]; first | exact hf _ h | exact hn _ h)
omit hc in
theorem Id {fb:Nat->Bool} {f:Nat->Prop} (hf:∀ i,fb i=true->f i):∀ l:List Nat,Pe fb l=true->Je f l
 | [],_=>trivial
 | [i],h=>hf i h
 | i::j::r,h=>by
  unfold Pe at h;split at h
  ·rename_i hi; exact ⟨hf i hi,Id hf (j::r) h⟩
  ·cases h
theorem Ax {ops:Array Oper} {kb:St->Bool} {k:St->Prop} (hk:∀ s',kb s'=true->k s'):∀ (n:Nat) (listed:Array Bool) (s:St),m9 b ops n listed s kb=true->e9 (b.w pk) ops n listed s k
 | 0,listed,s,h=>by
  unfold m9 at h; unfold e9;split at h
  ·exact hk _ h
  ·cases h
 | n+1,listed,s,h=>by
  unfold m9 at h; unfold e9;have ih:∀ l s,m9 b ops n l s kb=true->e9 (b.w pk) ops n l s k:=fun l s h=>Ax hk n l s h
  split at h
  ·exact hk _ h
  ·split at h
   ·split at h
    ·split at h
     ·exact KB (fun v h'=>ih _ _ h') h
     ·refine Pt (fun s' h'=>?_) (fun s' h'=>ih _ _ h') h;split at h'
      ·exact KB (fun v h2=>ih _ _ h2) h'
      ·cases h'
    ·cases h
   ·refine Id (fun i h'=>?_) _ h;split at h'
    ·exact Pt (fun s' h2=>Gu (pk:=(b.w pk).cl.pk) hc (fun s'' h3=>ih _ _ h3) h2) (fun s' h2=>ih _ _ h2) h'
    ·cases h'
def ij (n:Nat):Code->An
 | .seq a b=>.s (ij n a) (ij n b)
 | .cond _ a b=>.c (ij n a) (ij n b)
 | .block _ a=>.b (ij n a)
 | .loop a=>.un n (ij n a)
 | _=>.l
structure KtOk (Kb:KtB) (K:Kt):Prop where
 n:∀ s,Kb.n s=true->K.n s
 x:∀ i s,Kb.x i s=true->K.x i s
 r:∀ s,Kb.r s=true->K.r s
omit hc in
theorem JU (n:Nat) (c:Code) (s:St):(ij n c).pick s=ij n c:=by cases c <;> rfl
theorem iO (n:Nat):∀ (c:Code) (s:St) {Kb:KtB} {K:Kt},KtOk Kb K->wpB n b c s Kb=true->wpT (b.w pk) (ij n c) c s K
 | .skip,s,Kb,K,hK,h=>hK.n s h
 | .region i ops dr,s,Kb,K,hK,h=>by
  cases dr with
  | false=>exact GI hc hK.n _ s h
  | true=>exact Ax hc hK.n _ _ s h
 | .seq x y,s,Kb,K,hK,h=>by
  show wpT (b.w pk) (ij n x) x s ⟨fun s'=>wpT (b.w pk) ((ij n y).pick s') y s' K,K.x,K.r⟩
  refine iO n x s (Kb:=⟨fun s'=>wpB n b y s' Kb,Kb.x,Kb.r⟩) ⟨fun s' h'=>?_,hK.x,hK.r⟩ h;show wpT (b.w pk) ((ij n y).pick s') y s' K
  rw [JU];exact iO n y s' hK h'
 | .cond o x y,s,Kb,K,hK,h=>by
  cases o with
  | tmp t=>
   unfold wpB at h;show (match gtA s.t t with | .one (.c (.d (.bo c)))=>if c=true then wpT (b.w pk) (ij n x) x s K else wpT (b.w pk) (ij n y) y s K | _=>False)
   split at h
   ·rename_i c e;rw [e];cases c with
    | true=>exact iO n x s hK h
    | false=>exact iO n y s hK h
   ·cases h
  | _=>unfold wpB at h; cases h
 | .block id x,s,Kb,K,hK,h=>by
  refine iO n x s (Kb:=⟨Kb.n,fun i s'=>match Nat.beq i id with | true=>Kb.n s' | false=>Kb.x i s',Kb.r⟩) ⟨hK.n,fun i s' h'=>?_,hK.r⟩ h;dsimp only at h' ⊢;split at h'
  ·rename_i e; rw [e]; exact hK.n _ h'
  ·rename_i e; rw [e]; exact hK.x _ _ h'
 | .loop x,s,Kb,K,hK,h=>by
  show m8 (fun R s'=>wpT (b.w pk) (ij n x) x s' ⟨R,K.x,K.r⟩) n s
  have key:∀ m s,Fk (fun R s'=>wpB n b x s' ⟨R,Kb.x,Kb.r⟩) m s=true->m8 (fun R s'=>wpT (b.w pk) (ij n x) x s' ⟨R,K.x,K.r⟩) m s:=by
   intro m;induction m with
   | zero=>intro s h; cases h
   | succ m ih=>intro s h; exact iO n x s (Kb:=⟨_,Kb.x,Kb.r⟩) ⟨fun s' h'=>ih s' h',hK.x,hK.r⟩ h
  exact key n s h
 | .exit i,s,Kb,K,hK,h=>hK.x i s h
 | .ret,s,Kb,K,hK,h=>hK.r s h
 | .rangeFunc ..,_,_,_,_,h=>by unfold wpB at h; cases h
 | .scope ..,_,_,_,_,h=>by unfold wpB at h; cases h
 | .label ..,_,_,_,_,h=>by unfold wpB at h; cases h
 | .goto ..,_,_,_,_,h=>by unfold wpB at h; cases h
 | .refuse ..,_,_,_,_,h=>by unfold wpB at h; cases h
end
end Go.Am
end

section
namespace Go.Am
structure NmR (σ:Nm->Nm):Prop where
 inv:∀ n,σ (σ n)=n
 tyd:∀ n,(σ n).tyd=n.tyd
theorem NmR.inj {σ:Nm->Nm} (h:NmR σ) {n n':Nm} (e:σ n=σ n'):n=n':=by rw [<- h.inv n,<- h.inv n',e]
def Pl.rn (σ:Nm->Nm) (p:Pl):Pl:=⟨σ p.root,p.off,p.path⟩
def T.rn (σ:Nm->Nm):T->T
 | .pl p=>.pl (p.rn σ)
 | .rf p=>.rf (p.rn σ)
 | t=>t
def AV1.rn (σ:Nm->Nm):AV1->AV1
 | .c t=>.c (t.rn σ)
 | .agg ts=>.agg (ts.map (T.rn σ))
def AV.rn (σ:Nm->Nm):AV->AV
 | .one x=>.one (x.rn σ)
 | .tup xs=>.tup (xs.map (AV1.rn σ))
 | .any=>.any
def Root.rn (σ:Nm->Nm) (r:Root):Root:=⟨r.blk,r.cells.map (T.rn σ)⟩
def rnM (σ:Nm->Nm) (m:Mm):Mm:=m.map fun x=>(σ x.1,x.2.rn σ)
def S.rn (σ:Nm->Nm) (s:S):S:=⟨s.t.map fun x=>(x.1,x.2.rn σ),rnM σ s.m⟩
def Tt.rn (σ:Nm->Nm):Tt->Tt
 | .pl p=>.pl (p.rn σ)
 | .rf p=>.rf (p.rn σ)
 | t=>t
def A1.rn (σ:Nm->Nm):A1->A1
 | .c t=>.c (t.rn σ)
 | .agg ts=>.agg (ts.map (Tt.rn σ))
def At.rn (σ:Nm->Nm):At->At
 | .one x=>.one (x.rn σ)
 | .tup xs=>.tup (xs.map (A1.rn σ))
 | .any=>.any
def Rt.rn (σ:Nm->Nm) (r:Rt):Rt:=⟨r.blk,r.cells.map (Tt.rn σ),r.hole⟩
def St.rn (σ:Nm->Nm) (s:St):St:=⟨s.nx,s.t.map fun x=>(x.1,x.2.1,x.2.2.rn σ),s.m.map fun x=>(σ x.1,x.2.1,x.2.2.rn σ)⟩
section
variable {σ:Nm->Nm}
theorem Tt.rn_toT:∀ t:Tt,(t.rn σ).toT=t.toT.rn σ
 | .d _=>rfl
 | .nil=>rfl
 | .ow _ _ _=>rfl
 | .mp _ _ _=>rfl
 | .mo _ _ _ _=>rfl
 | .el _ _=>rfl
 | .ga _ _ _=>rfl
 | .pl _=>rfl
 | .rf _=>rfl
 | .any=>rfl
theorem KL (ts:List Tt):(ts.map (Tt.rn σ)).map Tt.toT=(ts.map Tt.toT).map (T.rn σ):=by
 rw [SX,SX];exact S1 fun t _=>Tt.rn_toT t
theorem A1.rn_toV:∀ x:A1,(x.rn σ).toV=x.toV.rn σ
 | .c t=>congrArg AV1.c t.rn_toT
 | .agg ts=>congrArg AV1.agg (KL ts)
theorem At.rn_toV:∀ x:At,(x.rn σ).toV=x.toV.rn σ
 | .one x=>congrArg AV.one x.rn_toV
 | .tup xs=>congrArg AV.tup (by
  rw [SX,SX];exact S1 fun t _=>A1.rn_toV t)
 | .any=>rfl
theorem L5 (ts:List T) (h:Option (Nat×Step×List Step)):holed (ts.map (T.rn σ)) h=(holed ts h).map (T.rn σ):=by
 cases h with
 | none=>rfl
 | some x=>
  obtain ⟨off,st,q⟩:=x;simp only [holed,SM];cases ts[off]? with
  | none=>rfl
  | some t=>
   cases t with
   | ow sub l=>simp only [Option.map_some,T.rn,Tv]
   | _=>rfl
theorem Rt.rn_toR (r:Rt):(r.rn σ).toR=r.toR.rn σ:=by
 unfold Rt.toR Rt.rn Root.rn;dsimp only;rw [KL,L5]
theorem St.rn_toS (s:St):(s.rn σ).toS=s.toS.rn σ:=by
 unfold St.toS St.rn S.rn rnM;simp only [SX]
 congr 1
 ·exact S1 fun x _=>by simp only [Function.comp,At.rn_toV]
 ·exact S1 fun x _=>by simp only [Function.comp,Rt.rn_toR]
theorem Om (t:List (Nat×AV)) (i:Nat):aE (t.map fun x=>(x.1,x.2.rn σ)) i=(aE t i).rn σ:=by
 induction t with
 | nil=>rfl
 | cons x r ih=>
  obtain ⟨k,v⟩:=x;simp only [List.map_cons,aE];split
  ·rfl
  ·exact ih
theorem zI {cells:List T} {o:Nat} {sub:List Sh} {l:List (List D)}:(cells.map (T.rn σ))[o]? = some (.ow sub l) ↔ cells[o]? = some (.ow sub l):=by
 rw [SM];cases cells[o]? with
 | none=>simp
 | some t=>cases t <;> simp [T.rn]
variable (hσ:NmR σ)
include hσ
theorem GR (m:Mm) (n:Nm):aa (rnM σ m) (σ n)=(aa m n).map (Root.rn σ):=by
 induction m with
 | nil=>rfl
 | cons x r ih=>
  obtain ⟨k,v⟩:=x;simp only [rnM,List.map_cons,aa];by_cases hk:k=n
  ·subst hk; rw [if_pos rfl,if_pos rfl]; rfl
  ·rw [if_neg hk,if_neg (fun e=>hk (hσ.inj e))]; exact ih
theorem NO {m:Mm} {p:Pl} (h:bw m p):bw (rnM σ m) (p.rn σ):=by
 unfold bw at h ⊢;simp only [Pl.rn,GR hσ];cases hr:aa m p.root with
 | none=>simp [hr] at h
 | some r=>
  simp only [hr,Option.map_some] at h ⊢;split
  ·rename_i hp; simp only [hp] at h; simpa [Root.rn] using h
  ·rename_i st q hp;simp only [hp] at h;split at h
   ·rename_i sub l hc;rw [show (Root.rn σ r).cells[p.off]? = some (.ow sub l) from zI.2 hc];exact h
   ·exact h.elim
theorem Nj {m:Mm} {p:Pl} (h:fx m p):fx (rnM σ m) (p.rn σ):=by
 unfold fx at h ⊢;simp only [Pl.rn,GR hσ];cases hr:aa m p.root with
 | none=>simp [hr] at h
 | some r=>
  simp only [hr,Option.map_some] at h ⊢;split at h
  ·rename_i sub l hc hp;rw [show (Root.rn σ r).cells[p.off]? = some (.ow sub l) from zI.2 hc,hp];trivial
  ·rename_i l hc hp;rw [show (Root.rn σ r).cells[p.off]? = some (.mp l) from by show (r.cells.map (T.rn σ))[p.off]? = _; rw [SM,hc]; rfl,hp];trivial
  ·rename_i sub l st q hc hp;rw [show (Root.rn σ r).cells[p.off]? = some (.ow sub l) from zI.2 hc];simpa [hp] using h
  ·exact h.elim
variable {w:World} {H:FH} {γ:Gam} {m:Mm} {F:Nm->Fp}
abbrev rnG (σ:Nm->Nm) (γ:Gam):Gam:=fun n=>γ (σ n)
theorem QW (p:Pl):plA w (rnG σ γ) (p.rn σ)=plA w γ p:=by
 unfold plA;simp only [Pl.rn,rnG,hσ.inv]
theorem Q3 (p:Pl):plV w (rnG σ γ) (p.rn σ)=plV w γ p:=by
 unfold plV;simp only [Pl.rn,rnG,hσ.inv]
theorem LB {t:T} {f:Fp} {y:Value} (h:TR w H γ m t f y):TR w H (rnG σ γ) (rnM σ m) (t.rn σ) f y:=by
 cases t with
 | pl p=>
  obtain ⟨h1,h2,a,h3,h4⟩:=h;exact ⟨h1,NO hσ h2,a,(QW hσ p).trans h3,h4⟩
 | rf p=>
  obtain ⟨h1,h2,h3⟩:=h;exact ⟨h1,Nj hσ h2,(Q3 hσ p).trans h3⟩
 | _=>exact h
theorem Pq {ts:List T} {f:Fp} {vs:List Value} (h:Ts (TR w H γ m) ts f vs):Ts (TR w H (rnG σ γ) (rnM σ m)) (ts.map (T.rn σ)) f vs:=by
 unfold Ts at h ⊢;rw [List.length_map];have key:∀ (ss:List Unit) (xs:List T) (f:Fp) (vs:List Value),Cs (fun _ t=>TR w H γ m t) ss xs f vs->Cs (fun _ t=>TR w H (rnG σ γ) (rnM σ m) t) ss (xs.map (T.rn σ)) f vs:=by
  intro ss xs;induction xs generalizing ss with
  | nil=>intro f vs h; cases ss <;> exact h
  | cons x xs ih=>
   intro f vs h;cases ss with
   | nil=>exact h.elim
   | cons u ss=>
    obtain ⟨v,r,f1,f2,hv,hf,k1,k2⟩:=h;exact ⟨v,r,f1,f2,hv,hf,LB hσ k1,ih ss f2 r k2⟩
 exact key _ _ _ _ h
theorem L9 {n:Nm} {r:Root} {f:Fp} (h:aV w H γ m n r f):aV w H (rnG σ γ) (rnM σ m) (σ n) (r.rn σ) f:=by
 unfold aV at h ⊢;by_cases hb:r.blk=true
 ·rw [if_pos hb] at h;rw [if_pos (show (r.rn σ).blk=true from hb)];obtain ⟨b,cs,ty,fz,g,h1,h2,h3,h4,h5,h6⟩:=h;exact ⟨b,cs,ty,fz,g,by rw [rnG,hσ.inv]; exact h1,h2,⟨h3.1,fun t ht=>h3.2 t (by rw [<- hσ.tyd n]; exact ht)⟩,by simpa [Root.rn] using h4,Pq hσ h5,h6⟩
 ·rw [if_neg hb] at h;rw [if_neg (show ¬ (r.rn σ).blk=true from hb)];obtain ⟨v,t,h1,h2,h3⟩:=h;exact ⟨v,t.rn σ,by rw [rnG,hσ.inv]; exact h1,by simp [Root.rn,h2],LB hσ h3⟩
theorem yh (m:Mm):tot (fun n=>F (σ n)) (rnM σ m)=tot F m:=by
 funext b
 induction m with
 | nil=>rfl
 | cons x r ih=>
  simp only [rnM,List.map_cons,tot,hσ.inv] at ih ⊢;rw [ih]
theorem Qv (h:Mem w H γ m F):Mem w H (rnG σ γ) (rnM σ m) (fun n=>F (σ n)):=by
 refine ⟨h.agree,fun x hx=>?_,?_,fun b=>by rw [yh hσ]; exact h.le1 b,fun b hb=>h.lt b (by rwa [yh hσ] at hb),fun b hb=>h.nofz b (by rwa [yh hσ] at hb)⟩
 ·simp only [rnM,S9] at hx;obtain ⟨y,hy,rfl⟩:=hx;dsimp only;rw [hσ.inv];exact L9 hσ (h.roots y hy)
 ·have:(rnM σ m).map (·.1)=(m.map (·.1)).map σ:=by simp only [rnM,SX]; rfl
  rw [this,Uh,List.pairwise_map];exact (Uh.1 h.keys).imp (fun hne e=>hne (hσ.inj e))
theorem LY {x:AV1} {y:Value} (h:AR1 w H γ m x y):AR1 w H (rnG σ γ) (rnM σ m) (x.rn σ) y:=by
 cases x with
 | c t=>exact LB hσ h
 | agg ts=>
  obtain ⟨cs,h1,h2,h3⟩:=h;exact ⟨cs,h1,by simpa using h2,Pq hσ h3⟩
theorem LP:∀ {xs:List AV1} {ys:List Value},ARs w H γ m xs ys->ARs w H (rnG σ γ) (rnM σ m) (xs.map (AV1.rn σ)) ys
 | [],[],_=>trivial
 | _::_,_::_,h=>⟨LY hσ h.1,LP h.2⟩
 | [],_::_,h=>h.elim
 | _::_,[],h=>h.elim
theorem PJ {x:AV} {y:Value} (h:AR w H γ m x y):AR w H (rnG σ γ) (rnM σ m) (x.rn σ) y:=by
 cases x with
 | one x=>exact LY hσ h
 | tup xs=>obtain ⟨l,h1,h2⟩:=h; exact ⟨l,h1,LP hσ h2⟩
 | any=>trivial
theorem G2 {g:G} {s:St} {a a':Act} {ds:List Deferred} {out:Nat->Option Nat} (h:RX g s.toS a w H γ F) (h1:a'.tmps=a.tmps) (h2:a'.defers=ds) (ho:∀ j b,out j=some b->γ (σ (.out j))=.blk b) :
  RX ⟨g.nt,g.w0,g.H0,g.own0,out,g.ex,ds⟩ (s.rn σ).toS a' w H (rnG σ γ) (fun n=>F (σ n)):=by
 rw [St.rn_toS];refine ⟨Qv hσ h.mem,?_,by rw [h1]; exact h.nt,⟨h2,fun j b hb=>ho j b hb,h.df.2.2⟩,fun i=>?_⟩
 ·show Fr g.w0 g.H0 g.own0 w H (tot (fun n=>F (σ n)) (rnM σ s.toS.m))
  rw [yh hσ]; exact h.fr
 ·show AR w H (rnG σ γ) (rnM σ s.toS.m) (aE (s.toS.t.map fun x=>(x.1,x.2.rn σ)) i) _
  rw [Om];have e:G.tv ⟨g.nt,g.w0,g.H0,g.own0,out,g.ex,ds⟩ a' i=g.tv a i:=by
   unfold G.tv;rw [h1]
  rw [e];exact PJ hσ (h.t i)
end
def sr (i:Nat):Nat:=i % 1000000 / 1000
def zq (k i:Nat):Nat:=match Nat.beq (sr i) 0 with
 | true=>i+k*1000
 | false=>match Nat.beq (sr i) k with
  | true=>i-k*1000
  | false=>i
def yw (k:Nat):Nm->Nm
 | .loc i=>.loc (zq k i)
 | .gh i=>.gh (zq k i)
 | .out i=>.out i
theorem pL {k:Nat} (hk:1<=k/\k < 1000) (i:Nat):zq k (zq k i)=i/\zq k i / 1000000=i / 1000000:=by
 unfold zq;cases h0:Nat.beq (sr i) 0 with
 | true=>
  have h:=SO h0
  unfold sr at h;dsimp only;have h1:sr (i+k*1000)=k:=by unfold sr; omega
  rw [h1];have h2:Nat.beq k 0=false:=by
   cases hb:Nat.beq k 0 with
   | false=>rfl
   | true=>have:=SO hb; omega
  rw [h2,Uy];dsimp only;omega
 | false=>
  dsimp only;cases hk2:Nat.beq (sr i) k with
  | true=>
   have h:=SO hk2
   unfold sr at h;dsimp only;have h1:sr (i-k*1000)=0:=by unfold sr; omega
   rw [h1,Uy];dsimp only;omega
  | false=>
   dsimp only;rw [h0,hk2];exact ⟨rfl,rfl⟩
theorem OJ {k:Nat} (hk:1<=k/\k < 1000) (i:Nat):zq k i < 1000000 ↔ i < 1000000:=by
 have:=(pL hk i).2
 omega
theorem Gw {k:Nat} (hk:1<=k/\k < 1000):NmR (yw k):=by
 refine ⟨fun n=>?_,fun n=>?_⟩
 ·cases n with
  | loc i=>exact congrArg Nm.loc (pL hk i).1
  | gh i=>exact congrArg Nm.gh (pL hk i).1
  | out i=>rfl
 ·cases n with
  | loc i=>
   show (if zq k i < 1000000 then none else some (zq k i / 1000000))=(if i < 1000000 then none else some (i / 1000000))
   have h1:=OJ hk i
   rw [(pL hk i).2];by_cases h:i < 1000000
   ·rw [if_pos (h1.2 h),if_pos h]
   ·rw [if_neg (fun e=>h (h1.1 e)),if_neg h]
  | gh i=>rfl
  | out i=>rfl
def Ry (k:Nat) (n:Nm):Bool:=match n with
 | .loc i=>Nat.beq (sr i) k
 | .gh i=>Nat.beq (sr i) k
 | .out _=>false
def PG:Nat->Nat->List (Nm×Nat×Rt)->Nat
 | 0,k,_=>k
 | n+1,k,m=>match m.any (fun x=>Ry k x.1) with
  | true=>PG n (k+1) m
  | false=>k
def apK (s:St):Option Nat:=match PG 900 1 s.m with
 | k=>match Nat.ble 1 k&&Nat.blt k 1000 with
  | true=>some k
  | false=>none
def apT (C:CKt):CKt:=fun pk s ops k=>match apK s with
 | some j=>C (fun v s'=>pk v (s'.rn (yw j))) (s.rn (yw j)) ops (fun s' v=>k (s'.rn (yw j)) (v.rn (yw j)))
 | none=>False
def apB (C:CKb):CKb:=fun s ops k=>match apK s with
 | some j=>C (s.rn (yw j)) ops (fun s' v=>k (s'.rn (yw j)) (v.rn (yw j)))
 | none=>false
theorem Pl.rn_rn {σ:Nm->Nm} (hσ:NmR σ) (p:Pl):(p.rn σ).rn σ=p:=by simp [Pl.rn,hσ.inv]
theorem Tt.rn_rn {σ:Nm->Nm} (hσ:NmR σ) (t:Tt):(t.rn σ).rn σ=t:=by cases t <;> simp [Tt.rn,Pl.rn_rn hσ]
theorem A1.rn_rn {σ:Nm->Nm} (hσ:NmR σ) (x:A1):(x.rn σ).rn σ=x:=by
 cases x with
 | c t=>simp [A1.rn,Tt.rn_rn hσ]
 | agg ts=>simp [A1.rn,Function.comp_def,Tt.rn_rn hσ]
theorem At.rn_rn {σ:Nm->Nm} (hσ:NmR σ) (x:At):(x.rn σ).rn σ=x:=by
 cases x with
 | one t=>simp [At.rn,A1.rn_rn hσ]
 | tup ts=>simp [At.rn,Function.comp_def,A1.rn_rn hσ]
 | any=>rfl
theorem Rt.rn_rn {σ:Nm->Nm} (hσ:NmR σ) (r:Rt):(r.rn σ).rn σ=r:=by
 cases r; simp [Rt.rn,Function.comp_def,Tt.rn_rn hσ]
theorem CZ {σ:Nm->Nm} (t:List (Nat×Nat×At)) (k:Nat):bF (t.map fun x=>(x.1,x.2.1,x.2.2.rn σ)) k=(bF t k).map fun x=>(x.1,x.2.rn σ):=by
 induction t with
 | nil=>rfl
 | cons x r ih=>
  obtain ⟨i,j,v⟩:=x;simp only [List.map_cons,bF];split
  ·rfl
  ·exact ih
theorem Bu {σ:Nm->Nm} (hσ:NmR σ) (m:List (Nm×Nat×Rt)) (n:Nm):bV (m.map fun x=>(σ x.1,x.2.1,x.2.2.rn σ)) (σ n)=(bV m n).map fun x=>(x.1,x.2.rn σ):=by
 induction m with
 | nil=>rfl
 | cons x r ih=>
  obtain ⟨i,j,v⟩:=x;simp only [List.map_cons,bV];by_cases h:i=n
  ·subst h; simp
  ·rw [if_neg (fun e=>h (hσ.inj e)),if_neg h]; exact ih
theorem Ext.rn {σ:Nm->Nm} (hσ:NmR σ) {s s':St} (h:Ext (s.rn σ) s'):Ext s (s'.rn σ):=by
 refine ⟨h.nx,fun k j v hk hj=>?_,fun n j r hn hj=>?_⟩
 ·rw [show (s'.rn σ).t=s'.t.map fun x=>(x.1,x.2.1,x.2.2.rn σ) from rfl,CZ] at hk;cases h1:bF s'.t k with
  | none=>rw [h1] at hk; cases hk
  | some x=>
   rw [h1] at hk;obtain ⟨j',v'⟩:=x;simp only [Option.map_some,SJ,Prod.mk.injEq] at hk;obtain ⟨rfl,rfl⟩:=hk;have h2:=h.t k j' v' h1 hj
   rw [show (s.rn σ).t=s.t.map fun x=>(x.1,x.2.1,x.2.2.rn σ) from rfl,CZ] at h2;cases h3:bF s.t k with
   | none=>rw [h3] at h2; cases h2
   | some y=>
    rw [h3] at h2;obtain ⟨j2,v2⟩:=y;simp only [Option.map_some,SJ,Prod.mk.injEq] at h2;rw [<- h2.1,<- h2.2,At.rn_rn hσ]
 ·rw [<- hσ.inv n,show (s'.rn σ).m=s'.m.map fun x=>(σ x.1,x.2.1,x.2.2.rn σ) from rfl,Bu hσ] at hn;cases h1:bV s'.m (σ n) with
  | none=>rw [h1] at hn; cases hn
  | some x=>
   rw [h1] at hn;obtain ⟨j',v'⟩:=x;simp only [Option.map_some,SJ,Prod.mk.injEq] at hn;obtain ⟨rfl,rfl⟩:=hn;have h2:=h.m (σ n) j' v' h1 hj
   rw [show (s.rn σ).m=s.m.map fun x=>(σ x.1,x.2.1,x.2.2.rn σ) from rfl,Bu hσ] at h2;cases h3:bV s.m n with
   | none=>rw [h3] at h2; cases h2
   | some y=>
    rw [h3] at h2;obtain ⟨j2,v2⟩:=y;simp only [Option.map_some,SJ,Prod.mk.injEq] at h2;rw [<- h2.1,<- h2.2,Rt.rn_rn hσ]
theorem Lz {s:St} {j:Nat} (h:apK s=some j):1<=j/\j < 1000:=by
 unfold apK at h;dsimp only at h;split at h
 ·rename_i hb;obtain rfl:=Option.some.inj h;simp only [SL] at hb;exact ⟨SP hb.1,by simpa using hb.2⟩
 ·cases h
theorem jk {P:Program} {f:Nat} {C:CKt} (h:Cont P f C):Cont P f (apT C):=by
 refine ⟨h.run,fun pk s ops k k' hk hc=>?_,fun g pk s a w H γ F ops k hX hops hc=>?_⟩
 ·unfold apT at hc ⊢;split at hc
  ·rename_i j hj;have hσ:=Gw (Lz hj)
   exact h.ext _ _ _ _ _ (fun s' v he=>hk _ _ (he.rn hσ)) hc
  ·exact hc.elim
 ·unfold apT at hc;split at hc
  ·rename_i j hj;have hσ:=Gw (Lz hj)
   have hX2:=G2 hσ (out:=g.out) (ds:=g.dfs) hX rfl hX.df.1 (fun i b hb=>hX.df.2.1 i b hb)
   refine (h.call _ _ _ a w H _ _ ops _ hX2 hops hc).mono ?_;rintro e w' (⟨r,s',av,H',γ',F',rfl,k1,k2,k3⟩ | ⟨v,s',rfl,k1,H',γ',F',k2⟩)
   ·refine .inl ⟨r,_,_,H',_,_,rfl,k1,?_,G2 hσ (out:=g.out) (ds:=g.dfs) k3 rfl k3.df.1 (fun i b hb=>k3.df.2.1 i b hb)⟩;rw [At.rn_toV];show AR w' H' _ (s'.rn (yw j)).toS.m _ _
    rw [St.rn_toS];exact PJ hσ k2
   ·exact .inr ⟨v,_,rfl,k1,H',_,_,G2 hσ (out:=g.out) (ds:=g.dfs) k2 rfl k2.df.1 (fun i b hb=>k2.df.2.1 i b hb)⟩
  ·exact hc.elim
end Go.Am
end

section
namespace Go.Am
open Go Go.Proofs
theorem Ek {P:Program} {s:St} {kb:At->Bool} {k:At->Prop} (hk:∀ v,kb v=true->k v) (r:ResultVar) (h:zY P s kb r=true):jw P s k r:=by
 unfold zY at h; unfold jw
 (repeat' split at h) <;> first | (cases h; done) | exact hk _ h | exact Dh hk h
theorem mm {P:Program} {s:St}:∀ (rs:List ResultVar) {kb:List At->Bool} {k:List At->Prop},(∀ v,kb v=true->k v)->oG P s rs kb=true->cD P s rs k
 | [],_,_,hk,h=>hk _ h
 | r::rs,kb,k,hk,h=>Ek (k:=fun v=>cD P s rs fun vs=>k (v::vs)) (fun v h'=>mm rs (kb:=fun vs=>kb (v::vs)) (fun vs h2=>hk _ h2) h') r h
theorem zv {P:Program} {rs:List ResultVar} {us:List U} {KKb:Fl us->Bool} {KK:Fl us->Prop} (hk:∀ x,KKb x=true->KK x) {s:St} (h:BH P rs us KKb s=true):nJ P rs us KK s:=by
 unfold BH at h; unfold nJ;refine mm rs (fun vs h'=>?_) h;split at h'
 ·exact hk _ h'
 ·cases h'
theorem Kw {P:Program} {res:List ResultVar} {sh:List Sh} {u:U} {rs:List U} {KKb:Fl rs×El u->Bool} {KK:Fl rs×El u->Prop} (hk:∀ x,KKb x=true->KK x) {s:St} (h:uB P res sh u rs KKb s=true):jb P res sh u rs KK s:=by
 unfold uB at h; unfold jb;dsimp only at h ⊢;refine mm res (fun vs h'=>?_) h
 (repeat' split at h') <;> first | (cases h'; done) | exact hk _ h'
theorem CM {res:List ResultVar} {kb:St->At->Bool} {k:St->At->Prop} (hk:∀ s v,kb s v=true->k s v) (s:St) (h:Ik res kb s=true):mV res k s:=by
 unfold Ik at h; unfold mV;split at h
 ·exact hk _ _ h
 ·cases h
abbrev anF (n:Nat) (fn:Func):An:=ij n (fn.body.getD .skip)
section
variable {n:Nat} {b:EnB} (hc:zQ b.cs b.e.cs) {fn:Func} {ps rs:List U}
include hc
theorem ve {x:Fl ps} {KKb:Fl rs->Bool} {KK:Fl rs->Prop} (hk:∀ y,KKb y=true->KK y) (h:A4 n b fn ps rs x KKb=true):bq b.e fn (anF n fn) ps rs x KK:=
 iO (pk:=fun _ _=>False) hc n _ _ (K:=⟨nJ b.e.P fn.results.toList rs KK,fun _ _=>False,nJ b.e.P fn.results.toList rs KK⟩) ⟨fun s h=>zv hk h,fun _ _ h=>(by cases h),fun s h=>zv hk h⟩ h
theorem Nf:qj (MM n b fn ps rs) (xc b.e fn (anF n fn) ps rs):=by
 intro pk s ops kb k hk h;unfold MM at h;unfold xc;dsimp only at h ⊢;split at h
 ·rename_i x hx;exact ⟨fun y=>k _ (bJ rs y),ve hc (fun y=>hk _ _) h,fun y hy=>hy⟩
 ·cases h
theorem M0:qj (L1 n b fn ps rs) (uV ps rs fun x KK=>bq b.e fn (anF n fn) ps rs x KK):=by
 intro pk s ops kb k hk h;unfold L1 at h;unfold uV;split at h
 ·exact ⟨fun y=>k _ (bJ rs y),ve hc (fun y=>hk _ _) h,fun y hy=>hy⟩
 ·cases h
theorem OQ:qj (PV n b fn) (qX b.e fn (anF n fn)):=by
 intro pk s ops kb k hk h;unfold PV at h;unfold qX;split at h
 ·exact iO hc n _ _ (K:=⟨mV fn.results.toList k,fun _ _=>False,mV fn.results.toList k⟩) ⟨fun s h=>CM hk s h,fun _ _ h=>(by cases h),fun s h=>CM hk s h⟩ h
 ·cases h
theorem O5 {sh:List Sh} {u:U}:qj (QN n b fn sh u ps rs) (wS b.e fn (anF n fn) sh u ps rs):=by
 intro pk s ops kb k hk h;have key:∀ (Sx:El u->St) (x:El u) (y:Fl ps),wpB n b (fn.body.getD .skip) ⟨1,(0,0,.one (.c (.pl ⟨.out 0,0,[]⟩)))::sq 1 ps y,[(.out 0,0,⟨true,ah sh (flat u x),none⟩)]⟩
   ⟨uB b.e.P fn.results.toList sh u rs (fun z=>kb (Sx z.2) (bJ rs z.1)),fun _ _=>false,uB b.e.P fn.results.toList sh u rs (fun z=>kb (Sx z.2) (bJ rs z.1))⟩=true ->
   ∃ (KK:Fl rs×El u->Prop) (KP:Value->El u->Prop),If b.e fn (anF n fn) sh u ps rs x y KK KP/\(∀ z x',KK (z,x')->k (Sx x') (bJ rs z))/\∀ v x',KP v x'->pk v (Sx x'):=by
  intro Sx x y h;have rr:∀ s,uB b.e.P fn.results.toList sh u rs (fun z=>kb (Sx z.2) (bJ rs z.1)) s=true->jb b.e.P fn.results.toList sh u rs (fun z=>k (Sx z.2) (bJ rs z.1)) s:=fun s h=>Kw (fun z=>hk (Sx z.2) (bJ rs z.1)) h
  refine ⟨fun z=>k (Sx z.2) (bJ rs z.1),fun _ _=>False,?_,fun z x' hz=>hz,fun _ _ h=>h.elim⟩;exact iO (pk:=FL sh u fun _ _=>False) hc n _ _ (K:=⟨jb b.e.P fn.results.toList sh u rs (fun z=>k (Sx z.2) (bJ rs z.1)),fun _ _=>False,jb b.e.P fn.results.toList sh u rs (fun z=>k (Sx z.2) (bJ rs z.1))⟩) ⟨rr,fun _ _ h=>(by cases h),rr⟩ h
 unfold QN at h;unfold wS;dsimp only at h ⊢
 (repeat' split at h) <;> first | (cases h; done) | exact key _ _ _ h
end
theorem RN {Cb:CKb} {C:CKt} (h:qj Cb C):qj (apB Cb) (apT C):=by
 intro pk s ops kb k hk hb;unfold apB at hb;unfold apT;split at hb
 ·exact h _ _ _ _ _ (fun s' v h'=>hk _ _ h') hb
 ·cases hb
theorem yz {ps rs:List U} {pb:Fl ps->Bool} {pre:Fl ps->Prop} {f:Fl ps->Fl rs} (hp:∀ x,pb x=true->pre x):qj (fnB ps rs pb f) (bZ ps rs pre f):=by
 intro pk s ops kb k hk h;unfold fnB at h;unfold bZ;dsimp only at h ⊢;split at h
 ·split at h
  ·rename_i hb; exact ⟨hp _ hb,hk _ _ h⟩
  ·cases h
 ·cases h
theorem Mu {ps rs:List U} {f:Fl ps->Fl rs}:qj (fnB ps rs (fun _=>true) f) (bX ps rs f):=by
 intro pk s ops kb k hk h;unfold fnB at h;unfold bX;dsimp only at h ⊢;split at h
 ·exact hk _ _ h
 ·cases h
theorem PO {tab:List (List UInt8×Nat)} {df:Nat}:qj (swB tab df) (swT tab df):=by
 intro pk s ops kb k hk h;unfold swB at h;unfold swT;dsimp only at h ⊢;split at h
 ·rename_i x hx;have key:∀ (tab:List (List UInt8×Nat)) {K:Nat->Bool} {K':Nat->Prop},(∀ i,K i=true->K' i)->NL x K df tab=true->swP x K' df tab:=by
   intro tab K K' hK;induction tab with
   | nil=>exact hK _
   | cons y r ih=>
    obtain ⟨w0,f⟩:=y;intro h;unfold NL at h;unfold swP;split at h
    ·rename_i e; rw [if_pos e]; exact hK _ h
    ·rename_i e; rw [if_neg (by rw [e]; decide)]; exact ih h
  exact key tab (fun i=>hk _ _) h
 ·cases h
theorem D5 {e:En} (he:e.ok) (hm:e.P.follows .mixedOrders=true) {f:Nat} {fn:Func} (hf:e.P.funcs[f]? = some fn) (hname:(fn.name == "runtime.NumGoroutine")=false) (hb:fn.body.isSome=true) {an:An} {ps rs:List U}
  (hlen:Nat.ble ps.length fn.ntmps=true) (hc:eQ fn.ntmps (fn.body.getD .skip)=true):Cont e.P f (xc e fn an ps rs):=by
 have hb':fn.body=some (fn.body.getD .skip):=by cases h:fn.body with
  | none=>rw [h] at hb; cases hb
  | some c=>rfl
 have hcon:=lS (P:=e.P) hf hname hb' (fun avs K=>∃ (x:Fl ps) (KK:Fl rs->Prop),avs=eM ps x/\bq e fn an ps rs x KK/\∀ y,KK y->K (bJ rs y).toV) (fun avs K ⟨x,_,hx,_⟩=>by rw [hx,cd]; exact SP hlen) (fun g avs K hg ⟨x,KK,hx,h,hk⟩=>by
  subst hx;exact uE he hm hg hc hk h)
 refine ⟨hcon.run,fun pk s ops k k' hk hcc=>?_,fun g pk s a w H γ F1 ops k hX hops hcc=>?_⟩
 ·unfold xc at hcc ⊢;dsimp only at hcc ⊢;split at hcc
  ·obtain ⟨KK,h1,h2⟩:=hcc;exact ⟨KK,h1,fun y hy=>hk _ _ (bG _ _) (h2 y hy)⟩
  ·exact hcc.elim
 ·unfold xc at hcc;dsimp only at hcc;obtain ⟨H1,F2,h1⟩:=bT (ops.map (evA s)) s H F1 hX;generalize aX s (ops.map (evA s))=s1 at hcc h1;split at hcc
  ·rename_i x hx;obtain ⟨KK,hbd,hk⟩:=hcc;obtain ⟨c1,c2,c3⟩:=cr hx;refine Calls.mono (hcon.call g s1.toS a w H1 γ F2 ops (fun s' av=>∃ t v',SEq s' t.toS/\av=v'.toV/\k t v') h1 hops ?_) ?_
   ·unfold lL;dsimp only;rw [dw hops,dy c1];have e:(ops.map fun x=>(ev s1.toS x).map T.canon)=(ops.map (ev s1.toS)).map (AV.map T.canon):=by rw [SX]; rfl
    rw [e,dw hops];refine ⟨c2,?_⟩;rw [c3];exact ⟨x,KK,rfl,hbd,fun y hy=>⟨s1,_,⟨fun _=>rfl,rfl⟩,rfl,hk y hy⟩⟩
   ·rintro e w' ⟨r,s',av,H',γ',F',k1,⟨t,v',e1,rfl,k2⟩,k3,k4⟩
    refine .inl ⟨r,t,v',H',γ',F',k1,k2,?_,bE e1 k4⟩;rw [e1.2] at k3;exact k3
  ·exact hcc.elim
structure Cl (f:Nat) where
 B:CKb
 I:CKt
 ck:qj B I
 cont:Cont Tryz.prog f I
abbrev ClS:=List ((f:Nat)×Cl f)
def clB:ClS->CBt
 | []=>[]
 | x::r=>(x.1,x.2.B)::clB r
def clI:ClS->CTt
 | []=>[]
 | x::r=>(x.1,x.2.I)::clI r
theorem uA:∀ l:ClS,zQ (clB l) (clI l)
 | []=>trivial
 | x::r=>⟨⟨rfl,x.2.ck⟩,uA r⟩
noncomputable abbrev clE (E:Ut) (sh:List (TypeId×List Sh)) (l:ClS):EnB:=⟨⟨Tryz.prog,E,clI l,sh,noP⟩,clB l⟩
theorem wF (E:Ut) (sh:List (TypeId×List Sh)) (l:ClS):(clE E sh l).e.ok:=by
 intro x hx;have:∀ l:ClS,x∈clI l->Cont Tryz.prog x.1 x.2:=by
  intro l;induction l with
  | nil=>intro h; cases h
  | cons y r ih=>
   intro h;rcases SS.1 h with rfl | h
   ·exact y.2.cont
   ·exact ih h
 exact this l hx
def Ez (n:Nat) (fn:Func):Bool:=fn.name != "runtime.NumGoroutine" && (fn.body.isSome&&(Nat.ble n fn.ntmps&&(eQ fn.ntmps (fn.body.getD .skip)&&Nat.ble fn.ntmps 100000)))
theorem cT {n:Nat} {fn:Func} (h:Ez n fn=true):(fn.name == "runtime.NumGoroutine")=false/\fn.body.isSome=true/\Nat.ble n fn.ntmps=true/\eQ fn.ntmps (fn.body.getD .skip)=true/\Nat.ble fn.ntmps 100000=true:=by
 unfold Ez at h;simp only [SL,bne,TM] at h;exact h
theorem qd:Tryz.prog.follows .mixedOrders=true:=by kernel_rfl
section
variable (E:Ut) (sh:List (TypeId×List Sh)) (l:ClS) (n:Nat) {f:Nat} (fn:Func) (ps rs:List U)
noncomputable def clP (hf:Tryz.prog.funcs[f]? = some fn) (h:Ez ps.length fn=true):Cl f:=
 ⟨MM n (clE E sh l) fn ps rs,xc (clE E sh l).e fn (anF n fn) ps rs,Nf (uA l),D5 (wF E sh l) qd hf (cT h).1 (cT h).2.1 (cT h).2.2.1 (cT h).2.2.2.1⟩
noncomputable def clL (hf:Tryz.prog.funcs[f]? = some fn) (h:Ez ps.length fn=true):Cl f:=
 ⟨L1 n (clE E sh l) fn ps rs,uV ps rs fun x KK=>bq (clE E sh l).e fn (anF n fn) ps rs x KK,M0 (uA l),uR (wF E sh l) qd hf (cT h).1 (cT h).2.1 (cT h).2.2.1 (cT h).2.2.2.1 (fun _ _ h=>h)⟩
noncomputable def clN (hf:Tryz.prog.funcs[f]? = some fn) (h:Ez 0 fn=true):Cl f:=
 ⟨apB (PV n (clE E sh l) fn),apT (qX (clE E sh l).e fn (anF n fn)),RN (OQ (uA l)),jk (gQ (wF E sh l) qd hf (cT h).1 (cT h).2.1 (cT h).2.2.2.1 (cT h).2.2.2.2)⟩
noncomputable def clM (shr:List Sh) (u:U) (hf:Tryz.prog.funcs[f]? = some fn) (h:Ez (ps.length+1) fn=true):Cl f:=
 ⟨QN n (clE E sh l) fn shr u ps rs,wS (clE E sh l).e fn (anF n fn) shr u ps rs,O5 (uA l),DM (wF E sh l) qd hf (cT h).1 (cT h).2.1 (cT h).2.2.1 (cT h).2.2.2.1⟩
noncomputable def clF {pre:Fl ps->Prop} (F:Fl ps->Fl rs) (pb:Fl ps->Bool) (hp:∀ x,pb x=true->pre x) (h:Cont Tryz.prog f (bZ ps rs pre F)):Cl f:=⟨fnB ps rs pb F,_,yz hp,h⟩
theorem Mr [DecidableEq (Fl rs)] (y:Fl rs) (hf:Tryz.prog.funcs[f]? = some fn) (h:Ez 0 fn=true) (hb:A4 n (clE E sh l) fn [] rs () (fun z=>decide (z=y))=true):Cont Tryz.prog f (bX [] rs (fun _=>y)):=
 vI (e:=(clE E sh l).e) (wF E sh l) qd hf (cT h).1 (cT h).2.1 (an:=anF n fn) (cT h).2.2.1 (cT h).2.2.2.1 (fun x KK hK=>ve (uA l) (KKb:=fun z=>decide (z=y)) (fun z hz=>by rw [of_decide_eq_true hz]; exact hK) hb)
end
end Go.Am
end

section
namespace Go.Am
def lkV:List (Nat×Value)->Nat->Option Value
 | [],_=>none
 | (k,v)::r,i=>match Nat.beq k i with
  | true=>some v
  | false=>lkV r i
structure KT (nt:Nat) (l:List (Nat×Value)) (a:Act):Prop where
 nt:a.tmps.size=nt
 df:a.defers=[]
 t:∀ i v,lkV l i=some v->a.tmps.getD i undef=v
theorem KT.put {nt:Nat} {l:List (Nat×Value)} {a:Act} (h:KT nt l a) {d:Nat} (hd:d<nt) (v:Value):KT nt ((d,v)::l) (a.put (some d) v):=by
 refine ⟨by simp only [Act.put,Un]; exact h.nt,h.df,fun i x hx=>?_⟩;rw [s9 a d i v (by rw [h.nt]; exact hd)];unfold lkV at hx;by_cases e:d=i
 ·subst e;rw [Uy] at hx;rw [if_pos rfl];exact Option.some.inj hx
 ·have:Nat.beq d i=false:=by
   cases hb:Nat.beq d i
   ·rfl
   ·exact absurd (SO hb) e
  rw [this] at hx;rw [if_neg e];exact h.t i x hx
theorem KT.none {nt:Nat} {l:List (Nat×Value)} {a:Act} (h:KT nt l a) (v:Value):KT nt l (a.put none v):=h
theorem KT.ev {nt:Nat} {l:List (Nat×Value)} {a:Act} (h:KT nt l a) {i:Nat} {v:Value} (hi:lkV l i=some v):a.eval (.tmp i)=v:=h.t i v hi
theorem KT.sub {nt:Nat} {l l':List (Nat×Value)} {a:Act} (h:KT nt l a) (hs:∀ x∈l',lkV l x.1=some x.2):KT nt l' a:=by
 refine ⟨h.nt,h.df,fun i v hi=>h.t i v ?_⟩;have:∃ x∈l',x.1=i/\x.2=v:=by
  clear hs h;induction l' with
  | nil=>cases hi
  | cons y r ih=>
   unfold lkV at hi;cases hb:Nat.beq y.1 i with
   | true=>rw [hb] at hi; exact ⟨y,by simp,SO hb,Option.some.inj hi⟩
   | false=>
    rw [hb] at hi;obtain ⟨x,h1,h2⟩:=ih hi;exact ⟨x,S4 _ h1,h2⟩
 obtain ⟨x,h1,rfl,rfl⟩:=this;exact hs x h1
def RE (l:List (Nat×Value)):List (Nat×Value)->Prop
 | []=>True
 | x::r=>lkV l x.1=some x.2/\RE l r
theorem KT.sub2 {nt:Nat} {l l':List (Nat×Value)} {a:Act} (h:KT nt l a) (hs:RE l l'):KT nt l' a:=by
 refine h.sub ?_;clear h;induction l' with
 | nil=>intro x hx; cases hx
 | cons y r ih=>
  intro x hx;rcases SS.1 hx with rfl | hx
  ·exact hs.1
  ·exact ih hs.2 x hx
section
variable {P:Program} {all:Array Oper} {rest:List Oper} {Q:Exit->Act->World->Prop} {o:Oper} {l:List (Nat×Value)} {a:Act} {w:World} {nt d:Nat} {v:Value}
theorem wpV (hg:o.guard=none) (ho:o.dst=some d) (hd:d<nt) (hk:KT nt l a) (hrun:(execOp a.eval o).run P w=.ok (.value v) w) (h:∀ a',KT nt ((d,v)::l) a'->wpList P all Q rest a' w) :
  wpList P all Q (o::rest) a w:=
 wpList_plain hg fun K hK=>by
  unfold Oper.wp;rw [hrun];exact hK _ _ (by rw [ho]; exact h _ (hk.put hd v))
theorem cQ {x:Operand} (hop:o.op=.move x) (hx:a.eval x=v):(execOp a.eval o).run P w=.ok (.value v) w:=by simp [execOp,hop,hx]
theorem jy {x:Operand} (hop:o.op=.assign x) (hx:a.eval x=v):(execOp a.eval o).run P w=.ok (.value v) w:=by simp [execOp,hop,hx]
def Ri (P:Program) (t:TypeId) (i:Nat):Option Nat:=match (ty P t).k with
 | .st fs=>match fs[i]? with
  | some (off,size,_)=>match Nat.beq size 0 with
   | true=>none
   | false=>some off
  | none=>none
 | _=>none
theorem vFA {t:TypeId} {x:Operand} {i k b off:Nat} (hop:o.op=.fieldAddr t x i) (hx:a.eval x=.pointer (some ⟨b,off,none⟩)) (hf:Ri P t i=some k) :
  (execOp a.eval o).run P w=.ok (.value (.pointer (some ⟨b,off+k,none⟩))) w:=by
 unfold Ri at hf;split at hf
 ·rename_i fs hk;obtain ⟨_,d,_,hd,he,_⟩:=aO hk (by simp);obtain ⟨fs',rfl,rfl⟩:=MD he;split at hf
  ·rename_i off' size ag h1;split at hf
   ·cases hf
   ·rename_i h0;obtain rfl:=Option.some.inj hf;simp only [SM,Tq,Prod.mk.injEq] at h1;obtain ⟨f,hf1,rfl,rfl,rfl⟩:=h1;have hf2:fs'[i]? = some f:=by simpa using hf1
    have h0:¬ P.cellsOf f.type=0:=fun e=>by rw [e] at h0; cases h0
    obtain ⟨it,hit⟩:∃ i,P.info? f.type=some i:=by
     cases hi:P.info? f.type with
     | none=>simp [Program.cellsOf,hi] at h0
     | some i=>exact ⟨i,rfl⟩
    simp only [execOp,hop,hx];simp only [Instr.fieldAt,Sem.run_bind,run_underlying hd,Result.andThen_ok,hf2,Instr.sureAddr,Sem.run_pure,fieldPlace,bc hit];rw [if_neg h0];simp only [Sem.run_pure,Result.andThen_ok,bO]
  ·cases hf
 ·cases hf
def eSz (P:Program) (t:TypeId):Option Nat:=match (ty P t).k with
 | .sl e=>match (ty P e).ok with
  | true=>some (ty P e).size
  | false=>none
 | _=>none
theorem vIA {t:TypeId} {x i:Operand} {e b off n c:Nat} {κ:IntKind} {j:Int} (hop:o.op=.indexAddr t x i) (hx:a.eval x=.slice (some ⟨b,off,none⟩) n c) (hi:a.eval i=.int κ j) (h0:0<=j/\j<n) (he:eSz P t=some e) :
  (execOp a.eval o).run P w=.ok (.value (.pointer (some ⟨b,off+j.toNat*e,none⟩))) w:=by
 unfold eSz at he;split at he
 ·rename_i u hk;split at he
  ·rename_i hok;obtain rfl:=Option.some.inj he;obtain ⟨_,d,_,hd,h2,_⟩:=aO hk (by simp);obtain rfl:=je h2;obtain ⟨it,_,hit,_⟩:=cV hok;have hel:P.elem t=u:=by simp [Program.elem,hd]
   simp only [execOp,hop,hx,hi];rw [Sem.run_bind,run_indexAt_slice w t _ _ _ _ _ (by rw [hel]; exact hd),if_pos h0,hel,bc hit,Result.andThen_ok,bO,eK hok];rfl
  ·cases he
 ·cases he
theorem wK {t:TypeId} {x:Operand} {b off:Nat} (hop:o.op=.load t x) (hx:a.eval x=.pointer (some ⟨b,off,none⟩)) (ht:(ty P t).ok=true/\(ty P t).agg=false) (hc:w.cell? ⟨b,off,none⟩=some v) :
  (execOp a.eval o).run P w=.ok (.value v) w:=by
 obtain ⟨_,d,_,hd,h1,_⟩:=cV ht.1;have hr:=fX (P:=P) hd (by rw [<- h1]; exact ht.2) hc
 simp only [execOp,hop,hx]
 first
  | (rw [Sem.run_bind,hr]; rfl)
  | (simp only [Instr.loadAt,Sem.run_bind,Instr.sureAddr,Sem.run_pure,Result.andThen_ok]; rw [hr]; rfl)
theorem Rl {c:Call} {t:TypeId} {x:Operand} {b:Option Addr} {n cc:Nat} (hop:o.op=.call c) (h1:c.callee=.builtin .len) (h2:c.args=#[x]) (h3:c.argTypes=#[t]) (ht:∃ e,(ty P t).k=.sl e) (hx:a.eval x=.slice b n cc) :
  (execOp a.eval o).run P w=.ok (.value (.int .i64 n)) w:=by
 obtain ⟨callee,args,argTypes⟩:=c;dsimp only at h1 h2 h3;subst h1; subst h2; subst h3;obtain ⟨e,hk⟩:=ht;obtain ⟨_,ud,_,u2,u3,_⟩:=aO hk (by simp);obtain rfl:=je u3;simp [execOp,hop,resolve,invoke,builtin,Builtin.len_,run_underlying u2,hx,goInt]
theorem R4 {t:TypeId} {x y:Operand} {z:TypeId} {m n:Int} (hop:o.op=.binOp .lss t x y z) (hx:a.eval x=.int .i64 m) (hy:a.eval y=.int .i64 n) (hm:(Lit.int .i64 m).wf=true) (hn:(Lit.int .i64 n).wf=true) :
  (execOp a.eval o).run P w=.ok (.value (.bool (decide (m<n)))) w:=by
 obtain ⟨u,d,e1,e2,e3⟩:=zj (P:=P) (w:=w) (H:=fun _ _=>none) (γ:=fun _=>.blk 0) (m:=[]) (op:=.lss) (t:=t) (xo:=x) (yo:=y) (x:=sc (.int .i64 m)) (y:=sc (.int .i64 n)) (k:=fun d=>d=sc (.bool (decide (m<n)))) ⟨rfl,rfl⟩
  (dR hm) (dR hn)
 subst e3;simp only [execOp,hop,hx,hy];rw [Sem.run_bind,e1];obtain ⟨_,k,hk⟩:=e2;have:u=.bool (decide (m<n)):=by cases k <;> exact hk
 rw [this];rfl
theorem RI {t:TypeId} {x y:Operand} {z:TypeId} {m n r:Int} (hop:o.op=.binOp .add t x y z) (hx:a.eval x=.int .i64 m) (hy:a.eval y=.int .i64 n) (hm:(Lit.int .i64 m).wf=true) (hn:(Lit.int .i64 n).wf=true) (hr:IntKind.i64.wrap (m+n)=r) :
  (execOp a.eval o).run P w=.ok (.value (.int .i64 r)) w:=by
 obtain ⟨u,d,e1,e2,e3⟩:=zj (P:=P) (w:=w) (H:=fun _ _=>none) (γ:=fun _=>.blk 0) (m:=[]) (op:=.add) (t:=t) (xo:=x) (yo:=y) (x:=sc (.int .i64 m)) (y:=sc (.int .i64 n)) (k:=fun d=>d=sc (.int .i64 (IntKind.i64.wrap (m+n)))) ⟨rfl,rfl⟩
  (dR hm) (dR hn)
 subst e3;simp only [execOp,hop,hx,hy];rw [Sem.run_bind,e1];obtain ⟨_,k,hk⟩:=e2;have:u=.int .i64 (IntKind.i64.wrap (m+n)):=by cases k <;> exact hk.1
 rw [this,hr];rfl
theorem Pw {t:TypeId} {x y:Operand} {b off:Nat} {z:Value} (hg:o.guard=none) (ho:o.dst=none) (hop:o.op=.store t x y) (hx:a.eval x=.pointer (some ⟨b,off,none⟩)) (hy:a.eval y=v) (ht:(ty P t).ok=true/\(ty P t).size=1) (hv:gc v=true)
  (hc:w.cell? ⟨b,off,none⟩=some z) (hf:w.frozen? ⟨b,off,none⟩=false) (h:wpList P all Q rest a (w.setCell ⟨b,off,none⟩ v)):wpList P all Q (o::rest) a w:=
 wpList_plain hg fun K hK=>by
  obtain ⟨it,_,hit,_⟩:=cV ht.1;have hsz:P.cellsOf t=1:=by rw [<- eK ht.1,ht.2]
  have hcells:v.cells=#[v]:=by cases v <;> first | rfl | (simp [gc] at hv)
  have hr:(execOp a.eval o).run P w=.ok .skip (w.setCell ⟨b,off,none⟩ v):=by
   simp only [execOp,hop,hx,hy];simp only [Instr.storeAt,Instr.sureAddr,Sem.run_bind,Sem.run_pure,Result.andThen_ok,storeVar,bc hit];rw [if_neg (by rw [hcells,hsz]; simp),hcells];simp only [storeCells,Sem.run_bind,bO];rw [Uf,nD hv hc hf];rfl
  unfold Oper.wp;rw [hr];exact hK _ _ (by rw [ho]; exact h)
theorem Lp {c:Code} {I:Nat->Act->World->Prop} {N i0:Nat} (h0:I i0 a w) (hle:i0<=N)
  (round:∀ i a w,i<=N->I i a w->c.wp P (fun e a' w'=>match e with | .normal=>i<N/\I (i+1) a' w' | e=>Q e a' w') a w):(Code.loop c).wp P Q a w:=by
 let p:Act->World->Nat->Prop:=fun a w n=>∃ i,i<=N/\N-i=n/\I i a w
 have hmin:∀ a w,(∃ n,p a w n)->∃ n,p a w n/\∀ m,m<n->¬ p a w m:=fun a w h=>least h
 let μ:Act->World->Nat:=fun a w=>by
  classical
  exact if h:∃ n,p a w n then Classical.choose (hmin a w h) else 0
 have hμ:∀ a w (h:∃ n,p a w n),p a w (μ a w)/\∀ m,m<μ a w->¬ p a w m:=by
  intro a w h;have:μ a w=Classical.choose (hmin a w h):=by simp only [μ]; rw [dif_pos h]
  rw [this];exact Classical.choose_spec (hmin a w h)
 refine wp_loop (fun a w=>∃ n,p a w n) μ ⟨_,i0,hle,rfl,h0⟩ (fun a w hI=>?_);obtain ⟨⟨i,hi,hin,h2⟩,_⟩:=hμ a w hI;refine Code.wp_mono (fun e a' w' hl=>?_) (round i a w hi h2);cases e with
 | normal=>
  obtain ⟨hlt,k2⟩:=hl;have hI':∃ n,p a' w' n:=⟨_,i+1,hlt,rfl,k2⟩
  refine ⟨hI',?_⟩;rcases S0 (μ a' w') (μ a w) with h | h
  ·exact h
  ·exact absurd ⟨i+1,hlt,rfl,k2⟩ ((hμ a' w' hI').2 (N - (i+1)) (by omega))
 | _=>exact hl
theorem dC {R:Code} {id:Nat} {l:List Oper} (h:R=.region id l.toArray false) (hw:wpList P l.toArray Q l a w):R.wp P Q a w:=by
 rw [h]; exact wp_region_lit hw
theorem ej {R x y:Code} (h:R=.seq x y) (hw:x.wp P (fun e a w=>match e with | .normal=>y.wp P Q a w | e=>Q e a w) a w):R.wp P Q a w:=by
 rw [h];refine wp_seq (Code.wp_mono (fun e a w hl=>?_) hw);cases e <;> exact hl
theorem Gh {R c:Code} {id:Nat} (h:R=.block id c) (hw:c.wp P (fun e a w=>match e with | .exit i=>if i=id then Q .normal a w else Q (.exit i) a w | e=>Q e a w) a w):R.wp P Q a w:=by
 rw [h];refine wp_block (Code.wp_mono (fun e a w hl=>?_) hw);cases e with
 | exit i=>simp only [Exit.inBlock]; split <;> simp_all
 | _=>exact hl
end
def kpL:Code->Code
 | .seq x _=>x
 | .cond _ x _=>x
 | _=>.skip
def kpR:Code->Code
 | .seq _ x=>x
 | .cond _ _ x=>x
 | _=>.skip
def kpB:Code->Code
 | .block _ x=>x
 | .loop x=>x
 | _=>.skip
def kpO:Code->List Oper
 | .region _ l _=>l.toList
 | _=>[]
def opN (R:Code) (i:Nat):Oper:=(kpO R).getD i ⟨none,.move (.tmp 0),0, "",#[],none⟩
structure Wd (H:FH) (G:Nat->Prop) (w2 w:World):Prop where
 size:w.heap.size=w2.heap.size
 os:w.os=w2.os
 tape:w.tape=w2.tape
 output:w.output=w2.output
 old:∀ b,¬ G b->w.heap[b]? = w2.heap[b]?
 cell:∀ b o y,H b o=some y->(∀ l,y≠.string l)->w.cell? ⟨b,o,none⟩=some y
 str:∀ b o l,H b o=some (.string l)->∃ l',w.cell? ⟨b,o,none⟩=some (.string l')
 thaw:∀ b,G b->Thawed w b
theorem jU {w:World} {b o:Nat} (h:Thawed w b):w.frozen? ⟨b,o,none⟩=false:=by
 obtain ⟨cs,ty,h⟩:=h;simp [World.frozen?,h]
theorem pu {w:World} {b o b' o':Nat} {v z:Value} (hz:w.cell? ⟨b,o,none⟩=some z):(w.setCell ⟨b,o,none⟩ v).cell? ⟨b',o',none⟩=if b'=b/\o'=o then some v else w.cell? ⟨b',o',none⟩:=by
 by_cases hb:b'=b
 ·subst hb;simp only [World.cell?,TN,SV,if_false] at hz ⊢;cases hh:w.heap[b']? with
  | none=>rw [hh] at hz; cases hz
  | some ob=>
   rw [hh] at hz;cases ob with
   | cells cs ty fz=>
    rw [fD hh];dsimp only at hz ⊢;rw [Array.getElem?_setIfInBounds];by_cases ho:o=o'
    ·subst ho;rw [if_pos rfl,if_pos (T9.1 hz).1,if_pos ⟨trivial,rfl⟩]
    ·rw [if_neg ho,if_neg (fun e=>ho e.2.symm)]
   | _=>cases hz
 ·rw [if_neg (fun e=>hb e.1)];exact az (bj hb)
theorem Wd.store {H:FH} {G:Nat->Prop} {w2 w:World} (h:Wd H G w2 w) {b o:Nat} {l l':ByteArray} (hH:H b o=some (.string l)) (hG:G b):Wd H G w2 (w.setCell ⟨b,o,none⟩ (.string l')):=by
 obtain ⟨z,hz⟩:=h.str b o l hH;refine ⟨by rw [World.size_setCell]; exact h.size,h.os,h.tape,h.output,fun c hc=>?_,fun c q y hy hn=>?_,fun c q y hy=>?_,fun c hc=>(h.thaw c hc).setCell⟩
 ·rw [bj (fun e=>hc (by rw [e]; exact hG))]; exact h.old c hc
 ·rw [pu hz];split
  ·rename_i e;rw [e.1,e.2,hH] at hy;exact absurd (Option.some.inj hy).symm (hn l)
  ·exact h.cell c q y hy hn
 ·rw [pu hz];split
  ·exact ⟨_,rfl⟩
  ·exact h.str c q y hy
theorem p7 {n:Nat} (h:n<=BIG):(Lit.int .i64 (n:Int)).wf=true:=t7 h
theorem Bn {n:Nat} (h:n<BIG):IntKind.i64.wrap ((n:Int)+1)=((n+1:Nat):Int):=by
 have h3:BIG=4611686018427387904:=rfl
 rw [h3] at h;rw [IntKind.wrap_i64]; omega
end Go.Am
end

section
namespace Go.Am
open Go Go.RowKit Go.Proofs
section
variable {P:Program}
theorem J8 {f:Nat} {φ:List AV->(AV->Prop)->Prop} (hrun:∀ args w,(callFunc f args).run P w=.ok (.enter f args) w)
  (hbody:∀ (avs:List AV) (K:AV->Prop) (args:List Value) (w:World) (H:FH) (γ:Gam),φ avs K->args.length=avs.length->(∀ (i:Nat) v,avs[i]? = some v->∃ y,args[i]? = some y/\AR w H γ [] v y)->Globs H ->
   (∀ b o y,H b o=some y->w.cell? ⟨b,o,none⟩=some y) ->
   Calls P f args.toArray w (fun e w'=>∃ r av H2,e=.returned r/\K av/\Below w.heap.size w w'/\(∀ b o y,H b o=some y->H2 b o=some y)/\(∀ b o,H2 b o≠none->H b o=none->w.heap.size<=b)/\(∀ b o x l c,H2 b o=some (.slice x l c)->H b o=none->Thawed w' b) /\
    (∀ b o y,H2 b o=some y->w'.cell? ⟨b,o,none⟩=some y)/\av.isFz=true/\AR w' H2 γ [] av r)):Con P f (lL φ):=by
 refine ⟨hrun,fun g s a w H γ F ops k hX hops hK=>?_⟩;unfold lL at hK;dsimp only at hK;obtain ⟨H1,F1,h1⟩:=iI (ops.map (ev s)) s H F hX;generalize g8 s (ops.map (ev s))=s1 at hK h1;obtain ⟨hfz,hφ⟩:=hK;refine (hbody _ _ (ops.map a.eval) w H1 γ hφ (by simp) (fun i v hi=>?_) (dc h1) h1.mem.agree).mono ?_
 ·rw [SM] at hi;obtain ⟨x,hx0,rfl⟩:=Tq.1 hi;have hx:=aD h1 (SQ.1 hops x (Tb hx0))
  have hz:(ev s1 x).isFz=true:=SQ.1 hfz (ev s1 x) (Tc (Tb hx0))
  exact ⟨a.eval x,by rw [SM,hx0]; rfl,cZ bK (gY (fun _ _ _ h=>h) hz hx)⟩
 ·rintro e w' ⟨r,av,H2,rfl,hk,hb,hh,hn,hnz,hag,hz,har⟩
  have hold:∀ b,b<w.heap.size->w'.heap[b]? = w.heap[b]? := hb.block
  have hnew:∀ b,b<w.heap.size->H1 b=H2 b:=by
   intro b hb
   funext o
   cases hc:H1 b o with
   | some y=>rw [hh b o y hc]
   | none=>
    cases hc2:H2 b o with
    | none=>rfl
    | some y=>have:=hn b o (by rw [hc2]; simp) hc; omega
  have hsame:∀ b,tot F1 s1.m b≠0->w'.heap[b]? = w.heap[b]? := fun b hb=>hold b (h1.mem.lt b hb)
  have hKp:=bS (w':=w') h1.mem hsame
  have hmem:Mem w' H2 γ s1.m F1:=by
   refine ⟨hag,fun x hx=>aF hKp hh rfl (fun b hb=>hsame b (by have:=aQ (F:=F1) hx b; omega)) (h1.mem.roots x hx),h1.mem.keys,h1.mem.le1,fun b hb'=>by have:=h1.mem.lt b hb'; have:=hb.size; omega,fun b hb o=>?_⟩;rw [<- hnew b (h1.mem.lt b hb)]; exact h1.mem.nofz b hb o
  have hFr:Fr w H1 (tot F1 s1.m) w' H2 (tot F1 s1.m):=
   ⟨hb.size,hb.os,hb.tape,hb.output,fun b hb _=>hold b hb,hh,fun b o h2 h3=>.inr (hn b o h2 h3),fun b hb=>.inl hb,fun b h0=>h0.of_block (hold b h0.lt),hnz⟩
  exact ⟨r,s1,av,H2,γ,F1,rfl,hk,gY (fun _ _ _ h=>h) hz har,dP h1 hmem hFr (fun i=>bu hKp hh (h1.t i)) (fun _=>rfl)⟩
theorem kN {f:Nat} {ps rs:List U} {pre:Fl ps->Prop} {F:Fl ps->Fl rs} (hrun:∀ args w,(callFunc f args).run P w=.ok (.enter f args) w)
  (hbody:∀ (x:Fl ps) (args:List Value) (w:World) (H:FH) (γ:Gam),pre x->args.length=(eM ps x).length->(∀ (i:Nat) v,(eM ps x)[i]? = some v->∃ y,args[i]? = some y/\AR w H γ [] v y)->Globs H ->
   (∀ b o y,H b o=some y->w.cell? ⟨b,o,none⟩=some y) ->
   Calls P f args.toArray w (fun e w'=>∃ r H2,e=.returned r/\Below w.heap.size w w'/\(∀ b o y,H b o=some y->H2 b o=some y)/\(∀ b o,H2 b o≠none->H b o=none->w.heap.size<=b)/\(∀ b o x l c,H2 b o=some (.slice x l c)->H b o=none->Thawed w' b) /\
    (∀ b o y,H2 b o=some y->w'.cell? ⟨b,o,none⟩=some y)/\AR w' H2 γ [] (bJ rs (F x)).toV r)):Cont P f (bZ ps rs pre F):=
 lU (φ:=fun avs K=>∃ x:Fl ps,avs=eM ps x/\pre x/\K (bJ rs (F x)).toV) (fun x K hp hk=>⟨x,rfl,hp,hk⟩)
  (J8 hrun (fun avs K args w H γ ⟨x,hx,hp,hk⟩ hl ha hg hag=>by
   subst hx;refine (hbody x args w H γ hp hl ha hg hag).mono ?_;rintro e w' ⟨r,H2,h1,h2,h3,h4,hz,h5,h6⟩
   exact ⟨r,_,H2,h1,hk,h2,h3,h4,hz,h5,FC rs (F x),h6⟩))
theorem fP {f:Nat} {fn:Func} (hf:P.funcs[f]? = some fn) (hname:(fn.name == "runtime.NumGoroutine")=false) (hb:fn.body.isSome=true) (args:Array Value) (w:World):(callFunc f args).run P w=.ok (.enter f args) w:=by
 have h1:fn.name ≠ "runtime.NumGoroutine" := by simpa using hname
 cases hc:fn.body with
 | none=>rw [hc] at hb; cases hb
 | some c=>simp [callFunc,hf,h1,hc]
theorem jJ {w:World} {H:FH} {γ:Gam} {l:List UInt8} {y:Value} (h:AR w H γ [] (.one (.c (.d (.str l)))) y):y=.string ⟨l.toArray⟩/\l.length<=BIG:=by
 obtain ⟨_,m,h⟩:=h;cases m <;> exact h
theorem mL (l:List UInt8):(⟨l.toArray⟩:ByteArray).data.toList=l:=by simp
theorem oC (l:List UInt8):(⟨l.toArray⟩:ByteArray).size=l.length:=by simp [ByteArray.size]
theorem Ih {args:List Value} {x y:AV} {w:World} {H:FH} {γ:Gam} (hl:args.length=2) (ha:∀ (i:Nat) v,[x,y][i]? = some v->∃ y,args[i]? = some y/\AR w H γ [] v y):∃ u v,args=[u,v]/\AR w H γ [] x u/\AR w H γ [] y v:=by
 match args,hl with
 | [u,v],_=>
  obtain ⟨u',h1,h2⟩:=ha 0 x rfl;obtain ⟨v',h3,h4⟩:=ha 1 y rfl;simp only [Tu,TG,SJ] at h1 h3;subst h1; subst h3;exact ⟨u,v,rfl,h2,h4⟩
theorem B3 (B:Nat) (w:World) (n:Nat):Below B w (w.drewN n):=⟨rfl,rfl,rfl,SN _,fun _ _=>rfl⟩
theorem xe {w:World} {H:FH} (hg:Globs H) (hag:∀ b o y,H b o=some y->w.cell? ⟨b,o,none⟩=some y) {k:Nat} (hk:N5=some k):∃ n,w.cell? ⟨k,0,none⟩=some (.int .i64 n):=by
 obtain ⟨n,m,h⟩:=hg.2 k hk;obtain ⟨y,h1,h2⟩:=h 0 (by simp);have h2:FD H m (.int .i64 n) y:=h2
 have:y=.int .i64 n:=by cases m <;> exact h2.1
 subst this;exact ⟨n,hag k 0 _ h1⟩
end
end Go.Am
end
