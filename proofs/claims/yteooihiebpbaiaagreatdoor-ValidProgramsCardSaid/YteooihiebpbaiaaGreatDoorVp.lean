/-
  ValidPrograms: whatever program there is, valid.Program answers as the document's Program does. The card's listed variables are tied to the program's text.
-/
import Derived.Test.YteooihiebpbaiaaGreatDoorVp24
import Derived.Test.YteooihiebpbaiaaGreatDoorCards
import Derived.Test.YteooihiebpbaiaaGreatDoorTie
import Derived.ChangeMaps5
import Derived.Stop.Joined
import Derived.SevenTiedAt
set_option linter.unusedSimpArgs false
set_option linter.unusedVariables false
set_option linter.unusedSectionVars false
set_option linter.unnecessarySimpa false
open Lt
open Go.Proofs.Tryz
section
namespace Go.Proofs.YteooihiebpbaiaaGreatDoor
open Go.ChangeShapes Go.ChangeMaps Go.WideShapes Go.ChangeAt Go.WideMaps Go.WideElems Go.RowKit Go.Am
theorem af7:ownKnob prog.godebug=none:=kQ0
theorem af5{W:World}(h:W.ShapedOpen prog):∀k,acZ=some k->∃n m,BP (snap W) m [.int .i64 n] k 0:=by
 intro k hk;obtain rfl:1=k:=by simpa[acZ]using hk
 exact Vq (t:=3) (zero:=#[.int .i64 0]) h (by decide +kernel) kQ0 rfl kQ0 kQ0 kQ0
theorem EE{n:Int}(h:okI .i64 n):Lt.inR n:=by
 unfold okI at h;simp only[Lit.wf,akP,decide_eq_true_eq]at h;have h1:IntKind.i64.min=-9223372036854775808:=by decide
 have h2:IntKind.i64.max=9223372036854775807:=by decide
 rw[h1,h2]at h;exact⟨h.1,by omega⟩
variable{a:Lt.Arg}
theorem zt(h:a.okr):a.ok:=EE h.2.2
variable{i:Lt.Instr}
theorem Wj(h:i.okr):i.ok:=⟨λa ha=>zt (h.2.2.2.1.2 a ha),λf hf=>⟨by have:=(h.2.2.2.2.1.2 f hf).2.2.2.1;omega,λb hb=>zt ((h.2.2.2.2.1.2 f hf).2.2.2.2 b hb).2⟩,λo c a ha=>zt ((h.2.2.2.2.2.2 o c).2.2 a ha)⟩
variable{x:Lt.Phi}
theorem af8(h:x.okr):x.ok:=⟨by have:=h.2.1;omega,λi hi=>zt (h.2.2 i hi).2⟩
theorem aaB{t:Lt.Term}(h:t.okr):t.ok:=⟨zt h.2.1,EE h.2.2.2⟩
variable{b:Lt.Block}
theorem Wi(h:b.okr):b.ok:=⟨λx hx=>af8 (h.2.1.2 x hx),λi hi=>Wj (h.2.2.1.2 i hi),aaB h.2.2.2⟩
variable{p:Lt.Program}
theorem Z9(h:p.okr):p.ok:=λf hf b hb=>Wi (((h.2.2.2.2.2 f hf).2.2.2.2.2) b hb)
theorem cN{s:a8}(h:okS s):short s:=by unfold okS at h;unfold short;omega
theorem yi{v:Lt.Var}(h:v.okr):mM v:=⟨cN h.1,cN h.2⟩
theorem ue(h:a.okr):dE a:=cN h.2.1
theorem RY(h:i.okr):gL i:=⟨cN h.2.1,cN h.2.2.1,λa ha=>ue (h.2.2.2.1.2 a ha),λf hf=>(λ(k:f.okr)=>⟨cN k.1,cN k.2.1,λb hb=>⟨cN (k.2.2.2.2 b hb).1,ue (k.2.2.2.2 b hb).2⟩⟩) (h.2.2.2.2.1.2 f hf),λo c=>⟨cN (h.2.2.2.2.2.2 o c).1,λa ha=>ue ((h.2.2.2.2.2.2 o c).2.2 a ha)⟩⟩
theorem aaA(h:x.okr):pu x:=⟨cN h.1,λi hi=>⟨cN (h.2.2 i hi).1,ue (h.2.2 i hi).2⟩⟩
theorem RW(h:b.okr):fE b:=⟨cN h.1,ue h.2.2.2.2.1,λt a=>cN (h.2.2.2.2.2.1.2 t a),λx hx=>aaA (h.2.1.2 x hx),λi hi=>RY (h.2.2.1.2 i hi)⟩
theorem Wk(h:p.okr):Q6 p:=
 ⟨λc hc=>⟨cN (h.2.1.2 c hc).1,λv hv=>yi ((h.2.1.2 c hc).2.2 v hv)⟩,λv hv=>yi (h.2.2.1.2 v hv),λe a=>cN (h.2.2.2.1.2 e a).1,
  λf hf=>(λ(k:f.okr)=>⟨cN k.1,cN k.2.1,λv hv=>yi (k.2.2.1.2 v hv),λv hv=>yi (k.2.2.2.1.2 v hv),λb hb=>RW (k.2.2.2.2.2 b hb)⟩) (h.2.2.2.2.2 f hf)⟩
theorem af9(h:p.okr):YO p:=by
 have a:∀e∈p.Externs,Lt.inR e.N:=λe a=>EE (h.2.2.2.1.2 e a).2
 have hn:∀f∈p.Funcs,∀b∈f.Blocks,∀i∈b.Code,∀r∈i.Frames,Lt.inR r.At:=λf hf b hb i hi r hr=>EE ((((h.2.2.2.2.2 f hf).2.2.2.2.2 b hb).2.2.1.2 i hi).2.2.2.2.1.2 r hr).2.2.1
 exact ahR (Wk h) (Z9 h) a hn
theorem Mr:laidOutB prog=true:=kQ0
theorem af4(x:Lt.Program):j6 [.st .Program] x=[.one (.agg (x.enc.map T.d))]:=by obtain⟨a,b,c,d,e⟩:=x;rfl
theorem RV:prog.globalNamed "lateen/lateenref05.words" = some 0:=kQ0
theorem RZ:(prog.globals[0]?).map (·.type)=some 193:=kQ0
theorem Z8{W:World}(h:laidMetH prog Rows.validProgramsRow.laid W):∀k row,sf k=some row->∃m,BP (snap W) m row k 0:=by
 intro k row hk;unfold sf at hk;split at hk
 case isFalse=>cases hk
 rename_i h0;subst h0;simp only[akO]at hk;subst hk;rw[MakeChecks.laidMetH_plain _ _ _ kQ0]at h;obtain⟨ps,⟨_,_,_,_,_,_,_,_,_,_,⟨w,t0,g,u,v,x,d,f,n,i,_,_⟩,_⟩,_,_⟩:=h;obtain rfl:=Option.some.inj (RV.symm.trans d);obtain rfl:=Option.some.inj (RZ.symm.trans f);obtain⟨xs,t,rfl,hx1,o,p,hel⟩:=DataW.trod_array underlying193 i;have r:prog.cellsOf 9=1:=by kernel_rfl
 simp only[Prod.mk.injEq]at hx1;have a:(DataW.agg (gw.map λl=>DataW.lit (.string l)):DataW Unit)=.agg (xs.map (·.1)):=hx1.1
 simp only[DataW.agg.injEq]at a;refine CD (λj hj=>?_);rw[akV]at hj;have b:j < 35:=hj
 have e:=hel j b
 have c:j<xs.length:=by omega
 rw[r,Nat.mul_one,akQ c]at e;obtain⟨s,hs1,hs2,_⟩:=DataW.trod_string underlying9 e;have hc:g.toList[j]? = some (.string s):=by
  have:=congrArg (λl:List Value=>l[0]?) hs1
  simpa using this
 have hw:s.data.toList=gw.getD j default:=by
  have h3:=congrArg (λl:List (DataW Unit)=>l[j]?) a
  simp only[akT,akQ c,Option.map_some,hs2]at h3;rw[akQ hj]at h3;simp only[Option.map_some,akO,DataW.lit.injEq,Lit.string.injEq]at h3;rw[List.getD,akQ hj];exact h3.symm
 refine⟨.string s,?_,0,?_⟩
 .have:=World.var?_cell d n j
  refine Gg ?_;rw[amB,this];simpa using hc
 have q:(gw.map D.str).getD j default=D.str (gw.getD j default):=by rw[List.getD,akT,List.getD,akQ hj];rfl
 rw[q,<- hw];refine⟨by simp,?_⟩;rw[hw];have:=XA j
 unfold BIG;omega
theorem af6(os:Os)(args:Array Value):laidMetH prog Rows.validProgramsRow.laid ((World.laidAll prog os Rows.validProgramsRow.laid).forCall (λ_ _=>0) ⟨#[],args,[]⟩).memory:=by rw[MakeChecks.laidMetH_plain _ _ _ kQ0];exact laidMet_laidAll _ kQ0 kQ0
set_option maxRecDepth 100000 in
theorem yd(os:Os)(a:os.Started)(H:Type)(enc:TypeId×Value->H) :
  ReturnsInHanded {} Tryz.checked os 3 .any (λw args=>(Rows.validProgramsSpec.pre enc prog f3 [] false w args/\laidMetH prog Rows.validProgramsRow.laid w)/\sizedMet enc prog f3 (OpenSpec.ofChange Rows.validProgramsSpec) false w args) (Rows.validProgramsSpec.post enc prog f3 false true false false):=by
 refine uq (C:=Tryz.checked) (X:=λw _=>laidMetH prog Rows.validProgramsRow.laid w) (λ_ _ _ U h=>h.of_heap U) af7 a kQ0 func3
  (ChangeSpec.witness_shaped (enc:=enc) (C:=Tryz.checked) (os:=os) (X:=λw _=>laidMetH prog Rows.validProgramsRow.laid w) false (World.laidAll prog os Rows.validProgramsRow.laid) #[.agg #[.bool false,.slice none 0 0,.slice none 0 0,.slice none 0 0,.slice none 0 0]] 8 (World.laidAll_os _ _ _) (World.shaped_of_ZipB kQ0 kQ0) kQ0 kQ0 kQ0 (af6 os _)) ?_
 intro W z args ds gs E b M k O F;have D:(DataW.weightsEach prog (f3.params.toList++Rows.validProgramsSpec.plain.varTypes prog) (ds++gs)).all (·<=reachBytes)=true:=k
 clear k;have l:∀(j:Nat)t v,f3.params[j]? = some t->args[j]? = some v->Value.okWide prog W .any z t v:=b
 have o:=M
 obtain⟨p,q,y,Q,rfl,_,_⟩:=M;have L:DataW.TrodAll enc prog W 0 (λ_=>true) true f3.params.toList args.toList ds p:=y
 have u:∀x∈p++q,x.block<W.heap.size:=o.lt
 rw[Tryz.params3]at L l D;obtain⟨v0,R,rfl,rfl,h0⟩:=trodAll_one L;obtain⟨rfl,rfl⟩:=trodVars_none Q;obtain⟨cs,G,_⟩:=okWide_struct underlying27 (l 0 27 v0 rfl rfl);clear y b;simp only[List.append_nil]at o u;obtain⟨fuel,B⟩:=h0;obtain⟨pr,J,hr,hl⟩:=BQ W H enc fuel _ _ B (λn hn=>by
  have:=ak0.1 D n (DataW.weights_mem_each (j:=0) (t:=27) (d:=R) rfl rfl n hn)
  simpa using this)
 have A:=af9 J
 have s:=LY (P:=prog) (f:=3) (fn:=f3) (c:=f3.body.getD .skip) func3 kQ0 [v0] [.one (.agg (pr.enc.map T.d))] W (show 1<=f3.ntmps by decide +kernel) rfl
  (λi v hi=>by
   match i,hi with
   |0,hi=>simp only[amD,akO]at hi;subst hi;exact⟨_,rfl,Rh G hr hl⟩
   |i+1,hi=>simp at hi)
  ⟨Z8 O,af5 F⟩
  (λr=>r=o1 cB true)
  (λg N=>by
   have h1:=Gv (K:=λr=>r=o1 cB true) (we) mixed (fn:=f3) (an:=mW) (ps:=[.st .Program]) (rs:=[.bo]) N kQ0 (x:=pr) (KK:=λr=>r=true) (λr h=>by subst h;rfl) (Eq.mp (tF pr _) (uF pr A _ rfl))
   rw[af4]at h1;exact h1)
 refine s.mono λe V⟨v,r,H',γ',m',S,I,har,hb⟩=>?_
 subst S;subst I;obtain rfl:=ZK har;exact⟨_,rfl,_,_,_,[],p,[],o,trodAll_mk1 (shut_bool underlying4 true),(trodAll_mk1 (Below.trod Mr kQ0 (of_decide_eq_true kQ0) ⟨fuel,B⟩ hb (λx hx=>u x hx))),rfl,hb.frame _,λh=>by cases h⟩
theorem FW:Rows.ValidProgramsSaid:=
 OpenClaim.holds_of_wide 3 f3 rfl rfl rfl rfl rfl rfl rfl ⟨rfl,rfl,rfl,rfl,rfl⟩ rfl rfl rfl rfl rfl kQ0 func3 RU
  (of_decide_eq_true kQ0) (by unfold Func.isWrapper;first|(rw[if_pos (by decide +kernel)];kernel_rfl)|(rw[if_neg (by decide +kernel)];exact⟨rfl,rfl⟩))
  (λos a H enc _=>yd os a H enc)
theorem programs_holds:Rows.ValidProgramsCardSaid:=
 Claim7.holds_tied_plain_at .later [] [.data,.data,.pinned] true (true, "05b52be5db45b1cb7ca94e5ec1f7d86bd0ff0915feba5aac95279bac9837ece0") true
  FW (λ_ h=>by cases h) kQ0 (λ_ h=>by cases h) validPrograms_row_tie rfl ⟨rfl,rfl⟩ kQ0 rfl
  (λf fn hf b=>by
   obtain rfl:f=3:=Option.some.inj ((show prog.funcNamed "lateen/lateenlaw18.ValidPrograms" = some 3 by kernel_rfl).symm.trans hf) |>.symm
   obtain rfl:fn=f3:=(Option.some.inj (func3.symm.trans b)).symm;exact⟨by kernel_rfl,λj t c=>by
    rw[Tryz.params3]at c;have hm:t∈[27]:=by simpa using Array.mem_of_getElem? c
    have a:([27].all λu=>!prog.wantsStandIn u)=true:=by kernel_rfl
    exact(show prog.wantsStandIn t=false by simpa using ak0.1 a t hm)⟩)
  kQ0
end Go.Proofs.YteooihiebpbaiaaGreatDoor
#print axioms Go.Proofs.YteooihiebpbaiaaGreatDoor.programs_holds
end
