/-
  CheckTexts: whatever text is read, check.Source answers as the document's Source does, and never that what is handed in is wrong. The card's listed variables are tied to the program's text.
-/
import Derived.Test.YthhkhcolidkemaaGreatDoorCt24
import Derived.Test.YthhkhcolidkemaaGreatDoorCards
import Derived.Test.YthhkhcolidkemaaGreatDoorTie
import Derived.ChangeMaps5
import Derived.Stop.Joined
import Derived.SevenTiedAt
set_option linter.unusedSimpArgs false
set_option linter.unusedVariables false
set_option linter.unusedSectionVars false
set_option linter.unnecessarySimpa false
open Go.Proofs.Tryz
section
namespace Go.Proofs.YthhkhcolidkemaaGreatDoor
open Go.ChangeShapes Go.ChangeMaps Go.WideShapes Go.ChangeAt Go.WideMaps Go.WideElems Go.RowKit Go.Am
theorem af7:ownKnob prog.godebug=none:=kQ0
theorem af5{W:World}(h:W.ShapedOpen prog):∀k,adH=some k->∃n m,BR (snap W) m [.int .i64 n] k 0:=by
 intro k hk;obtain rfl:1=k:=by simpa[adH]using hk
 exact VE (t:=3) (zero:=#[.int .i64 0]) h (by decide +kernel) kQ0 rfl kQ0 kQ0 kQ0
theorem ahE(n:Nat):(gw.getD n default).length<=10:=by
 have h:∀w∈gw,w.length<=10:=by decide
 rw[List.getD];cases hn:gw[n]? with
 |none=>simp;exact alJ _
 |some w=>simp only[amG];exact h w (alL hn)
theorem Sb:prog.globalNamed "lateen/lateenref05.words" = some 0:=kQ0
theorem Sc:(prog.globals[0]?).map (·.type)=some 210:=kQ0
theorem aa0{W:World}(h:laidMetH prog Rows.checkTextsRow.laid W):∀k row,sC k=some row->∃m,BR (snap W) m row k 0:=by
 intro k row hk;unfold sC at hk;split at hk
 case isFalse=>cases hk
 rename_i h0;subst h0;simp only[akJ]at hk;subst hk;rw[MakeChecks.laidMetH_plain _ _ _ kQ0]at h;obtain⟨ps,⟨_,_,_,_,_,_,_,_,_,_,⟨v,t0,i,y,u,w,d,n,g,f,_,_⟩,_⟩,_,_⟩:=h;obtain rfl:=Option.some.inj (Sb.symm.trans d);obtain rfl:=Option.some.inj (Sc.symm.trans n);obtain⟨xs,x,rfl,hx1,p,t,o⟩:=DataW.trod_array underlying210 f;have q:prog.cellsOf 9=1:=by kernel_rfl
 simp only[Prod.mk.injEq]at hx1;have b:(DataW.agg (gw.map λl=>DataW.lit (.string l)):DataW Unit)=.agg (xs.map (·.1)):=hx1.1
 simp only[DataW.agg.injEq]at b;refine Cz (λj hj=>?_);rw[akT]at hj;have c:j < 35:=hj
 have e:=o j c
 have a:j<xs.length:=by omega
 rw[q,Nat.mul_one,akL a]at e;obtain⟨s,hs1,hs2,_⟩:=DataW.trod_string underlying9 e;have hc:i.toList[j]? = some (.string s):=by
  have:=congrArg (λl:List Value=>l[0]?) hs1
  simpa using this
 have hw:s.data.toList=gw.getD j default:=by
  have h3:=congrArg (λl:List (DataW Unit)=>l[j]?) b
  simp only[akN,akL a,Option.map_some,hs2]at h3;rw[akL hj]at h3;simp only[Option.map_some,akJ,DataW.lit.injEq,Lit.string.injEq]at h3;rw[List.getD,akL hj];exact h3.symm
 refine⟨.string s,?_,0,?_⟩
 .have:=World.var?_cell d g j
  refine Q9 ?_;rw[am1,this];simpa using hc
 have r:(gw.map D.str).getD j default=D.str (gw.getD j default):=by rw[List.getD,akN,List.getD,akL hj];rfl
 rw[r,<- hw];refine⟨by simp,?_⟩;rw[hw];have:=ahE j
 unfold BIG;omega
theorem af6(os:Os)(args:Array Value):laidMetH prog Rows.checkTextsRow.laid ((World.laidAll prog os Rows.checkTextsRow.laid).forCall (λ_ _=>0) ⟨#[],args,[]⟩).memory:=by rw[MakeChecks.laidMetH_plain _ _ _ kQ0];exact laidMet_laidAll _ kQ0 kQ0
set_option maxRecDepth 100000 in
theorem F8(os:Os)(b:os.Started)(H:Type)(enc:TypeId×Value->H) :
  ReturnsInHanded {} Tryz.checked os 4 .any (λw args=>(Rows.checkTextsSpec.pre enc prog f4 [] false w args/\laidMetH prog Rows.checkTextsRow.laid w)/\sizedMet enc prog f4 (OpenSpec.ofChange Rows.checkTextsSpec) false w args) (Rows.checkTextsSpec.post enc prog f4 false true false false):=by
 refine uF (C:=Tryz.checked) (X:=λw _=>laidMetH prog Rows.checkTextsRow.laid w) (λ_ _ _ L h=>h.of_heap L) af7 b kQ0 func4
  (ChangeSpec.witness_shaped (enc:=enc) (C:=Tryz.checked) (os:=os) (X:=λw _=>laidMetH prog Rows.checkTextsRow.laid w) false (World.laidAll prog os Rows.checkTextsRow.laid) #[.string ⟨#[]⟩] 8 (World.laidAll_os _ _ _) (World.shaped_of_ZipB kQ0 kQ0) kQ0 kQ0 kQ0 (af6 os _)) ?_
 intro W y args ds gs A a G k I E;have o:(DataW.weightsEach prog (f4.params.toList++Rows.checkTextsSpec.plain.varTypes prog) (ds++gs)).all (·<=reachBytes)=true:=k
 clear k;have l:∀(j:Nat)t v,f4.params[j]? = some t->args[j]? = some v->Value.okWide prog W .any y t v:=a
 have u:=G
 obtain⟨p,q,z,M,rfl,_,_⟩:=G;have F:DataW.TrodAll enc prog W 0 (λ_=>true) true f4.params.toList args.toList ds p:=z
 rw[Tryz.params4]at F l o;obtain⟨v0,Q,rfl,rfl,h0⟩:=trodAll_one F;obtain⟨rfl,rfl⟩:=trodVars_none M;obtain⟨s0,rfl,rfl,rfl,w0⟩:=open_string underlying9 (l 0 9 v0 rfl rfl) h0;clear z a;simp only[amB]at u;have B:s0.data.toList.length<=140737488351232:=by
  have:=akZ.1 o _ (DataW.weights_mem_each (P:=prog) (j:=0) (t:=9) (d:=.lit (.string s0.data.toList)) rfl rfl s0.data.toList.length (by simp[DataW.weights]))
  have:=of_decide_eq_true this
  unfold reachBytes at this;exact this
 have n:=LP (P:=prog) (f:=4) (fn:=f4) (c:=f4.body.getD .skip) func4 kQ0 [.string s0] [.one (.c (.d (.str s0.data.toList)))] W (show 1<=f4.ntmps by decide +kernel) rfl
  (λi v hi=>by
   match i,hi with
   |0,hi=>simp only[al0,akJ]at hi;subst hi;exact⟨_,rfl,Rn B⟩
   |i+1,hi=>simp at hi)
  ⟨aa0 I,af5 E⟩
  (λr=>r=o1 cB true)
  (λg J=>Gs (K:=λr=>r=o1 cB true) (BX) mixed (fn:=f4) (an:=sy) (ps:=[.s]) (rs:=[.bo]) J kQ0 (x:=s0.data.toList) (KK:=λr=>r=true) (λr h=>by subst h;rfl) (Eq.mp (yj s0.data.toList _) (Ay s0.data.toList _ rfl)))
 refine n.mono λe O⟨v,r,H',γ',m',N,D,har,hb⟩=>?_
 subst N;subst D;obtain rfl:=Z9 har;exact⟨_,rfl,_,_,_,[],[],[],u,trodAll_mk1 (shut_bool underlying4 true),trodAll_mk1 (shut_string underlying9 w0),rfl,hb.frame _,λh=>by cases h⟩
theorem U1:Rows.CheckTextsSaid:=
 OpenClaim.holds_of_wide 4 f4 rfl rfl rfl rfl rfl rfl rfl ⟨rfl,rfl,rfl,rfl,rfl⟩ rfl rfl rfl rfl rfl kQ0 func4 Sa
  (of_decide_eq_true kQ0) (by unfold Func.isWrapper;first|(rw[if_pos (by decide +kernel)];kernel_rfl)|(rw[if_neg (by decide +kernel)];exact⟨rfl,rfl⟩))
  (λos a H enc _=>F8 os a H enc)
theorem texts_holds:Rows.CheckTextsCardSaid:=
 Claim7.holds_tied_plain_at .later [] [.data,.data,.pinned] true (true, "49708c2375af96dae238f86cc59608cfcf90c4649586e84e779c099bc4358686") true
  U1 (λ_ h=>by cases h) kQ0 (λ_ h=>by cases h) checkTexts_row_tie rfl ⟨rfl,rfl⟩ kQ0 rfl
  (λf fn hf b=>by
   obtain rfl:f=4:=Option.some.inj ((show prog.funcNamed "lateen/lateenlaw14.CheckTexts" = some 4 by kernel_rfl).symm.trans hf) |>.symm
   obtain rfl:fn=f4:=(Option.some.inj (func4.symm.trans b)).symm;exact⟨by kernel_rfl,λj t c=>by
    rw[Tryz.params4]at c;have hm:t∈[9]:=by simpa using Array.mem_of_getElem? c
    have a:([9].all λu=>!prog.wantsStandIn u)=true:=by kernel_rfl
    exact(show prog.wantsStandIn t=false by simpa using akZ.1 a t hm)⟩)
  kQ0
end Go.Proofs.YthhkhcolidkemaaGreatDoor
#print axioms Go.Proofs.YthhkhcolidkemaaGreatDoor.texts_holds
end
