/-
  Part 17: AmRead · AmCall.
-/
import Derived.Test.YtlikflolhhlgjaaGreatDoorPa16
import Derived.SizedLaws
set_option linter.unusedSimpArgs false
set_option linter.unusedVariables false
set_option linter.unusedSectionVars false
set_option linter.unnecessarySimpa false
section
namespace Go.Am
def snap (W:World):FH:=fun b o=>W.cell? ⟨b,o,none⟩
section
variable {P:Program} {W:World} {t:TypeId}
end
end Go.Am
end

section
namespace Go.Am
open Go.RowKit
theorem Calls_walk {P:Program} {f:Nat} {fn:Func} {c:Code} (hf:P.funcs[f]? = some fn) (hb:fn.body=some c) (args:List Value) (avs:List AV) (W:World) (hle:args.length<=fn.ntmps) (hlen:avs.length=args.length)
  (hargs:∀ (i:Nat) v,avs[i]? = some v->∃ y,args[i]? = some y/\AR W (snap W) (fun _=>.blk 0) [] v y) (hglob:Globs (snap W)) (K:AV->Prop)
  (hbody:∀ g:G,g.nt=fn.ntmps->AW P g c (retQ P fn.results.toList K) ⟨entryT 0 avs,[]⟩) :
  Calls P f args.toArray W (fun e w'=>∃ v r H γ m,e=.returned v/\K r/\AR w' H γ m r v/\Below W.heap.size W w'):=by
 let g1:G:=⟨fn.ntmps,W,snap W,fun _=>0,fun _=>none,none,[]⟩
 refine calls_of_wp hf hb (Code.wp_mono (fun e a' w' hl=>?_) (hbody g1 rfl _ W ⟨snap W,fun _=>.blk 0,fun _ _=>0,?_⟩))
 ·obtain ⟨s',hq,H',γ',F',hX'⟩:=hl
  have fin:resK P s' fn.results.toList K->a'.defers=[]/\∃ v,(results fn a'.tmps).run P w'=.ok v w'/\∃ v0 r H γ m,Ending.returned v=.returned v0/\K r/\AR w' H γ m r v0/\Below W.heap.size W w':=by
   intro hq
   obtain ⟨y,v,s2,H2,F2,e1,e2,e3,e4,e5⟩:=resK_ok hX' rfl hq
   have hfr:=e2.fr
   dsimp only [g1] at hfr
   exact ⟨e2.df.1,y,e1,y,v.map T.canon,H2,γ',s2.m,rfl,e5,AR_map TR_canon e3,⟨hfr.os,hfr.tape,hfr.output,hfr.size,fun b hb=>hfr.block b hb rfl⟩⟩
  cases e with
  | normal=>exact fin hq
  | ret=>exact fin hq
  | _=>exact hq.elim
 ·refine ⟨⟨fun b o y h=>h,fun x hx=>by simp at hx,by simp,fun b=>Nat.zero_le _,fun b hb=>absurd rfl hb,fun b hb=>absurd rfl hb⟩,⟨Nat.le_refl _,rfl,rfl,rfl,fun _ _ _=>rfl,fun _ _ _ h=>h,fun b o h2 h3=>absurd h3 h2,fun b hb=>absurd rfl hb⟩,?_,⟨rfl,fun j b e=>by simp [g1] at e,hglob⟩,fun i=>?_⟩
  ·simp [g1]; omega
  ·rw [getT_entryT]
   simp only [Nat.zero_le,if_true,Nat.sub_zero]
   cases hi:avs[i]? with
   | none=>simp only [Option.getD_none]; trivial
   | some v=>
    obtain ⟨y,hy,har⟩:=hargs i v hi
    have hlt:i<args.length:=(List.getElem?_eq_some_iff.1 hy).1
    simp only [Option.getD_some]
    have hget:(args.toArray++Array.replicate (fn.ntmps-args.toArray.size) undef).getD i undef=y:=by
     rw [Array.getD_eq_getD_getElem?,Array.getElem?_append_left (by simpa using hlt)]
     simp [hy]
    rw [G.tv_none rfl,hget]
    exact har
section
variable {P:Program} {W:World} {γ:Gam}
theorem AR_string {s:ByteArray} (h:s.data.toList.length<=140737488351232):AR W (snap W) γ [] (.one (.c (.d (.str s.data.toList)))) (.string s):=by
 have:=AR_mk_str (w:=W) (H:=snap W) (γ:=γ) (m:=[]) (l:=s.data.toList) (by unfold BIG; omega)
 simpa using this
theorem AR_true {w:World} {H:FH} {m:Mm} {v:Value} (h:AR w H γ m (o1 cB true) v):v=.bool true:=by
 obtain ⟨_,h⟩:=h
 exact FDx_bool h
end
end Go.Am
end
