/-
  Part 18: AmPut1.
-/
import Derived.Test.YthhkhcolidkemaaGreatDoorCs17
import Derived.Laws.BytesString
set_option linter.unusedSimpArgs false
set_option linter.unusedVariables false
set_option linter.unusedSectionVars false
set_option linter.unnecessarySimpa false
open Go.Proofs.Tryz
section
namespace Go.Proofs
open Go.RowKit
theorem Se(w:World):Calls prog 246 #[.int .i64 1] w fun e w'=>e=.returned (.int .u8 49)/\w'=w:=by
 go_enter func246,Tryz.ntmps246
 go_wp2
 go_ret
 exact⟨rfl,rfl⟩
set_option maxRecDepth 100000 in
set_option maxHeartbeats 2000000 in
theorem ab4(w:World):Calls prog 233 #[.int .i64 1] w fun e w'=>e=.returned (.string ⟨#[49]⟩)/\Below w.heap.size w w':=by
 go_enter func233,Tryz.ntmps233
 go_wp2
 refine wp_loop_once ?_
 go_wp2_with (go_at_call 246;refine(Se _).mono ?_;rintro e w' ⟨rfl,rfl⟩)
 rw[run_convert_bytes_string _ 82 9 5 _ 1 1 underlying82 underlying5 underlying9,run_bytesToString _ _ 1 1 [49] (by
  refine run_loadCells_list _ _ [.int .u8 49] (fun j v hj=>?_)
  match j,hj with
  |0,hj=>obtain rfl:=Option.some.inj hj;simp[Addr.add,World.cell?_alloc_new]
  |j+1,hj=>simp at hj)]
 simp only[Result.andThen];rw[Oper.upon_value]
 go_wp2
 go_ret
 exact⟨by rfl,(Below.refl _ w).alloc (ajB _) _⟩
end Go.Proofs
namespace Go.Am
open Go Go.RowKit Go.Proofs
theorem ae7:Cont prog 233 (lg [.i .i64] [.s] (fun x=>x=(1:Int)) (fun _=>[49])):=kz (mj (fn:=f233) kQ0 kQ0 kQ0) (fun x args w H γ hp hl d f a=>by
 subst hp;obtain⟨u,rfl⟩:∃u,args=[u]:=List.length_eq_one_iff.1 hl
 obtain⟨u',h0,h1⟩:=d 0 _ rfl;obtain rfl:u=u':=by simpa using h0
 obtain rfl:=Um h1;refine(ab4 w).mono ?_;rintro e w' ⟨rfl,hb⟩
 refine⟨_,H,rfl,hb,fun _ _ _ h=>h,fun b o h1 h2=>absurd h2 h1,fun b o x l c h1 h2=>by(rw[h2]at h1;cases h1),fun b o y h=>(a b o y h).frame (hb.block b (a b o y h).lt),?_⟩;exact(Un (l:=[49]) (by unfold BIG;decide):AR w' H γ [] _ _))
end Go.Am
end
