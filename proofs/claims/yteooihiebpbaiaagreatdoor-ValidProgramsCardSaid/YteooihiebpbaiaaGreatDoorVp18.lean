/-
  Part 18: AmPut1.
-/
import Derived.Test.YteooihiebpbaiaaGreatDoorVp17
import Derived.Laws.BytesString
set_option linter.unusedSimpArgs false
set_option linter.unusedVariables false
set_option linter.unusedSectionVars false
set_option linter.unnecessarySimpa false
open Go.Proofs.Tryz
section
namespace Go.Proofs
open Go.RowKit
theorem Dl(d:Int)(c:Nat)(h:(d=1/\c=49)\/(d=2/\c=50))(w:World):Calls prog 244 #[.int .i64 d] w λe w'=>e=.returned (.int .u8 c)/\w'=w:=by rcases h with⟨rfl,rfl⟩|⟨rfl,rfl⟩<;>(go_enter func244,Tryz.ntmps244;go_wp2;go_ret;exact⟨rfl,rfl⟩)
set_option maxRecDepth 100000 in
set_option maxHeartbeats 2000000 in
theorem adK(d:Int)(c:UInt8)(h:(d=1/\c=49)\/(d=2/\c=50))(w:World):Calls prog 229 #[.int .i64 d] w λe w'=>e=.returned (.string ⟨#[c]⟩)/\Below w.heap.size w w':=by
 rcases h with⟨rfl,rfl⟩|⟨rfl,rfl⟩
 .go_enter func229,Tryz.ntmps229
  go_wp2
  refine wp_loop_once ?_
  go_wp2_with (go_at_call 244;refine(Dl 1 49 (.inl ⟨rfl,rfl⟩) _).mono ?_;rintro e w' ⟨rfl,rfl⟩)
  rw[run_convert_bytes_string _ 49 9 5 _ 1 1 underlying49 underlying5 underlying9,run_bytesToString _ _ 1 1 [49] (by
   refine run_loadCells_list _ _ [.int .u8 49] (λj v hj=>?_)
   match j,hj with
   |0,hj=>obtain rfl:=Option.some.inj hj;simp[Addr.add,World.cell?_alloc_new]
   |j+1,hj=>simp at hj)]
  simp only[Result.andThen];rw[Oper.upon_value]
  go_wp2
  go_ret
  exact⟨by rfl,(Below.refl _ w).alloc (akR _) _⟩
 go_enter func229,Tryz.ntmps229
 go_wp2
 refine wp_loop_once ?_
 go_wp2_with (go_at_call 244;refine(Dl 2 50 (.inr ⟨rfl,rfl⟩) _).mono ?_;rintro e w' ⟨rfl,rfl⟩)
 rw[run_convert_bytes_string _ 49 9 5 _ 1 1 underlying49 underlying5 underlying9,run_bytesToString _ _ 1 1 [50] (by
  refine run_loadCells_list _ _ [.int .u8 50] (λj v hj=>?_)
  match j,hj with
  |0,hj=>obtain rfl:=Option.some.inj hj;simp[Addr.add,World.cell?_alloc_new]
  |j+1,hj=>simp at hj)]
 simp only[Result.andThen];rw[Oper.upon_value]
 go_wp2
 go_ret
 exact⟨by rfl,(Below.refl _ w).alloc (akR _) _⟩
end Go.Proofs
namespace Go.Am
open Go Go.RowKit Go.Proofs
theorem agR:Cont prog 229 (lk [.i .i64] [.s] (λx=>x=(1:Int)\/x=(2:Int)) (λx=>if x=(1:Int)then [49]else [50])):=kI (mq (fn:=f229) kQ0 kQ0 kQ0) (λx args w H γ hp hl ha d a=>by
 obtain⟨u,rfl⟩:∃u,args=[u]:=List.length_eq_one_iff.1 hl
 obtain⟨u',h0,h1⟩:=ha 0 _ rfl;obtain rfl:u=u':=by simpa using h0
 obtain rfl:=U6 h1;obtain⟨c,hc,e⟩:∃c:UInt8,((x=(1:Int)/\c=49)\/(x=(2:Int)/\c=50))/\(if x=(1:Int)then [49]else [50])=[c]:=by
  rcases hp with rfl|rfl
  .exact⟨49,.inl ⟨rfl,rfl⟩,rfl⟩
  exact⟨50,.inr ⟨rfl,rfl⟩,rfl⟩
 rw[e];refine(adK x c hc w).mono ?_;rintro e w' ⟨rfl,hb⟩
 refine⟨_,H,rfl,hb,λ_ _ _ h=>h,λb o h1 h2=>absurd h2 h1,λb o x l c h1 h2=>by(rw[h2]at h1;cases h1),λb o y h=>(a b o y h).frame (hb.block b (a b o y h).lt),?_⟩;exact(U7 (l:=[c]) (by unfold BIG;simp):AR w' H γ [] _ _))
end Go.Am
end
