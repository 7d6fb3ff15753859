/-
  Part 20: AmPutG.
-/
import Derived.Test.YtgpedlcblhiklaaGreatDoorVo19
import Derived.Laws.BytesString
import Derived.Laws.IdiomStrings
set_option linter.unusedSimpArgs false
set_option linter.unusedVariables false
set_option linter.unusedSectionVars false
set_option linter.unnecessarySimpa false
open Lt
open Go.Proofs.Tryz
section
namespace Go.Proofs
open Go.RowKit Go
theorem Sz(n:Int)(h:n.natAbs < 10)(w:World):Calls prog 131 #[.int .i64 n] w fun e w'=>e=.returned (.int .u8 (48+n.natAbs:Nat))/\w'=w:=by
 go_enter func131,Tryz.ntmps131
 go_wp2<;>go_ret<;>refine⟨?_,rfl⟩<;>(show Ending.returned (Value.int .u8 _)=_;congr 2;omega)
theorem Uh{j r:Nat}(hj:j < 20)(w:World):(Instr.sliceAt 209 (.pointer (some ⟨r,0,none⟩)) (some (.int .i64 j)) none none).run prog w=.ok (.slice (some ⟨r,j,none⟩) (20-j) (20-j)) w:=by
 unfold Instr.sliceAt;rw[Sem.run_bind,run_underlying underlying209,Result.andThen_ok];have h:=run_sliceBound (P:=prog) w .i64 j 20 .sliceB kQ1 kQ1
 simp[Instr.sliceBounds,Instr.sureAddr,h,Result.andThen,sizeOf5,Am.dA,show ¬ 20=j by omega]
def vb(b:UInt8):Value:=.int .u8 b.toNat
theorem WI{l:List UInt8}{j k:Nat}(h:l.length=j+k)(w:World):(convert 156 9 (.slice (some ⟨w.heap.size,j,none⟩) k k)).run prog (w.alloc (.cells (l.map vb).toArray 209))=.ok (.string ⟨(l.drop j).toArray⟩) (w.alloc (.cells (l.map vb).toArray 209)):=by
 rw[run_convert_bytes_string _ 156 9 5 _ _ _ underlying156 underlying5 underlying9,run_bytesToString _ _ _ _ ((l.drop j).map fun b=>(b.toNat:Int)) (by
  rw[show k=((l.drop j).map fun b=>Value.int .u8 b.toNat).length by simp[h]];rw[aj9];refine run_loadCells_list _ _ _ (fun i v hk=>?_);rw[Am.dA,World.cell?_alloc_new];simpa[vb]using hk)]
 rw[foldl_push_byteCells];simp
def pm(a:Act)(_:World):Nat:=match a.tmps.getD 4 undef with
 |.int _ z=>z.toNat
 |_=>0
theorem vU{α:Type}{l:List α}{i:Nat}{c:α}(h:i<l.length):(l.set i c).drop i=c::l.drop (i+1):=by
 rw[ajO (by simpa using h),List.getElem_set_self,List.drop_set];simp
set_option maxRecDepth 100000 in
set_option maxHeartbeats 4000000 in
theorem ab5(n:Int)(hn:n.natAbs < 10 ^ 19)(w:World):Calls prog 79 #[.int .i64 n] w fun e w'=>e=.returned (.string ⟨(aF n).toArray⟩)/\Below w.heap.size w w':=by
 go_enter func79,Tryz.ntmps79
 go_wp2
 rename_i K L;refine wp_loop (fun a w'=>∃(i:Nat)(r:Int)(l:List UInt8)(E C G J B H g o b f t y d h m q u z p j v x s:Value),(a=⟨#[.int .i64 n,E,C,.pointer (some ⟨w.heap.size,0,none⟩),.int .i64 (i+2:Nat),.int .i64 r,G,J,B,H,g,o,b,f,t,y,d,h,m,q,u,z,p,j,v,x,s],[]⟩/\w'=w.alloc (.cells (l.map vb).toArray 209))/\l.length=20/\i<=18/\r.natAbs < 10 ^ (i+1)/\Lt.digs n.natAbs=Lt.digs r.natAbs++l.drop (i+2)) pm ?_ ?_
 ·exact⟨18,n,List.replicate 20 0,_,_,_,_,_,_,_,_,_,_,_,_,_,_,_,_,_,_,_,_,_,_,_,⟨rfl,rfl⟩,by simp,by omega,hn,by simp⟩
 rintro a w' ⟨i,r,l,E,C,G,J,B,H,g,o,b,f,t,y,d,h,m,q,u,z,p,j,v,x,s,⟨rfl,rfl⟩,h1,h2,h3,h4⟩
 have hd:(r.tmod 10).natAbs < 10:=by rw[Int.natAbs_tmod];exact ak8 _ (by decide)
 go_wp2_with (go_at_call 131;refine(Sz _ hd _).mono ?_;rintro e w' ⟨rfl,rfl⟩)
 any_goals (exfalso;rename Option.map _ _=none=>hz;simp at hz;omega)
 all_goals
  have hq:(r.tdiv 10).natAbs=r.natAbs / 10:=by rw[Int.natAbs_tdiv];rfl
  have hb:r.natAbs < 10 ^ 19:=Nat.lt_of_lt_of_le h3 (Nat.pow_le_pow_right (by decide) kQ1)
  have hw:wrap64 (r.tdiv 10)=r.tdiv 10:=by unfold wrap64;omega
  generalize hc:UInt8.ofNat (48+r.natAbs % 10)=c;have I:Value.int .u8 (48+(r.natAbs:Int) % 10)=vb c:=by subst hc;simp[vb];omega
  have D:((i:Int)+2 - 1)=((i+1:Nat):Int):=by omega
  have A:(((i+1:Nat):Int) - 1)=(i:Int):=by omega
  have F:Value.int .u8 45=vb 45:=rfl
 rotate_left 2
 ·rename (_==(0:Int))=false=>hz
  rw[hw]at hz⊢;simp only[beq_eq_false_iff_ne]at hz;obtain⟨k,rfl⟩:∃k,i=k+1:=by
   cases i with
   |zero=>omega
   |succ k=>exact⟨k,rfl⟩
  simp only[D,A,I,F,<- ajP];refine⟨⟨k,_,_,_,_,_,_,_,_,_,_,_,_,_,_,_,_,_,_,_,_,_,_,_,_,_,⟨rfl,rfl⟩,by simpa using h1,by omega,?_,?_⟩,?_⟩
  ·rw[hq];rw[Nat.pow_succ]at h3;omega
  ·rw[h4,vU kQ1,hq,Lt.digs,if_neg kQ1,hc];simp
  ·simp[pm];omega
 all_goals
  rename (_==(0:Int))=true=>hz
  rw[hw,beq_iff_eq]at hz;rw[hz]at hq;simp only[D,A,I,F,<- ajP];rw[Uh kQ1];simp only[Result.andThen];rw[Oper.upon_value]
  go_wp2
  simp only[<- ajP];rw[WI (by simp;omega)];simp only[Result.andThen];rw[Oper.upon_value]
  go_wp2
  go_ret
  refine⟨?_,(Below.refl _ w).alloc (ai0 _) _⟩;show Ending.returned (Value.string _)=_
  have h5:Lt.digs n.natAbs=(l.set (i+1) c).drop (i+1):=by
   rw[h4,vU kQ1,Lt.digs,if_pos kQ1,<- hc,Nat.mod_eq_of_lt kQ1];rfl
  congr 3
  rw[aF,h5]
 ·rw[if_pos ‹_›,vU (by simp;omega)];rfl
 ·rw[if_neg kQ1];rfl
end Go.Proofs
namespace Go.Am
open Go Go.RowKit Go.Proofs
theorem RZ:Cont prog 79 (uP [.i .i64] [.s] (fun x=>l5 x) (fun x=>aF x)):=gF (fi (fn:=f79) kQ0 kQ0 kQ0) (fun n args w H γ hp hl f g a=>by
 obtain⟨u,rfl⟩:∃u,args=[u]:=akS.1 hl
 obtain⟨u',h0,h1⟩:=f 0 _ rfl;obtain rfl:u=u':=by simpa using h0
 obtain rfl:=UG h1;have hp:Lt.inR n:=hp
 have hb:n.natAbs < 10 ^ 19:=by unfold Lt.inR at hp;omega
 refine(ab5 n hb w).mono ?_;rintro e w' ⟨rfl,d⟩
 refine⟨_,H,rfl,d,fun _ _ _ h=>h,fun b o h1 h2=>absurd h2 h1,fun b o x l c h1 h2=>by(rw[h2]at h1;cases h1),fun b o y h=>(a b o y h).frame (d.block b (a b o y h).lt),?_⟩;exact(GA (l:=aF n) (by have:=gQ hp;unfold BIG;omega):AR w' H γ [] _ _))
end Go.Am
end
