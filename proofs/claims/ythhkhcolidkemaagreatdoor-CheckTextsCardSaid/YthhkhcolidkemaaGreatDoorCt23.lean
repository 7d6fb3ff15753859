/-
  Part 23: AmRead · AmCall.
-/
import Derived.Test.YthhkhcolidkemaaGreatDoorCt22
import Derived.SizedLaws
set_option linter.unusedSimpArgs false
set_option linter.unusedVariables false
set_option linter.unusedSectionVars false
set_option linter.unnecessarySimpa false
section
namespace Go.Am
def snap(W:World):FH:=λb o=>(W.cell? ⟨b,o,none⟩).map HV.c
theorem Q9{W:World}{b o:Nat}{y:Value}(h:W.cell? ⟨b,o,none⟩=some y):snap W b o=some (.c y):=by grind [snap]
theorem aeG{W:World}(b o:Nat)(y:HV)(h:snap W b o=some y):RdV W b o y:=by obtain⟨v,hv,rfl⟩:=ak0.1 h;exact hv
section
variable {P:Program} {W:World} {t:TypeId}
end
end Go.Am
end

section
namespace Go.Am
open Go.RowKit
theorem LP{P:Program}{f:Nat}{fn:Func}{c:Code}(hf:P.funcs[f]? = some fn)(hb:fn.body=some c)(args:List Value)(k:List AV)(W:World)(B:args.length<=fn.ntmps)(q:k.length=args.length)
  (n:∀(i:Nat)v,k[i]? = some v->∃y,args[i]? = some y/\AR W (snap W) (λ_=>.blk 0) [] v y) (p:Globs (snap W)) (K:AV->Prop)
  (l:∀g:G,g.nt=fn.ntmps->AW P g c (ah4 P fn.results.toList K) ⟨eH 0 k,[]⟩) :
  Calls P f args.toArray W (λe w'=>∃v r H γ m,e=.returned v/\K r/\AR w' H γ m r v/\Below W.heap.size W w'):=by
 let g1:G:=⟨fn.ntmps,W,snap W,λ_=>0,λ_=>none,none,[]⟩
 refine calls_of_wp hf hb (Code.wp_mono (λe a' w' hl=>?_) (l g1 rfl _ W ⟨snap W,λ_=>.blk 0,λ_ _=>0,?_⟩))
 .obtain⟨s',hq,H',γ',F',hX'⟩:=hl;have fin:Bn P s' fn.results.toList K->a'.defers=[]/\∃v,(results fn a'.tmps).run P w'=.ok v w'/\∃v0 r H γ m,Ending.returned v=.returned v0/\K r/\AR w' H γ m r v0/\Below W.heap.size W w':=by
   intro hq;obtain⟨y,v,s2,z,I,C,u,E,J,A⟩:=FV hX' rfl hq;have d:=u.fr
   dsimp only[g1]at d;exact⟨u.df.1,y,C,y,v.map T.canon,z,γ',s2.m,rfl,A,iF fw E,⟨d.os,d.tape,d.output,d.size,λb hb=>d.block b hb rfl⟩⟩
  cases e with
  |normal=>exact fin hq
  |ret=>exact fin hq
  |_=>exact hq.elim
 refine⟨⟨λb o y h=>aeG b o y h,λx hx=>by grind,by simp,λb=>alJ _,λb hb=>absurd rfl hb,λb hb=>absurd rfl hb⟩,⟨akK _,rfl,rfl,rfl,λ_ _ _=>rfl,λ_ _ _ h=>h,λb o h2 h3=>absurd h3 h2,λb hb=>absurd rfl hb,o8⟩,?_,⟨rfl,λj b e=>by grind,p⟩,λi=>?_⟩
 .grind
 rw[iw];simp only[alJ,if_true,Nat.sub_zero];cases hi:k[i]? with
 |none=>simp only[Option.getD_none];trivial
 |some v=>
  obtain⟨y,hy,har⟩:=n i v hi;have D:i<args.length:=(al3.1 hy).1
  simp only[amG];have t:(args.toArray++Array.replicate (fn.ntmps-args.toArray.size) undef).getD i undef=y:=by simp_all[alR]
  grind [G.tv_none]
section
variable {P:Program} {W:World} {γ:Gam}
theorem Rn{s:ByteArray}(h:s.data.toList.length<=140737488351232):AR W (snap W) γ [] (.one (.c (.d (.str s.data.toList)))) (.string s):=by
 have:=mT (w:=W) (H:=snap W) (γ:=γ) (m:=[]) (l:=s.data.toList) (by grind [BIG])
 omega
theorem Z9{w:World}{H:FH}{m:Mm}{v:Value}(h:AR w H γ m (o1 cB true) v):v=.bool true:=by obtain⟨_,h⟩:=h;exact jH h
end
end Go.Am
end
