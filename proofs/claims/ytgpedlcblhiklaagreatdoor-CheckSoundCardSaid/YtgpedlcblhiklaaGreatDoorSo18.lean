/-
  Part 18: AmPkT · AmSw · AmPan.
-/
import Derived.Test.YtgpedlcblhiklaaGreatDoorSo17
set_option linter.unusedSimpArgs false
set_option linter.unusedVariables false
set_option linter.unusedSectionVars false
set_option linter.unnecessarySimpa false
open Lt
open Go.Proofs.Tryz
section
namespace Go.Am
open Go
theorem My(n:Int)(hp:lL n)(KK:List UInt8->Prop)(h:KK (Lt.number n)):TH n KK:=⟨hp,h⟩
theorem aeF(x:Int):((BitVec.ofInt IntKind.u64.bits x &&& BitVec.ofInt IntKind.u64.bits 15).toNat:Nat) < 16:=by
 have e:(BitVec.ofInt IntKind.u64.bits 15).toNat=15:=by decide
 rw[BitVec.toNat_and,e];exact Nat.lt_of_le_of_lt Nat.and_le_right kQ1
theorem VD(u x:Int):(0:Int)<=(IntKind.u64.wrap ((BitVec.ofInt IntKind.u64.bits (Int.fdiv (IntKind.u64.wrap u) (2 ^ (min (IntKind.u64.wrap x).toNat IntKind.u64.bits))) &&& BitVec.ofInt IntKind.u64.bits 15).toNat:Nat)) /\
  (IntKind.u64.wrap ((BitVec.ofInt IntKind.u64.bits (Int.fdiv (IntKind.u64.wrap u) (2 ^ (min (IntKind.u64.wrap x).toNat IntKind.u64.bits))) &&& BitVec.ofInt IntKind.u64.bits 15).toNat:Nat)).toNat < ([48,49,50,51,52,53,54,55,56,57,97,98,99,100,101,102]:List UInt8).length:=by
 have h:=aeF (Int.fdiv (IntKind.u64.wrap u) (2 ^ (min (IntKind.u64.wrap x).toNat IntKind.u64.bits)))
 rw[cC kQ1,Int.toNat_natCast];exact⟨af9 _,h⟩
theorem Mq(n:Int)(KK:List UInt8->Prop)(h:KK (eK n)):F9 n KK:=by
 unfold F9;dsimp only;(try simp only[aq,az,aC,aZ,cc,jval,bor,band,bnand,bimp,and_self]);refine aO _ 16 (fun i x=>x=([48,102]++(List.range i).map fun(j:Nat)=>O5 (Lt.Plain n) (60 - 4*(j:Int)),60 - 4*(i:Int))) (fun R i x hi a b=>?_) (fun R x a=>?_) _ rfl
 ·subst a;have hd:decide ((0:Int)<=60 - 4*(i:Int))=true:=by simp;omega
  simp only[hd,if_true];have w:IntKind.i64.wrap (60 - 4*(i:Int) - 4)=60 - 4*((i+1:Nat):Int):=by rw[dk kQ1 kQ1];omega
  refine⟨?_,VD _ _,?_,b _ ?_⟩
  ·have:IntKind.u64.wrap (60 - 4*(i:Int))=60 - 4*(i:Int):=by
    have:=cC (n:=60 - 4*i) kQ1
    rw[show((60 - 4*i:Nat):Int)=60 - 4*(i:Int)by omega]at this;exact this
   rw[this];omega
  ·simp only[af6,af7,List.length_range,af4,agB];omega
  ·rw[w,List.range_succ,ahQ,<- agN];rfl
 ·subst a;have:decide ((0:Int)<=60 - 4*((16:Nat):Int))=false:=by decide
  simp only[this,agA,if_false];exact h
theorem Jm(a:Lt.Arg)(hp:kE a)(KK:List UInt8->Prop)(h:KK (al a)):CA a KK:=by
 unfold CA;(try simp only[aq,az,aC,jval,bor,band,bnand,bimp,and_self]);unfold al at h;unfold kE Lt.Arg.ok at hp;have hq:lL a.N:=hp
 have:=gA hp
 have e:(35::aB a.N).length<=4611686018427387904:=by simp only[af4];omega
 grind
theorem VX(l:List Lt.Arg)(hp:E9 l)(KK:List (List UInt8)->Prop)(h:KK (Lt.puts l)):TI l KK:=by
 obtain⟨hp,hl⟩:=hp;unfold TI;(try simp only[aq,az,aC,aZ,cc,jval,bor,band,bnand,bimp,and_self]);intro _;refine zZ l.length (by unfold LEN;omega) (fun i=>Lt.puts (l.take i)) _ (fun R i hi ih=>?_) (fun R=>?_) rfl
 ·simp only[bP hi,if_true,Int.toNat_natCast];refine⟨⟨af9 i,hi⟩,hp _ (bd l hi),?_,?_⟩
  ·simp only[Lt.puts,af7,ag0,af4,agB];omega
  ·rw[bC l hi]at ih;simp only[Lt.puts,ahQ,af3,ag5]at ih⊢;exact ih
 ·simp only[ji,agA,if_false,agV];exact h
variable{l:List Lt.Var}{n:Int}
theorem gO(h:Lt.typed l n=true):(l.length:Int)<=n:=by
 unfold Lt.typed at h;simp only[afZ,decide_eq_true_eq]at h;exact h.1
variable{i:Nat}{α:Type}
theorem pw{β:Type}[Inhabited α](f:α->β)(l:List α)(h:i<l.length):(l.take (i+1)).map f=(l.take i).map f++[f (l.getD i default)]:=by
 rw[bC l h,ahQ];rfl
theorem BQ(s:Lt.Sheet)(w:List (List UInt8))(hp:bt s w)(KK:Unit×Lt.Sheet->Prop)(h:KK (aT s w)):wM s w KK:=by
 unfold bt Lt.room at hp;unfold wM;(try simp only[aq,az,aC,jval,bor,band,bnand,bimp,and_self]);exact⟨⟨by simp only[af4,agB];omega,by simp only[af4,agB];omega⟩,h⟩
theorem BR(s:Lt.Sheet)(first:List UInt8)(l:List Lt.Var)(hp:iV s first l)(KK:Unit×Lt.Sheet->Prop)(h:KK (dc s first l)):wN s first l KK:=by
 unfold iV Lt.room at hp;unfold wN;(try simp only[aq,az,aC,aZ,cc,jval,bor,band,bnand,bimp,and_self]);intro hl;refine fD l.length hl (fun i=>(⟨s.l++fL first (l.take i)⟩:Lt.Sheet)) _ (fun R i hi ih=>?_) (fun R=>?_) (by simp[fL])
 ·simp only[bP hi,if_true,Int.toNat_natCast]
  try dsimp +instances only [Int.toNat_natCast]
  refine⟨⟨af9 i,hi⟩,?_,?_⟩
  ·unfold bt Lt.room;simp only[fL,af6,af7,ag0];omega
  ·simp only[fL,pw _ l hi,<- agN]at ih;exact ih
 ·simp only[ji,agA,if_false];rw[agV];exact h
theorem pD(l:List Lt.Arg):(Lt.puts l).length=l.length:=by simp[Lt.puts]
theorem BP(s:Lt.Sheet)(i:Lt.Instr)(hp:Pq s i)(KK:Unit×Lt.Sheet->Prop)(h:KK (wv s i)):wL s i KK:=by
 obtain⟨r,hi,d⟩:=hp;unfold Lt.room at d;obtain⟨q,okF,okO⟩:=r;have I:=eD hi
 have H:=I.args;have f16:=I.frames;have C:=I.objs
 have D:=pD i.Args
 unfold wL;dsimp only;(try simp only[aq,az,aC,jval,bor,band,bnand,bimp,and_self]);intro G x;have y:∀p:List (List UInt8),p=(if(Lt.Of i.Op).1.Dst then [i.Dst,[61]]else [])->p.length<=2->G p:=by
  intro E e c;refine x E ⟨⟨by simp only[af4,agB];omega,by simp only[af4,agB];omega⟩,⟨q,by omega⟩,?_⟩;intro F w;have u:∀m n,m++n=Lt.words i->m.length+n.length<=100->F (m,n):=by
   intro m n e c;refine w _ ⟨⟨by dsimp only;omega,by dsimp only;omega⟩,by unfold bt Lt.room;omega,fun hl=>?_⟩;dsimp only;rw[e];refine fD i.Frames.length hl (fun k=>(⟨s.l++[Lt.ln (Lt.words i)]++(i.Frames.take k).map (fun f=>Lt.ln (gr f))⟩:Lt.Sheet)) _ (fun R k hk ih=>?_) (fun R=>?_) (by simp[aT,Lt.ln])
   ·simp only[bP hk,if_true,Int.toNat_natCast]
    try dsimp +instances only [Int.toNat_natCast]
    have V:=pb (bL I.fr hk)
    refine⟨⟨af9 k,hk⟩,?_,fun v=>?_⟩
    ·have:=V.2.2.1;have:=V.2.2.2.1
     exact⟨by omega,by omega⟩
    ·have z:=V.2.2.2.2.1
     have t:(i.Frames.getD k default).ok:=bL okF hk
     refine zZ (i.Frames.getD k default).Vars.length v (fun j=>[[97,116],(i.Frames.getD k default).Func,(i.Frames.getD k default).Block,Lt.number (i.Frames.getD k default).At]++((i.Frames.getD k default).Vars.take j).flatMap fun b=>[b.Name,al b.A]) _
      (fun B j hj g=>?_) (fun B=>?_) (by simp)
     ·simp only[bP hj,if_true,Int.toNat_natCast]
      try dsimp +instances only [Int.toNat_natCast]
      refine⟨⟨af9 j,hj⟩,t.2 _ (bd _ hj),?_,?_⟩
      ·simp only[af6,OZ,af4,agB,ag0];omega
      ·simp only[jV _ _ hj,<- agN]at g;exact g
     ·simp only[ji,agA,if_false];refine⟨?_,?_⟩
      ·unfold bt Lt.room;simp only[af6,af7,ag0,af4,agB];omega
      ·simp only[pw _ i.Frames hk,<- agN]at ih;rw[agV];exact ih
   ·simp only[ji,agA,if_false];intro hl;rw[agV];refine fD i.Objs.length hl (fun k=>(⟨s.l++[Lt.ln (Lt.words i)]++i.Frames.map (fun f=>Lt.ln (gr f))++(i.Objs.take k).map (fun o=>Lt.ln (mW o))⟩:Lt.Sheet)) _ (fun R k hk ih=>?_) (fun R=>?_) (by simp)
    ·simp only[bP hk,if_true,Int.toNat_natCast]
     try dsimp +instances only [Int.toNat_natCast]
     have V:=yn (bL I.ob hk)
     have c:(Lt.puts (i.Objs.getD k default).Vals).length<=8:=by rw[pD];exact V.2.1
     refine⟨⟨af9 k,hk⟩,⟨bL okO hk,by omega⟩,⟨by simp only[af4,agB];omega,by simp only[af4,agB];omega⟩,?_,?_⟩
     ·unfold bt Lt.room;simp only[af6,af7,ag0,af4,agB];omega
     ·simp only[pw _ i.Objs hk,<- agN]at ih;exact ih
    ·simp only[ji,agA,if_false];rw[agV];simp only[wv,gJ,<- agN]at h;exact h
  refine ifk (fun hc=>?_) (fun hc=>?_)
  ·have a:i.Op=26\/i.Op=27:=by simpa using hc
   have h1:=I.least a
   refine⟨⟨Int.le_refl _,by omega⟩,?_,by omega,⟨by omega,by omega⟩,?_⟩
   ·simp only[af6,af4,agB];omega
   ·refine u _ _ ?_ ?_
    ·rw[Lt.words,if_pos a,<- e,ag4 (by simp)];simp
    ·simp only[af6,af4,agB,ag0,aiD];omega
  ·have a:¬ (i.Op=26\/i.Op=27):=by simpa using hc
   refine ifk (fun hn=>?_) (fun hn=>?_)
   ·refine⟨?_,u _ _ ?_ ?_⟩
    ·simp only[af6,af4,agB];omega
    ·rw[Lt.words,if_neg a,<- e,if_pos hn];simp
    ·simp only[af6,af4,agB];omega
   ·refine u _ _ ?_ ?_
    ·rw[Lt.words,if_neg a,<- e,if_neg hn];simp
    ·simp only[af6,af4,agB];omega
 refine ifk (fun hd=>⟨by simp,y _ (by rw[if_pos hd]) (by simp)⟩) (fun hd=>y _ (by rw[if_neg hd]) (by simp))
theorem EN(s:Lt.Sheet)(t:Lt.Term)(hp:WF s t)(KK:Unit×Lt.Sheet->Prop)(h:KK (Bh s t)):yK s t KK:=by
 obtain⟨⟨c,f⟩,d,e⟩:=hp;unfold Lt.room at e;have hl:∀w,bt s w:=fun w=>by unfold bt Lt.room;omega
 unfold dp at d;rw[afZ]at d
 replace d:=d.2
 unfold Bh gW at h;unfold yK;dsimp only;(try simp only[aq,az,aC,jval,bor,band,bnand,bimp,and_self]);simp only[decide_eq_true_eq];refine ifk (fun hc=>?_) (fun hc=>?_)
 ·rw[if_pos hc]at h d;simp only[afZ,decide_eq_true_eq]at d;exact⟨⟨Int.le_refl _,by omega⟩,hl _,h⟩
 rw[if_neg hc]at h d;refine ifk (fun hc=>?_) (fun hc=>?_)
 ·rw[if_pos hc]at h d;simp only[afZ,decide_eq_true_eq]at d;have a:(0:Int)<=0/\0<t.To.length:=⟨Int.le_refl _,by omega⟩
  have b:(0:Int)<=1/\1<t.To.length:=⟨by omega,by omega⟩
  exact⟨⟨c,a,b,hl _,h⟩,⟨a,⟨c,b,hl _,h⟩,b,c,hl _,h⟩,b,⟨c,a,hl _,h⟩,a,c,hl _,h⟩
 rw[if_neg hc]at h d;refine ifk (fun hc=>?_) (fun hc=>?_)
 ·rw[if_pos hc]at h;exact⟨c,hl _,h⟩
 ·rw[if_neg hc]at h;exact⟨f,hl _,h⟩
theorem vA{i:Lt.Instr}(h:Lt.instr i=true):(gJ i).length<=116:=by
 have I:=eD h
 have:=I.frames;have:=I.objs
 simp only[gJ,af6,af7,af4,agB];omega
theorem dY{β:Type}(f:α->List β)(k:Nat):∀(l:List α),(∀x∈l,(f x).length<=k)->(l.flatMap f).length<=k*l.length
 |[],_=>by simp
 |a::l,h=>by
  have:=dY f k l (fun x hx=>h x (agM _ hx))
  have:=h a (by simp)
  rw[ag3,af6,af4,Nat.mul_add];omega
theorem ui{l:List α}{x:α}(h:x∈l.take i):x∈l:=List.mem_of_mem_take h
variable{b:Lt.Block}
theorem LC(h:Lt.block b=true):(dN b).length<=2+116*(b.Phis.length+b.Code.length):=by
 have B:=me h
 have:=dY gJ 116 b.Code (fun x hx=>vA (B.2.2.2 x hx))
 simp only[dN,af6,af7,af4,agB];omega
theorem oU:∀(l:List Lt.Block),(∀b∈l,Lt.block b=true)->(l.flatMap dN).length<=2*l.length+116*longs l
 |[],_=>by simp
 |b::l,h=>by
  have h1:=oU l (fun x hx=>h x (agM _ hx))
  have h2:=LC (h b (by simp))
  rw[ag3,af6,af4];simp only[longs,af3,List.sum_cons]at h1⊢;omega
theorem MO(l:List Lt.Block)(i:Nat):longs (l.take i)<=longs l:=by
 have:longs l=longs (l.take i)+longs (l.drop i):=by
  unfold longs;rw[<- List.sum_append,<- ahQ,ahE]
 omega
theorem R0(l:List Lt.Block)(h:i<l.length):longs (l.take i)+((l.getD i default).Phis.length+(l.getD i default).Code.length)<=longs l:=by
 have:=MO l (i+1)
 rw[bC l h]at this;unfold longs at this⊢;rw[ahQ,List.sum_append]at this;simp only[af3,ag5,List.sum_cons,List.sum_nil]at this;omega
variable{f:Lt.Func}
theorem C6(h:ay f=true):(fS f).length<=130000:=by
 have F:=nB h
 have h1:=gO F.params;have h2:=gO F.vars
 have h3:=oU f.Blocks F.bl
 have:=F.len;have:=F.long
 simp only[fS,fL,af6,af7,af4,agB];omega
theorem ub(s:Lt.Sheet)(f:Lt.Func)(hp:xq s f)(KK:Unit×Lt.Sheet->Prop)(h:KK (lR s f)):oq s f KK:=by
 obtain⟨p,hf,g⟩:=hp;unfold Lt.room at g;have F:=nB hf
 have J:=gO F.params;have y:=gO F.vars
 have H:=F.len;have r:=F.long
 unfold oq;dsimp only;(try simp only[aq,az,aC,jval,bor,band,bnand,bimp,and_self]);refine⟨?_,?_,?_,fun hl=>?_⟩
 ·unfold bt Lt.room;omega
 ·unfold iV Lt.room;simp only[aT,af6,af4,agB];omega
 ·unfold iV Lt.room;simp only[aT,dc,fL,af6,af4,agB,af7];omega
 ·generalize hx0:(dc (dc (aT s [[102,117,110,99],f.Name,f.Result]).2 [112,97,114,97,109] f.Params).2 [118,97,114] f.Vars).2=d;obtain⟨d⟩:=d;have D:d.length<=s.l.length+1031:=by
   have:=congrArg (fun x=>x.l.length) hx0
   simp only[aT,dc,fL,af6,af4,agB,af7]at this;omega
  have h':KK ((),⟨d++f.Blocks.flatMap dN⟩):=by
   have e:d=_:=(congrArg Lt.Sheet.l hx0).symm
   rw[e];simp only[lR,fS,dc,aT,agN]at h⊢;exact h
  refine fD f.Blocks.length hl (fun k=>(⟨d++(f.Blocks.take k).flatMap dN⟩:Lt.Sheet)) _ (fun R k hk ih=>?_) (fun R=>?_) (by simp)
  ·simp only[bP hk,if_true,Int.toNat_natCast]
   try dsimp +instances only [Int.toNat_natCast]
   generalize hb:f.Blocks.getD k default=b;have B:=me (bL F.bl hk)
   have n:=oU (f.Blocks.take k) (fun x hx=>F.bl x (ui hx))
   have hget:=R0 f.Blocks hk
   have c:=bL p hk
   rw[hb]at B hget c;have E:(f.Blocks.take k).length<=256:=by rw[ag0];omega
   generalize hX:(f.Blocks.take k).flatMap dN=X at n;simp only[jV dN f.Blocks hk,hX,hb]at ih;have I:X.length+116*(b.Phis.length+b.Code.length)<=119296:=by omega
   refine⟨⟨af9 k,hk⟩,?_,fun v=>?_⟩
   ·unfold bt Lt.room;simp only[af6];omega
   ·refine fD b.Phis.length v (fun j=>(⟨d++X++[Lt.ln [[98,108,111,99,107],b.Name]]++(b.Phis.take j).map (fun x=>Lt.ln (wd x))⟩:Lt.Sheet)) _ (fun G j hj a=>?_) (fun G=>?_) (by simp[aT])
    ·simp only[bP hj,if_true,Int.toNat_natCast]
     try dsimp +instances only [Int.toNat_natCast]
     refine⟨⟨af9 j,hj⟩,fun w=>?_⟩;generalize hp:b.Phis.getD j default=x at *;have P:=AK (bL B.2.2.1 hj)
     have m:=bL c.1 hj
     rw[hp]at P m;have z:=P.2.2.1
     refine zZ x.Ins.length w (fun i=>[[112,104,105],x.Dst]++(x.Ins.take i).flatMap fun i=>[i.Block,al i.A]) _ (fun t i hi o=>?_) (fun t=>?_) (by simp)
     ·simp only[bP hi,if_true,Int.toNat_natCast]
      try dsimp +instances only [Int.toNat_natCast]
      refine⟨⟨af9 i,hi⟩,m.2 _ (bd _ hi),?_,?_⟩
      ·simp only[af6,OZ,af4,agB,ag0];omega
      ·simp only[jV _ _ hi,<- agN]at o;exact o
     ·simp only[ji,agA,if_false];refine⟨?_,?_⟩
      ·unfold bt Lt.room;simp only[af6,af7,ag0,af4,agB];omega
      ·simp only[pw _ b.Phis hj,<- agN,hp]at a;rw[agV];exact a
    ·simp only[ji,agA,if_false];rw[agV];intro q;refine fD b.Code.length q (fun j=>(⟨d++X++[Lt.ln [[98,108,111,99,107],b.Name]]++b.Phis.map (fun x=>Lt.ln (wd x))++(b.Code.take j).flatMap gJ⟩:Lt.Sheet)) _ (fun t j hj a=>?_) (fun t=>?_) (by simp)
     ·simp only[bP hj,if_true,Int.toNat_natCast]
      try dsimp +instances only [Int.toNat_natCast]
      have hc:=dY gJ 116 (b.Code.take j) (fun x hx=>vA (B.2.2.2 x (ui hx)))
      have u:(b.Code.take j).length<=b.Code.length:=by rw[ag0];omega
      have C:116*(b.Code.take j).length<=116*b.Code.length:=Nat.mul_le_mul_left _ u
      refine⟨⟨af9 j,hj⟩,⟨bL c.2.1 hj,bL B.2.2.2 hj,?_⟩,?_⟩
      ·unfold Lt.room;simp only[af6,af7,af4,agB];omega
      ·simp only[jV _ _ hj,<- agN]at a;exact a
     ·simp only[ji,agA,if_false];rw[agV];have hc:=dY gJ 116 b.Code (fun x hx=>vA (B.2.2.2 x hx))
      refine⟨⟨c.2.2,B.2.1,?_⟩,?_⟩
      ·unfold Lt.room;simp only[af6,af7,af4,agB];omega
      ·simp only[dN,<- agN]at ih;exact ih
  ·simp only[ji,agA,if_false];rw[agV];exact h'
def small(w:List UInt8):Prop:=w.length<=100
instance (w:List UInt8):Decidable (small w):=inferInstanceAs (Decidable (w.length<=100))
def sm(x:Lt.Line):Prop:=x.Words.length<=600/\∀w∈x.Words,small w
theorem aaW:∀(ws:List (List UInt8))(b:Bool),(∀w∈ws,small w)->(Lt.jw b ws).length<=101*ws.length
 |[],_,_=>by simp[Lt.jw]
 |w::r,b,h=>by
  have h1:=aaW r true (fun x hx=>h x (agM _ hx))
  have h2:w.length<=100:=h w (by simp)
  rw[Lt.jw];simp only[af6,af4];split<;>simp only[af4,agB]<;>omega
theorem xl:∀(l:List Lt.Line),(∀x∈l,sm x)->(bv l).length<=60601*l.length
 |[],_=>by simp[bv]
 |x::l,h=>by
  have h1:=xl l (fun y hy=>h y (agM _ hy))
  obtain⟨h2,h3⟩:=h x (by simp);have h4:=aaW x.Words false h3
  have:101*x.Words.length<=101*600:=Nat.mul_le_mul_left _ h2
  rw[bv,ag3];rw[bv]at h1;simp only[af6,af4,agB];omega
variable{s:List UInt8}
theorem Gx(h:Lt.Name s=true):s.length<=16:=by
 unfold Lt.Name at h;simp only[afZ,decide_eq_true_eq]at h;exact h.1.1.1.2
theorem bf(h:Lt.Name s=true):small s:=by have:=Gx h;unfold small;omega
theorem Ah(h:Lt.kind s=true):small s:=by
 unfold Lt.kind at h;simp only[ag2,decide_eq_true_eq]at h;rcases h with(rfl|rfl)|h
 ·decide
 ·decide
 ·exact bf h
theorem uk(l:List UInt8):∀(k:Nat)(n:Int)(f i:Nat),(E2 l k n f i).length<=l.length
 |0,_,_,_=>by simp[E2]
 |k+1,n,f,i=>by
  rw[E2];split
  ·split
   ·split
    ·simp;omega
    ·exact uk l k _ _ _
   ·exact uk l k _ _ _
  ·simp
theorem Mf{c:Prop}[Decidable c]{a b k:Nat}(h1:a<=k)(h2:b<=k):(if c then a else b)<=k:=by split<;>assumption
theorem T1(op:Int):small (Lt.Of op).1.Word:=by
 have h1:(Lt.nth Lt.two op).length<=100:=ahK (uk _ _ _ _ _) (by decide)
 have h2:(Lt.nth [32,105,116,111,102,32,102,116,111,105,32,109,111,118,32] (IntKind.i64.wrap (op - 21))).length<=100:=ahK (uk _ _ _ _ _) (by decide)
 unfold small Lt.Of;simp only[apply_ite Prod.fst,apply_ite Lt.Form.Word,apply_ite List.length,af4,agB];refine Mf h1 (Mf h2 ?_)
 repeat refine Mf kQ1 ?_
 omega
theorem fZ{a:Lt.Arg}(h:a.ok):small (al a):=by
 have hn:=gA h
 have hf:=L4 a.N
 unfold small al;split
 ·rename_i hr;split
  ·omega
  ·split
   ·omega
   ·split
    ·decide
    ·split
     ·simp only[af4];omega
     ·rcases eH hr with h|h|h|h|h
      ·have:=Gx h.2.1;omega
      ·exact absurd h.1 (by assumption)
      ·exact absurd h.1 (by assumption)
      ·exact absurd h.1 (by assumption)
      ·exact absurd h.1 (by assumption)
 ·decide
theorem A0{l:List Lt.Arg}(h:rR l):∀w∈Lt.puts l,small w:=by
 intro w hw;obtain⟨a,b,rfl⟩:=agL.1 hw;exact fZ (h a b)
theorem uU(first:List UInt8)(hf:small first)(h:Lt.typed l n=true):∀x∈fL first l,sm x:=by
 intro x hx;obtain⟨v,hv,rfl⟩:=agL.1 hx;unfold Lt.typed at h;simp only[afZ,agH]at h;have:=h.2 v hv
 refine⟨by simp[Lt.ln],fun w hw=>?_⟩;simp only[Lt.ln,agC,agX,or_false]at hw;rcases hw with rfl|rfl|rfl
 ·exact hf
 ·exact bf this.1
 ·exact Ah this.2
theorem nS(h:Lt.inR n):small (Lt.number n):=by have:=gA h;unfold small Lt.number;omega
theorem U9{i:Lt.Instr}(h:Lt.instr i=true)(a:i.ok):∀x∈gJ i,sm x:=by
 have I:=eD h
 obtain⟨c,okF,okO⟩:=a;have d:=I.args
 intro x hx;simp only[gJ,agE,agI,agL]at hx;rcases hx with(rfl|⟨f,hf,rfl⟩)|⟨o,ho,rfl⟩
 ·refine⟨?_,fun w hw=>?_⟩
  ·simp only[Lt.ln,Lt.words,af6];split<;>split<;>(try split)<;>simp only[af4,agB,af6,aiD,pD]<;>omega
  ·have hp:=A0 c
   simp only[Lt.ln,Lt.words,agE]at hw;rcases hw with(hw|hw)|hw
   ·split at hw
    ·rename_i hd;simp only[agC,agX,or_false]at hw;rcases hw with rfl|rfl
     ·exact bf (I.dstN hd)
     ·decide
    ·cases hw
   ·simp only[agI]at hw;subst hw;exact T1 _
   ·split at hw
    ·rename_i hc;have h1:=I.least hc
     simp only[agC]at hw;rcases hw with rfl|rfl|hw
     ·exact hp _ (bd _ (by rw[pD];omega))
     ·have:(Lt.Of i.Op).1.Named=true:=by rcases hc with e|e<;>rw[e]<;>decide
      exact bf (I.nmN this)
     ·exact hp _ (List.mem_of_mem_drop hw)
    ·simp only[agE]at hw;rcases hw with hw|hw
     ·split at hw
      ·rename_i hd;simp only[agI]at hw;subst hw;exact bf (I.nmN hd)
      ·cases hw
     ·exact hp _ hw
 ·have V:=pb (I.fr f hf)
  refine⟨?_,fun w hw=>?_⟩
  ·have:=V.2.2.2.2.1
   simp only[Lt.ln,gr,af6,OZ,af4,agB];omega
  ·simp only[Lt.ln,gr,agE,agC,agX,or_false,ahI]at hw;rcases hw with(rfl|rfl|rfl|rfl)|⟨b,hb,rfl|rfl⟩
   ·decide
   ·exact bf V.1
   ·exact bf V.2.1
   ·have:=V.2.2.1;have:=V.2.2.2.1
    exact nS ⟨by omega,by omega⟩
   ·have:=V.2.2.2.2.2 b hb
    unfold gF at this;rw[afZ]at this;exact bf this.1
   ·exact fZ ((okF f hf).2 b hb)
 ·have V:=yn (I.ob o ho)
  refine⟨?_,fun w hw=>?_⟩
  ·simp only[Lt.ln,mW,af6,pD,af4,agB];omega
  ·simp only[Lt.ln,mW,agE,agC,agX,or_false]at hw;rcases hw with(rfl|rfl)|hw
   ·decide
   ·exact bf V.1
   ·exact A0 (okO o ho) _ hw
theorem YD{t:Lt.Term}(h:dp t=true)(a:t.ok):sm (Lt.ln (gW t)):=by
 unfold dp at h;rw[afZ,agH]at h;obtain⟨h1,h2⟩:=h;refine⟨?_,fun w hw=>?_⟩
 ·simp only[Lt.ln,gW]
  repeat' split
  all_goals simp
 ·simp only[Lt.ln,gW]at hw;split at hw
  ·rename_i hc;rw[if_pos hc]at h2;simp only[afZ,decide_eq_true_eq]at h2;simp only[agC,agX,or_false]at hw;rcases hw with rfl|rfl
   ·decide
   ·exact bf (h1 _ (bd _ kQ1))
  ·rename_i hc;rw[if_neg hc]at h2;split at hw
   ·rename_i hc;rw[if_pos hc]at h2;simp only[afZ,decide_eq_true_eq]at h2;simp only[agC,agX,or_false]at hw;rcases hw with rfl|rfl|rfl|rfl
    ·decide
    ·exact fZ a.1
    ·exact bf (h1 _ (bd _ kQ1))
    ·exact bf (h1 _ (bd _ kQ1))
   ·split at hw
    ·simp only[agC,agX,or_false]at hw;rcases hw with rfl|rfl
     ·decide
     ·exact fZ a.1
    ·simp only[agC,agX,or_false]at hw;rcases hw with rfl|rfl
     ·decide
     ·exact nS a.2
theorem Qr(h:Lt.block b=true)(a:b.ok):∀x∈dN b,sm x:=by
 have B:=me h
 intro x hx;simp only[dN,agE,agI,agL,ahI]at hx;rcases hx with((rfl|⟨y,hy,rfl⟩)|⟨i,hi,hx⟩)|rfl
 ·refine⟨by simp[Lt.ln],fun w hw=>?_⟩;simp only[Lt.ln,agC,agX,or_false]at hw;rcases hw with rfl|rfl
  ·decide
  ·exact bf B.1
 ·have P:=AK (B.2.2.1 y hy)
  refine⟨?_,fun w hw=>?_⟩
  ·have:=P.2.2.1
   simp only[Lt.ln,wd,af6,OZ,af4,agB];omega
  ·simp only[Lt.ln,wd,agE,agC,agX,or_false,ahI]at hw;rcases hw with(rfl|rfl)|⟨b',hb,rfl|rfl⟩
   ·decide
   ·exact bf P.1
   ·have:=P.2.2.2 b' hb
    unfold ll at this;rw[afZ]at this;exact bf this.1
   ·exact fZ ((a.1 y hy).2 b' hb)
 ·exact U9 (B.2.2.2 i hi) (a.2.1 i hi) x hx
 ·exact YD B.2.1 a.2.2
theorem Vu(h:ay f=true)(a:f.ok):∀x∈fS f,sm x:=by
 have F:=nB h
 intro x hx;simp only[fS,agE,agI,ahI]at hx;rcases hx with((rfl|hx)|hx)|⟨b,hb,hx⟩
 ·refine⟨by simp[Lt.ln],fun w hw=>?_⟩;simp only[Lt.ln,agC,agX,or_false]at hw;rcases hw with rfl|rfl|rfl
  ·decide
  ·exact bf F.name
  ·exact Ah F.res
 ·exact uU _ (by decide) F.params x hx
 ·exact uU _ (by decide) F.vars x hx
 ·exact Qr (F.bl b hb) (a b hb) x hx
variable{p:Lt.Program}
theorem WL(h:bB p=true)(a:p.ok):∀x∈kH p,sm x:=by
 have P:=qM h
 intro x hx;simp only[kH,agE,ahI,agL]at hx;rcases hx with(((hx|⟨c,hc,hx⟩)|hx)|⟨e,he,rfl⟩)|⟨f,hf,hx⟩
 ·split at hx
  ·simp only[agI]at hx;subst hx;refine⟨by simp[Lt.ln],fun w hw=>?_⟩;simp only[Lt.ln,agI]at hw;subst hw;decide
  ·cases hx
 ·have C:=P.cl c hc
  unfold bF at C;rw[afZ]at C;simp only[dO,agE,agI]at hx;rcases hx with rfl|hx
  ·refine⟨by simp[Lt.ln],fun w hw=>?_⟩;simp only[Lt.ln,agC,agX,or_false]at hw;rcases hw with rfl|rfl
   ·decide
   ·exact bf C.1
  ·exact uU _ (by decide) C.2 x hx
 ·exact uU _ (by decide) P.glob x hx
 ·have E:=P.ex e he
  unfold bW at E;simp only[afZ,decide_eq_true_eq]at E;refine⟨by simp[Lt.ln,iS],fun w hw=>?_⟩;simp only[Lt.ln,iS,agC,agX,or_false]at hw;rcases hw with rfl|rfl|rfl
  ·decide
  ·exact bf E.1.1
  ·exact nS ⟨by omega,by omega⟩
 ·exact Vu (P.fn f hf) (a f hf) x hx
theorem rY{c:Lt.Class}(h:bF c=true):(dO c).length<=9:=by
 unfold bF at h;rw[afZ]at h;have:=gO h.2
 simp only[dO,fL,af6,af7,af4,agB];omega
theorem So(h:bB p=true):(kH p).length<=1050000:=by
 have P:=qM h
 have h1:=dY dO 9 p.Classes (fun c hc=>rY (P.cl c hc))
 have h2:=dY fS 130000 p.Funcs (fun f hf=>C6 (P.fn f hf))
 have h3:=gO P.glob
 have:=P.nc;have:=P.ne;have:=P.nf
 have h4:(if p.SSA=true then [Lt.ln [[115,115,97]]]else []).length<=1:=by split<;>simp
 simp only[kH,fL,af6,af7];omega
theorem EP(p:Lt.Program)(hp:Fa p)(KK:List UInt8×Int->Prop)(h:KK (mU p)):yM p KK:=by
 unfold Fa at hp;unfold yM;dsimp only;(try simp only[aq,az,aC,jval,bor,band,bnand,bimp,and_self]);unfold mU at h;refine ifk (fun hc=>kk h (by grind)) (fun hr=>?_)
 replace hr:bB p=true:=by simpa using hr
 have P:=qM hr
 have o:=P.nc;have s:=P.ne;have v:=P.nf
 have d:=gO P.glob
 rw[hr,if_pos rfl]at h;have k:(bv (kH p)).length<=140737488355328:=by
  have h1:=xl _ (WL hr hp)
  have h2:=So hr
  omega
 intro J u;have n:∀x:List Lt.Line,x=(if p.SSA=true then [Lt.ln [[115,115,97]]]else [])->J ⟨x⟩:=by
  intro x hx;refine u _ (fun hl=>?_);have r:x.length<=1:=by rw[hx];split<;>simp
  refine fD p.Classes.length hl (fun i=>(⟨x++(p.Classes.take i).flatMap dO⟩:Lt.Sheet)) _ (fun R i hi ih=>?_) (fun R=>?_) (by simp)
  ·simp only[bP hi,if_true,Int.toNat_natCast]
   try dsimp +instances only [Int.toNat_natCast]
   have C:=bL P.cl hi
   have w:=C
   unfold bF at C;rw[afZ]at C;have a:=dY dO 9 (p.Classes.take i) (fun c hc=>rY (P.cl c (ui hc)))
   have m:(p.Classes.take i).length<=8:=by rw[ag0];omega
   have q:=gO C.2
   refine⟨⟨af9 i,hi⟩,?_,?_,?_⟩
   ·unfold bt Lt.room;simp only[af6];omega
   ·unfold iV Lt.room;simp only[aT,af6,af4,agB];omega
   ·simp only[jV _ _ hi,<- agN,dO]at ih;exact ih
  ·simp only[ji,agA,if_false];rw[agV];have a:=dY dO 9 p.Classes (fun c hc=>rY (P.cl c hc))
   refine⟨?_,fun g=>?_⟩
   ·unfold iV Lt.room;simp only[af6];omega
   ·generalize hy:(dc ⟨x++p.Classes.flatMap dO⟩ [103,108,111,98,97,108] p.Globals).2=y;obtain⟨y⟩:=y;have b:=congrArg Lt.Sheet.l hy
    have t:y.length<=100:=by
     rw[show y=_ from b.symm];simp only[dc,fL,af6,af7];omega
    refine fD p.Externs.length g (fun i=>(⟨y++(p.Externs.take i).map iS⟩:Lt.Sheet)) _ (fun R i hi ih=>?_) (fun R=>?_) (by simp)
    ·simp only[bP hi,if_true,Int.toNat_natCast]
     try dsimp +instances only [Int.toNat_natCast]
     have E:=bL P.ex hi
     unfold bW at E;simp only[afZ,decide_eq_true_eq]at E;refine⟨⟨af9 i,hi⟩,⟨by omega,by omega⟩,?_,?_⟩
     ·unfold bt Lt.room;simp only[af6,af7,ag0];omega
     ·simp only[pw _ _ hi,<- agN]at ih;exact ih
    ·simp only[ji,agA,if_false];rw[agV];intro j;refine fD p.Funcs.length j (fun i=>(⟨y++p.Externs.map iS++(p.Funcs.take i).flatMap fS⟩:Lt.Sheet)) _ (fun R i hi ih=>?_) (fun R=>?_) (by simp)
     ·simp only[bP hi,if_true,Int.toNat_natCast]
      try dsimp +instances only [Int.toNat_natCast]
      have a:=dY fS 130000 (p.Funcs.take i) (fun f hf=>C6 (P.fn f (ui hf)))
      have m:(p.Funcs.take i).length<=8:=by rw[ag0];omega
      refine⟨⟨af9 i,hi⟩,⟨bL hp hi,bL P.fn hi,?_⟩,?_⟩
      ·unfold Lt.room;simp only[af6,af7];omega
      ·simp only[jV _ _ hi,<- agN]at ih;exact ih
     ·simp only[ji,agA,if_false];rw[agV];have e:y++p.Externs.map iS++p.Funcs.flatMap fS=kH p:=by
       rw[show y=_ from b.symm,kH,<- hx];rfl
      rw[e];refine⟨k,fun _=>kk h ?_⟩;unfold Lt.Join
      grind
 exact ifk (fun hs=>⟨by unfold bt Lt.room;simp,n _ (by rw[if_pos hs];rfl)⟩) (fun hs=>n _ (by rw[if_neg hs]))
end Go.Am
end

section
namespace Go.Am
def Nm.sw:Nm->Nm
 |.loc i=>.out i
 |.out i=>.loc i
 |.gh v=>.gh v
theorem Nm.sw_sw:∀n:Nm,n.sw.sw=n
 |.loc _=>rfl
 |.out _=>rfl
 |.gh _=>rfl
theorem Nm.sw_tyd:∀n:Nm,n.sw.tyd=n.tyd
 |.loc _=>rfl
 |.out _=>rfl
 |.gh _=>rfl
theorem ae8:NmR Nm.sw:=⟨Nm.sw_sw,Nm.sw_tyd⟩
abbrev St.sw(s:St):St:=s.rn Nm.sw
abbrev swG(γ:Gam):Gam:=rnG Nm.sw γ
section
variable {w:World} {H:FH} {γ:Gam} {F:Nm->Fp}
def rD(γ:Gam):Nat->Option Nat:=fun i=>match γ (.loc i)with
 |.blk b=>some b
 |.gh _=>none
theorem ad1{g:G}{s:St}{a a':Act}(h:RX g s.toS a w H γ F){ds:List Deferred}(h1:a'.tmps=a.tmps)(h2:a'.defers=ds):RX ⟨g.nt,g.w0,g.H0,g.own0,rD γ,g.ex,ds⟩ s.sw.toS a' w H (swG γ) (fun n=>F n.sw):=by
 refine OF ae8 h h1 h2 (fun j b hb=>?_);show γ (.loc j)=.blk b
 unfold rD at hb;split at hb
 ·rename_i b' c;rw[c];simp only[af0]at hb;rw[hb]
 ·cases hb
end
end Go.Am
end

section
namespace Go.Am
open Go Go.RowKit Go.Proofs
theorem Ke(n:Int)(w:World):Calls prog 157 #[.int .i64 n] w fun e w'=>e=.panicked (chn (Lt.flt n))/\w'=w:=by
 go_enter func157,Tryz.ntmps157
 go_wp2
 exact⟨rfl,rfl,rfl⟩
theorem acA{v:At}{x:Int}(h:da [.i .i64] [v]=some x):v.toV.map T.canon=.one (.c (.d (.int .i64 x))):=by
 obtain⟨h1,h2,h3⟩:=kg h;have:[v.toV.map T.canon]=[AV.one (.c (.d (.int .i64 x)))]:=h3
 simpa using this
theorem UR:Cont prog 157 (ae2 Lt.flt):=by
 refine⟨gf (fn:=f157) kQ0 kQ0 kQ0,fun pk s ops k k' hk hc=>hc,fun g pk s a w H γ F1 ops k hX c hc=>?_⟩;unfold ae2 at hc;split at hc
 ·rename_i x hx
  match ops,hx with
  |[],hx=>simp[da]at hx
  |[o],hx=>
   have hop:aG o=true:=by simpa using c
   have hv:=aJ hX hop
   rw[af hop]at hv;have b:=iv fa hv
   rw[acA hx]at b;obtain⟨_,m,d⟩:=b;show Calls _ _ #[a.eval o] w _
   have d:a.eval o=.int .i64 x:=by cases m<;>exact d.1
   rw[d];refine(Ke x w).mono ?_;rintro e w' ⟨rfl,rfl⟩
   exact .inr ⟨_,s,rfl,hc,H,γ,F1,hX⟩
  |_::_::_,hx=>simp[da]at hx
 ·exact hc.elim
end Go.Am
end
