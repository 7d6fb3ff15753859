/-
  Part 12: AmPkS.
-/
import Derived.Test.YthhkhcolidkemaaGreatDoorCt11
set_option linter.unusedSimpArgs false
set_option linter.unusedVariables false
set_option linter.unusedSectionVars false
set_option linter.unnecessarySimpa false
open Lt
section
namespace Go.Am
open Go
variable{α:Type}
theorem kk{KK:α->Prop}{a b:α}(h:KK a)(e:a=b):KK b:=e ▸ h
theorem Yr(s:List UInt8)(KK:Bool->Prop)(h:KK (Lt.kept s)):VL s KK:=by simp_all[VL,ac,jval,Lt.kept,Bool.or_assoc]
theorem Ys(s:List UInt8)(KK:Bool->Prop)(h:KK (Lt.kind s)):VN s KK:=by simp_all[VN,ac,jval,Lt.kind,Bool.or_assoc]
theorem Nk(c:UInt8)(KK:Bool->Prop)(h:KK (Lt.letter c)):GF c KK:=by
 unfold GF;(try simp only[ac,am,ap,jval,bor,band,bnand,bimp,and_self])
 grind [Lt.letter,uX]
theorem Cc(c:UInt8)(KK:Bool->Prop)(h:KK (kY c)):xt c KK:=by unfold xt;(try simp only[ac,am,ap,jval,bor,band,bnand,bimp,and_self]);exact h
theorem TE(n:Int)(KK:Int->Prop)(h:KK (Lt.Plain n)):Pm n KK:=by simp_all[Pm,ac,jval,Lt.Plain]
theorem Yo(s:List UInt8)(KK:Bool->Prop)(h:KK (Lt.Name s)):VF s KK:=by
 unfold VF;(try simp only[ac,am,ap,jval,bor,band,bnand,bimp,and_self,iW,pw,px]);refine⟨λh1 h2=>⟨Int.le_refl _,by grind⟩,?_⟩;split
 .grind [Lt.Name]
 intro hl;refine dN (α:=UInt8) s hl iR true KK _ (λR i hi ih a=>?_) (λR h=>?_) (kk h ?_)
 all_goals grind [iR,Lt.Name]
theorem T7(l:List Lt.Var)(most:Int)(KK:Bool->Prop)(h:KK (Lt.typed l most)):PO l most KK:=by
 unfold PO;(try simp only[ac,am,ap,jval,bor,band,bnand,bimp,and_self]);unfold Lt.typed at h;intro hl;split
 .grind
 intro _;refine dN l hl (λv=>Lt.Name v.Name&&Lt.kind v.Type_) true KK _ (λR i hi ih a=>?_) (λR h=>?_) (kk h ?_)
 all_goals grind
theorem Ce(a:Lt.Arg)(KK:Bool->Prop)(h:KK (bk a)):xu a KK:=by
 unfold xu;(try simp only[ac,am,ap,jval,bor,band,bnand,bimp,and_self])
 grind [bk]
theorem Fo(l:List Lt.Arg)(objs:Bool)(KK:Bool->Prop)(h:KK (cb l objs)):zb l objs KK:=by
 unfold zb;(try simp only[ac,am,ap,jval,bor,band,bnand,bimp,and_self]);intro hl;refine dN l hl (bw objs) true KK _ (λR i hi ih a=>?_) (λR h=>?_) (kk h ?_)
 all_goals grind [bw,cb]
theorem WI(a:Lt.Arg)(o:Bool):cb [a] o=bw o a:=by simp[cb]
theorem TJ(f:Lt.Frame)(KK:Bool->Prop)(h:KK (Lt.frame f)):Pu f KK:=by
 unfold Pu;(try simp only[ac,am,ap,jval,bor,band,bnand,bimp,and_self]);unfold Lt.frame at h;split
 .grind
 intro hl;refine dN f.Vars hl ji true KK _ (λR i hi ih a=>?_) (λR h=>?_) (kk h ?_)
 all_goals grind [Int.toNat_natCast,WI,ji]
theorem ac2(l:List UInt8)(n:Int)(KK:List UInt8->Prop)(h:KK (Lt.nth l n)):aeV l n KK:=by
 unfold aeV;(try simp only[ac,am,ap,aK,aX,jval,bor,band,bnand,bimp,and_self]);by_cases hl:l.length<=LEN
 .refine ao _ (l.length+1) (λk x=>∃(n:Int)(f i:Nat),x=(n,(f:Int),(i:Int))/\i=k+1/\f<i/\f<=l.length/\KK (Uk l (l.length+1-k) n f i)) (λR k x hk a d=>?_) (λR x a=>?_) _ ⟨n,0,1,rfl,by omega,by omega,by omega,h⟩
  .obtain⟨n,f,i,rfl,b,hf,c,h⟩:=a;intro _;by_cases hi:i<l.length
   .rw[show l.length+1-k=(l.length+1 - (k+1))+1 by omega]at h;simp only[Uk]at h
    grind [ae]
   rw[show l.length+1-k=(l.length+1 - (k+1))+1 by omega]at h
   grind [Uk]
  obtain⟨n,f,i,rfl,b,hf,c,h⟩:=a;intro _;have hf:decide ((i:Int) < (l.length:Int))=false:=by grind
  simp only[hf];rw[show l.length+1 - (l.length+1)=0 by omega]at h;exact h
 exact⟨1,λh=>absurd h hl⟩
theorem ahN(op:Int)(KK:Lt.Form×Bool->Prop)(h:KK (Lt.Of op)):aiK op KK:=by
 unfold aiK;(try simp only[ac,am,ap,jval,bor,band,bnand,bimp,and_self])
 grind [Lt.Of,Lt.two]
theorem ac8(l:List α):((l.length:Int)=0)=(l=[]):=by simp_all
theorem ac3(x:Lt.Phi)(KK:Bool->Prop)(h:KK (Lt.phi x)):aeW x KK:=by
 unfold aeW;(try simp only[ac,am,ap,aK,aX,jval,bor,band,bnand,bimp,and_self]);have e0:=ac8 x.Ins
 unfold Lt.phi at h;split
 .grind
 intro hl;refine dN x.Ins hl oS true KK _ (λR i hi ih a=>?_) (λR h=>?_) (kk h ?_)
 all_goals grind [Int.toNat_natCast,WI,oS]
theorem Y1(a:Lt.Arg):(decide (a.Kind=0)&&(decide (a.S=([]:List UInt8))&&decide (a.N=0)))=DI a:=by
 obtain⟨k,s,n⟩:=a
 grind [DI]
theorem Ka(t:Lt.Term)(KK:Bool->Prop)(h:KK (fJ t)):CU t KK:=by
 unfold CU;(try simp only[ac,am,ap,aK,aX,jval,bor,band,bnand,bimp,and_self]);intro hl;refine dN t.To hl Lt.Name _ KK _ (λR i hi ih b=>?_) (λR h=>?_) h
 .grind
 simp only[Y1,WI];have e0:((t.To.length:Int)=0)=(t.To.length=0):=propext kQ1
 have c:((t.To.length:Int)=1)=(t.To.length=1):=propext kQ1
 have a:((t.To.length:Int)=2)=(t.To.length=2):=propext kQ1
 grind
theorem TL(x:Lt.Instr)(KK:Bool->Prop)(h:KK (Lt.instr x)):Pv x KK:=by
 unfold Pv;dsimp only;(try simp only[ac,am,ap,jval,bor,band,bnand,bimp,and_self]);have e0:=ac8 x.Frames
 have c:=ac8 x.Objs
 unfold Lt.instr at h;refine ifk (λhc=>kk h (by grind)) (λe hl=>?_);refine ifk (λhc=>kk h (by grind)) (λf=>?_);refine ifk (λhc hl=>kk h (by grind)) (λd hl=>?_);refine dN x.Frames hl Lt.frame (x.Objs.all Lt.virt) KK _ (λR i hi ih b=>?_) (λR h=>?_) (kk h ?_)
 .grind [Int.toNat_natCast]
 .simp only[kw];intro a;refine dN x.Objs a Lt.virt true KK _ (λR i hi ih b=>?_) (λR h=>?_) (kk h ?_)
  all_goals grind [Int.toNat_natCast,Lt.virt]
 grind
theorem TH(b:Lt.Block)(KK:Bool->Prop)(h:KK (Lt.block b)):Ps b KK:=by
 unfold Ps;(try simp only[ac,am,ap,jval,bor,band,bnand,bimp,and_self]);unfold Lt.block at h;split
 .grind
 intro hl;refine dN b.Phis hl Lt.phi (b.Code.all Lt.instr) KK _ (λR i hi ih c=>?_) (λR h=>?_) (kk h ?_)
 .grind [Int.toNat_natCast]
 .simp only[kw];intro a;refine dN b.Code a Lt.instr true KK _ (λR i hi ih c=>?_) (λR h=>?_) (kk h ?_)
  all_goals grind [Int.toNat_natCast]
 grind
theorem wI(f:Lt.Func)(KK:Bool->Prop)(h:KK (aF f)):pM f KK:=by
 unfold pM;(try simp only[ac,am,ap,jval,bor,band,bnand,bimp,and_self]);have e0:=ac8 f.Blocks
 unfold aF at h;refine ifk (λhc=>kk h (by grind)) (λj hl=>?_);refine s8 f.Blocks hl (λ(b:{b:Nat // b<=1024}) i=>((b.1:Int),i)) (λt b=>Lt.blocks t b.1) KK _ (λR b i hi ih h=>?_) (λR b h=>?_) ⟨0,by omega⟩ (kk h (by grind))
 .simp only[aW hi]
  try dsimp +instances only [Int.toNat_natCast]
  refine⟨⟨akQ i,hi⟩,?_⟩;generalize f.Blocks.getD i default=x at h;obtain⟨g,d,c,⟨k,a,t,n⟩⟩:=x;simp only[Lt.blocks]at h;intro _;refine ifk (λhc=>kk h (by grind)) (λhc _ _=>?_);have w1:IntKind.i64.wrap ((d.length:Int)+(c.length:Int))=((d.length+c.length:Nat):Int):=by grind [dF]
  have w2:IntKind.i64.wrap ((b:Int)+((d.length+c.length:Nat):Int))=((b+(d.length+c.length):Nat):Int):=by grind [dF]
  rw[w1,w2];refine ifk (λhc=>kk h (by grind)) (λhc=>?_);have e:b+(d.length+c.length)<=1024:=by grind
  exact ih ⟨_,e⟩ (kk h (by grind))
 grind [Lt.blocks]
theorem B8(p:Lt.Program)(KK:Bool->Prop)(h:KK (aY p)):xr p KK:=by
 unfold xr;(try simp only[ac,am,ap,jval,bor,band,bnand,bimp,and_self]);unfold aY at h;intro _;refine ifk (λhc=>kk h (by grind)) (λd hl=>?_);refine dN p.Classes hl dk (p.Externs.all cH&&p.Funcs.all aF) KK _ (λR i hi ih c=>?_) (λR h=>?_) (kk h (by grind))
 .grind [Int.toNat_natCast,dk]
 simp only[kw];intro a;refine dN p.Externs a cH (p.Funcs.all aF) KK _ (λR i hi ih c=>?_) (λR h=>?_) h
 .grind [Int.toNat_natCast,cH]
 simp only[kw];intro b;refine dN p.Funcs b aF true KK _ (λR i hi ih c=>?_) (λR h=>?_) (kk h (by simp))
 all_goals grind [Int.toNat_natCast]
theorem eK[Inhabited α]{l:List α}{P:α->Prop}(h:∀x∈l,P x){i:Nat}(hi:i<l.length):P (l.getD i default):=h _ (az l hi)
end Go.Am
end
