/-
  Part 11: AmE4.
-/
import Derived.Test.YthhkhcolidkemaaGreatDoorCl10
set_option linter.unusedSimpArgs false
set_option linter.unusedVariables false
set_option linter.unusedSectionVars false
set_option linter.unnecessarySimpa false
section
namespace Go.Am
def j5 (e:En) (all:List Oper):List Oper->St->(St->Prop)->Prop
 | [],s,k=>k s
 | o::r,s,k=>match o.guard with
  | none=>opT e o s fun s'=>j5 e all r s' k
  | some (j,want)=>match (all[j]?).bind (·.dst) with
   | some d=>match gtA s.t d with
    | .one (.c (.d (.bo c)))=>match want with
     | true=>if c=true then opT e o (s.put (some d) (sct (.bo true))) fun s'=>j5 e all r s' k
      else j5 e all r ((s.put (some d) (sct (.bo false))).put o.dst (.tup [])) k
     | false=>if c=true then j5 e all r ((s.put (some d) (sct (.bo true))).put o.dst (.tup [])) k
      else opT e o (s.put (some d) (sct (.bo false))) fun s'=>j5 e all r s' k
    | .tup []=>j5 e all r (s.put o.dst (.tup [])) k
    | _=>False
   | none=>False
def St.clr (s:St):St:=⟨s.nx,[],s.m⟩
abbrev En.cl (e:En):En:=⟨e.P,e.E,e.cs,e.sh,fun v s=>e.pk v s.clr⟩
def Rq:At->Bool
 | .one (.c (.el _ _))=>true
 | .one (.c (.ga _ _ _))=>true
 | _=>false
def kp (s:St) (o:Oper):Bool:=
 match o.op with
 | .load _ x=>Rq (evA s x)
 | _=>true
def XD (ops:Array Oper) (listed:Array Bool) (i:Nat):List Nat:=
 (List.range ops.size).foldl (fun A j=>if unlisted listed j&&!(Nat.beq j i)&&(match ops[j]? with
  | some o=>o.after.any fun e=>Region.binds .any e&&unlisted listed e.on&&(Nat.beq e.on i||A.contains e.on)
  | none=>false) then j::A else A) []
def uM (ops:Array Oper) (listed:Array Bool) (s:St):List Nat->Option (Nat×List Nat×Bool)
 | []=>none
 | i::r=>match ops[i]? with
  | none=>uM ops listed s r
  | some o=>match isQ o with
   | false=>uM ops listed s r
   | true=>match kp s o with
    | true=>match yF ops listed i [] true with
     | true=>some (i,[],true)
     | false=>uM ops listed s r
    | false=>match yF ops listed i (XD ops listed i) false with
     | true=>some (i,XD ops listed i,false)
     | false=>uM ops listed s r
def gT (ops:List Oper) (o:Oper) (s:St) (f:St->Prop) (no:St->Prop):Prop:=
 match o.guard with
 | none=>f s
 | some (j,want)=>match (ops[j]?).bind (·.dst) with
  | some d=>match gtA s.t d with
   | .one (.c (.d (.bo c)))=>match want with
    | true=>if c=true then f (s.put (some d) (sct (.bo true))) else no ((s.put (some d) (sct (.bo false))).put o.dst (.tup []))
    | false=>if c=true then no ((s.put (some d) (sct (.bo true))).put o.dst (.tup [])) else f (s.put (some d) (sct (.bo false)))
   | .tup []=>no (s.put o.dst (.tup []))
   | _=>False
  | none=>False
def Nh (f:Nat->Prop):List Nat->Prop
 | []=>True
 | [i]=>f i
 | i::r=>f i/\Nh f r
def fl (e:En) (ops:Array Oper):Nat->Array Bool->St->(St->Prop)->Prop
 | 0,listed,s,k=>match Region.ready .any ops listed with
  | []=>k s
  | _=>False
 | n+1,listed,s,k=>match Region.ready .any ops listed with
  | []=>k s
  | i0::rd=>match uM ops listed s (i0::rd) with
   | some (i,_,fz)=>match ops[i]? with
    | some o=>match o.guard with
     | none=>let s1:=zx s o; qT e o s1 fun v=>fl e ops n (listed.setIfInBounds i true) (s1.put o.dst v) k
     | some _=>gT ops.toList o s (fun s=>match !fz||kp s o with
      | true=>qT e o s fun v=>fl e ops n (listed.setIfInBounds i true) (s.put o.dst v) k
      | false=>False) (fun s=>fl e ops n (listed.setIfInBounds i true) s k)
    | none=>False
   | none=>Nh (fun i=>match ops[i]? with
    | some o=>gT ops.toList o s (fun s=>x8 e.cl o s fun s'=>fl e ops n (listed.setIfInBounds i true) s' k) (fun s=>fl e ops n (listed.setIfInBounds i true) s k)
    | none=>False) (i0::rd)
inductive Sp where
 | sl (k:Nat) (u:U)
 | ow (k:Nat) (sh:List Sh) (u:U)
 | rt (n:Nm) (sh:List Sh) (u:U)
 | mp (n:Nm) (ku vu:U)
 | mo (n:Nm) (ku u:U)
 | it (n:Nm) (ku vu:U)
 | gw (n:Nm) (sh:List Sh) (u:U)
abbrev Sp.ty:Sp->Type
 | .sl _ u=>El u
 | .ow _ _ u=>List (El u)
 | .rt _ _ u=>El u
 | .mp _ ku vu=>List (El ku×El vu)
 | .mo _ ku u=>List (El ku×List (El u))
 | .it _ ku vu=>List (El ku×El vu)
 | .gw _ _ u=>List (El u)
abbrev FSp:List Sp->Type
 | []=>Unit
 | [p]=>p.ty
 | p::q::r=>p.ty×FSp (q::r)
def FSp.cons:(p:Sp)->(r:List Sp)->p.ty->FSp r->FSp (p::r)
 | _,[],x,_=>x
 | _,_::_,x,y=>(x,y)
def FSp.hd:(p:Sp)->(r:List Sp)->FSp (p::r)->p.ty
 | _,[],x=>x
 | _,_::_,x=>x.1
def FSp.tl:(p:Sp)->(r:List Sp)->FSp (p::r)->FSp r
 | _,[],_=>()
 | _,_::_,x=>x.2
theorem pS (p:Sp) (r:List Sp) (x:p.ty) (y:FSp r):FSp.hd p r (FSp.cons p r x y)=x:=by cases r <;> rfl
theorem pT (p:Sp) (r:List Sp) (x:p.ty) (y:FSp r):FSp.tl p r (FSp.cons p r x y)=y:=by cases r <;> rfl
def EO (ku vu ku' vu':U) (l:List (El ku×El vu)):Option (List (El ku'×El vu')):=if h:ku=ku'/\vu=vu' then some (h.1 ▸ h.2 ▸ l) else none
structure Sg where
 ks:List Nat
 kr:List Nm
 ps:List (Nat×Nm×Nat)
 sp:List Sp
def yG:(u:U)->El u->At
 | .st n,x=>.one (.agg ((flat (.st n) x).map Tt.d))
 | u,x=>sct (ah u x)
def zB:(u:U)->El u->A1
 | .st n,x=>.agg ((flat (.st n) x).map Tt.d)
 | u,x=>.c (.d (ah u x))
def iU (k:Nat):Nm:=.gh (900000+k)
def aB:List Sh->List C->List Tt
 | .ow s::r,.li u l::cs=>.ow s u l::aB r cs
 | _::r,c::cs=>.d c::aB r cs
 | _,_=>[]
def cz:List Sh->List C->List Tt
 | .ow []::r,_::cs=>.nil::cz r cs
 | .ow (a::b)::r,.li u l::cs=>.ow (a::b) u l::cz r cs
 | _::r,c::cs=>.d c::cz r cs
 | _,_=>[]
def unmark:List Sh->List Sh
 | []=>[]
 | .ow []::r=>.fr::unmark r
 | s::r=>s::unmark r
def bD:List (Nat×Nat×At)->Nat->Option (Nat×At)
 | [],_=>none
 | (k,j,v)::t,i=>match Nat.beq k i with
  | true=>some (j,v)
  | false=>bD t i
def bW:List (Nm×Nat×Rt)->Nm->Option (Nat×Rt)
 | [],_=>none
 | (k,j,v)::t,i=>if k=i then some (j,v) else bW t i
def lb (nx:Nat):(sp:List Sp)->FSp sp->List (Nat×Nat×At)
 | [],_=>[]
 | .sl k u::r,x=>(k,nx,yG u (FSp.hd (.sl k u) r x))::lb nx r (FSp.tl (.sl k u) r x)
 | .ow k sh u::r,x=>(k,nx,.one (.c (.rf ⟨iU k,0,[]⟩)))::lb nx r (FSp.tl (.ow k sh u) r x)
 | .rt n sh u::r,x=>lb nx r (FSp.tl (.rt n sh u) r x)
 | .mp n ku vu::r,x=>lb nx r (FSp.tl (.mp n ku vu) r x)
 | .mo n ku u::r,x=>lb nx r (FSp.tl (.mo n ku u) r x)
 | .it n ku vu::r,x=>lb nx r (FSp.tl (.it n ku vu) r x)
 | .gw n sh u::r,x=>lb nx r (FSp.tl (.gw n sh u) r x)
def dw (nx:Nat):(sp:List Sp)->FSp sp->List (Nm×Nat×Rt)
 | [],_=>[]
 | .sl k u::r,x=>dw nx r (FSp.tl (.sl k u) r x)
 | .ow k sh u::r,x=>(iU k,nx,⟨false,[.ow sh u (FSp.hd (.ow k sh u) r x)],none⟩)::dw nx r (FSp.tl (.ow k sh u) r x)
 | .rt n sh u::r,x=>(n,nx,⟨true,cz sh (flat u (FSp.hd (.rt n sh u) r x)),none⟩)::dw nx r (FSp.tl (.rt n sh u) r x)
 | .mp n ku vu::r,x=>(n,nx,⟨false,[.mp ku vu (FSp.hd (.mp n ku vu) r x)],none⟩)::dw nx r (FSp.tl (.mp n ku vu) r x)
 | .mo n ku u::r,x=>(n,nx,⟨false,[.mo ku u (FSp.hd (.mo n ku u) r x) none],none⟩)::dw nx r (FSp.tl (.mo n ku u) r x)
 | .it n ku vu::r,x=>(n,nx,⟨false,[.it ku vu none (FSp.hd (.it n ku vu) r x)],none⟩)::dw nx r (FSp.tl (.it n ku vu) r x)
 | .gw n sh u::r,x=>(n,nx,⟨false,[.ow sh u (FSp.hd (.gw n sh u) r x)],none⟩)::dw nx r (FSp.tl (.gw n sh u) r x)
def A4 (t:List (Nat×Nat×At)):List Nat->List (Nat×Nat×At)
 | []=>[]
 | k::r=>match bD t k with
  | some (j,v)=>(k,j,v)::A4 t r
  | none=>A4 t r
def nR (m:List (Nm×Nat×Rt)):List Nm->List (Nm×Nat×Rt)
 | []=>[]
 | k::r=>match bW m k with
  | some (j,v)=>(k,j,v)::nR m r
  | none=>nR m r
def Sg.st (σ:Sg) (s:St) (x:FSp σ.sp):St:=⟨s.nx+1,A4 s.t σ.ks++(σ.ps.map (fun p=>(p.1,s.nx,.one (.c (.pl ⟨p.2.1,p.2.2,[]⟩))))++lb s.nx σ.sp x),nR s.m σ.kr++dw s.nx σ.sp x⟩
def Bf (s:St) (k:Nat) (sh:List Sh) (u:U):St:=
 match gtA s.t k with
 | .one (.c .nil)=>
  let s1:=s.fresh (iU k)
  ⟨s1.nx+1,(k,s1.nx,.one (.c (.rf ⟨iU k,0,[]⟩)))::s1.t,(iU k,s1.nx,⟨false,[.ow sh u []],none⟩)::s1.m⟩
 | .one (.c (.rf ⟨n,0,[]⟩))=>match decide (n=iU k),aY s.m n with
  | false,some ⟨false,[.ow sh' u' l],none⟩=>
   let s1:=(s.drop n).fresh (iU k)
   ⟨s1.nx+1,(k,s1.nx,.one (.c (.rf ⟨iU k,0,[]⟩)))::s1.t,(iU k,s1.nx,⟨false,[.ow sh' u' l],none⟩)::s1.m⟩
  | _,_=>s
 | _=>s
def aV (s:St) (n:Nm) (us:List U):List Sh->Nat->St
 | [],_=>s
 | .ow sh::r,off=>match aY s.m n with
  | some ⟨true,cells,none⟩=>match cells[off]?,us[off]? with
   | some .nil,some (.sl u)=>aV ⟨s.nx+1,s.t,cq s.m n s.nx ⟨true,cells.set off (.ow sh u []),none⟩⟩ n us r (off+1)
   | _,_=>aV s n us r (off+1)
  | _=>s
 | .fr::r,off=>match aY s.m n with
  | some ⟨true,cells,none⟩=>match cells[off]? with
   | some (.ow _ _ _)=>aV (rJ s ⟨n,off,[]⟩) n us r (off+1)
   | _=>aV s n us r (off+1)
  | _=>s
def dA:U->List U
 | .st n=>(sd n).fs
 | u=>[u]
def prep:List Sp->St->St
 | [],s=>s
 | .sl k _::r,s=>prep r (dV s (gtA s.t k))
 | .ow k sh u::r,s=>prep r (Bf s k sh u)
 | .rt n sh u::r,s=>prep r (aV s n (dA u) (unmark sh) 0)
 | .mp _ _ _::r,s=>prep r s
 | .mo _ _ _::r,s=>prep r s
 | .it _ _ _::r,s=>prep r s
 | .gw _ _ _::r,s=>prep r s
mutual
def X1:Sh->Sh->Bool
 | .fr,.fr=>true
 | .ow a,.ow b=>l4 a b
 | _,_=>false
def l4:List Sh->List Sh->Bool
 | [],[]=>true
 | a::r,b::q=>X1 a b&&l4 r q
 | _,_=>false
end
def QY (u:U):A1->Option (El u)
 | .c t=>match leaf u with
  | true=>gf u [t]
  | false=>none
 | .agg ts=>match leaf u with
  | true=>none
  | false=>gf u ts
def nJ (u:U):At->Option (El u)
 | .one x=>QY u x
 | _=>none
def dp:List Sh->List Tt->Option (List Tt)
 | [],[]=>some []
 | .ow s::r,.ow s' u l::cs=>match l4 s s',dp r cs with
  | true,some x=>some (.d (.li u l)::x)
  | _,_=>none
 | .fr::r,.d c::cs=>match dp r cs with
  | some x=>some (.d c::x)
  | none=>none
 | .fr::r,.nil::cs=>match dp r cs with
  | some x=>some (.nil::x)
  | none=>none
 | _,_=>none
def fR:List Sh->List Tt->Option (List Tt)
 | [],[]=>some []
 | .ow []::r,.nil::cs=>match fR r cs with
  | some x=>some (.nil::x)
  | none=>none
 | .ow (a::b)::r,.ow s' u l::cs=>match l4 (a::b) s',fR r cs with
  | true,some x=>some (.d (.li u l)::x)
  | _,_=>none
 | .fr::r,.d c::cs=>match fR r cs with
  | some x=>some (.d c::x)
  | none=>none
 | .fr::r,.nil::cs=>match fR r cs with
  | some x=>some (.nil::x)
  | none=>none
 | _,_=>none
def GY (s:St):(p:Sp)->Option p.ty
 | .sl k u=>nJ u (gtA s.t k)
 | .ow k sh u=>match gtA s.t k,aY s.m (iU k) with
  | .one (.c (.rf ⟨n,0,[]⟩)),some ⟨false,[.ow sh' u' l],none⟩=>match decide (n=iU k),l4 sh sh' with
   | true,true=>pw u' u l
   | _,_=>none
  | _,_=>none
 | .rt n sh u=>match aY s.m n with
  | some ⟨true,cells,none⟩=>match fR sh cells with
   | some ts=>gf u ts
   | none=>none
  | _=>none
 | .mp n ku vu=>match aY s.m n with
  | some ⟨false,[.mp ku' vu' l],none⟩=>EO ku' vu' ku vu l
  | _=>none
 | .mo n ku u=>match aY s.m n with
  | some ⟨false,[.mo ku' u' l none],none⟩=>EO ku' (.sl u') ku (.sl u) l
  | _=>none
 | .it n ku vu=>match aY s.m n with
  | some ⟨false,[.it ku' vu' _ l],none⟩=>EO ku' vu' ku vu l
  | _=>none
 | .gw n sh u=>match aY s.m n with
  | some ⟨false,[.ow sh' u' l],none⟩=>match l4 sh sh' with
   | true=>pw u' u l
   | false=>none
  | _=>none
def unS (s:St):(sp:List Sp)->Option (FSp sp)
 | []=>some ()
 | p::r=>match GY s p,unS s r with
  | some x,some y=>some (FSp.cons p r x y)
  | _,_=>none
def Sp.rn:Sp->List Nm
 | .sl _ _=>[]
 | .ow k _ _=>[iU k]
 | .rt n _ _=>[n]
 | .mp n _ _=>[n]
 | .mo n _ _=>[n]
 | .it n _ _=>[n]
 | .gw n _ _=>[n]
def Sg.rn (σ:Sg):List Nm:=σ.kr++σ.sp.flatMap Sp.rn
def Tt.inR (rs:List Nm):Tt->Bool
 | .pl p=>rs.contains p.root
 | .rf p=>rs.contains p.root
 | _=>true
def A1.inR (rs:List Nm):A1->Bool
 | .c t=>t.inR rs
 | .agg ts=>ts.all (·.inR rs)
def At.inR (rs:List Nm):At->Bool
 | .one x=>x.inR rs
 | .tup xs=>xs.all (·.inR rs)
 | .any=>true
def CH:List Nm->Bool
 | []=>true
 | n::r=>!r.contains n&&CH r
def Uk (s0 s:St) (rs:List Nm):List Nat->Bool
 | []=>true
 | k::r=>(match bD s0.t k,bD s.t k with
  | some (j,_),some (j',v)=>Nat.beq j j'&&Nat.blt j s0.nx&&v.inR rs
  | _,_=>false)&&Uk s0 s rs r
def N6 (s0 s:St) (rs:List Nm):List Nm->Bool
 | []=>true
 | k::r=>(match bW s0.m k,bW s.m k with
  | some (j,_),some (j',v)=>Nat.beq j j'&&Nat.blt j s0.nx&&v.cells.all (·.inR rs)
  | _,_=>false)&&N6 s0 s rs r
def Uj (s:St) (rs:List Nm):List (Nat×Nm×Nat)->Bool
 | []=>true
 | (k,n,o)::r=>(match gtA s.t k with
  | .one (.c (.pl ⟨n',o',[]⟩))=>decide (n'=n)&&Nat.beq o' o&&rs.contains n
  | _=>false)&&Uj s rs r
def Sg.fit (σ:Sg) (s0 s:St):Bool:=CH σ.rn&&Uj s σ.rn σ.ps&&Uk s0 s σ.rn σ.ks&&N6 s0 s σ.rn σ.kr
def jn (σ:Sg) (s0:St) (J:FSp σ.sp->Prop) (s:St):Prop:=
 let s1:=prep σ.sp s
 match σ.fit s0 s1 with
 | true=>match unS s1 σ.sp with
  | some x=>J x
  | none=>False
 | false=>False
def af {α:Type} (A:(α->Prop)->Prop) (B:α->Prop):Prop:=∀ J:α->Prop,(∀ x,B x->J x)->A J
def nT {α:Type} (body:(α->Prop)->α->Prop):Nat->α->Prop
 | 0,_=>False
 | n+1,x=>body (nT body n) x
def al {α:Type} (body:(α->Prop)->α->Prop) (x:α):Prop:=∃ n,nT body n x
inductive An where
 | l
 | s (a b:An)
 | j (σ:Sg) (a b:An)
 | c (a b:An)
 | b (a:An)
 | lp (σ:Sg) (a:An)
 | a (t:Nat) (n:Nm) (x y:An)
 | un (n:Nat) (a:An)
def An.pick:An->St->An
 | .a t n x y,st0=>match gtA st0.t t with
  | .one (.c (.pl p))=>match decide (p.root=n) with
   | true=>x
   | false=>y
  | _=>y
 | an,_=>an
structure Kt where
 n:St->Prop
 x:Nat->St->Prop
 r:St->Prop
def pD (body:(St->Prop)->St->Prop):Nat->St->Prop
 | 0,_=>False
 | n+1,s=>body (pD body n) s
def wpT (e:En):An->Code->St->Kt->Prop
 | _,.skip,s,K=>K.n s
 | _,.region _ ops false,s,K=>j5 e ops.toList ops.toList s K.n
 | _,.region _ ops true,s,K=>fl e ops ops.size (Array.replicate ops.size false) s K.n
 | .s a b,.seq x y,s,K=>wpT e a x s ⟨fun s'=>wpT e (b.pick s') y s' K,K.x,K.r⟩
 | .j σ a b,.seq x y,s,K=>af (fun J=>wpT e a x s ⟨jn σ s J,K.x,K.r⟩) (fun v=>wpT e b y (σ.st s v) K)
 | .c a b,.cond (.tmp t) x y,s,K=>match gtA s.t t with
  | .one (.c (.d (.bo c)))=>if c=true then wpT e a x s K else wpT e b y s K
  | _=>False
 | .b a,.block id x,s,K=>wpT e a x s ⟨K.n,fun i s'=>match Nat.beq i id with
  | true=>K.n s'
  | false=>K.x i s',K.r⟩
 | .lp σ a,.loop x,s,K=>
  let s1:=prep σ.sp s
  match σ.fit s1 s1 with
  | true=>match unS s1 σ.sp with
   | some x0=>al (fun R v=>wpT e a x (σ.st s1 v) ⟨jn σ s1 R,K.x,K.r⟩) x0
   | none=>False
  | false=>False
 | .un n a,.loop x,s,K=>pD (fun R s'=>wpT e a x s' ⟨R,K.x,K.r⟩) n s
 | _,.exit id,s,K=>K.x id s
 | _,.ret,s,K=>K.r s
 | _,_,_,_=>False
def bw:(us:List U)->Fl us->At
 | [],_=>.tup []
 | [u],x=>yG u x
 | u::v::r,x=>.tup (resL (u::v::r) x)
where resL:(us:List U)->Fl us->List A1
 | [],_=>[]
 | u::r,x=>zB u (Fl.hd u r x)::resL r (Fl.tl u r x)
def bq:(us:List U)->List At->Option (Fl us)
 | [],[]=>some ()
 | u::r,v::vs=>match nJ u v,bq r vs with
  | some x,some y=>some (Fl.cons u r x y)
  | _,_=>none
 | _,_=>none
def xB (s:St) (n:Nm):Nat->St
 | 0=>s
 | i+1=>rJ (xB s n i) ⟨n,i,[]⟩
def Ca (s:St):ResultVar->St
 | .tmp t=>dV s (gtA s.t t)
 | .cell a _=>match gtA s.t a with
  | .one (.c (.pl p))=>match aY s.m p.root with
   | some r=>xB s p.root r.cells.length
   | none=>s
  | _=>s
def g8:St->List ResultVar->St
 | s,[]=>s
 | s,r::rs=>g8 (Ca s r) rs
def kK (P:Program) (s:St) (k:At->Prop):ResultVar->Prop
 | .tmp t=>k (gtA s.t t)
 | .cell a t=>match gtA s.t a with
  | .one (.c (.pl p))=>match aY s.m p.root with
   | some r=>match r.hole.isNone&&r.cells.all (fun t=>!t.owned) with
    | true=>jL P s.m t (gtA s.t a) k
    | false=>False
   | none=>False
  | _=>False
def cy (P:Program) (s:St):List ResultVar->(List At->Prop)->Prop
 | [],k=>k []
 | r::rs,k=>kK P s (fun v=>cy P s rs fun vs=>k (v::vs)) r
def qy (P:Program) (rs:List ResultVar) (us:List U) (KK:Fl us->Prop) (s:St):Prop:=
 cy P (g8 s rs) rs fun vs=>match bq us vs with
  | some x=>KK x
  | none=>False
def bg (ps rs:List U) (pre:Fl ps->Prop) (f:Fl ps->Fl rs):CKt:=fun _ s ops k=>
 let s1:=bm s (ops.map (evA s))
 match bq ps (ops.map (evA s1)) with
 | some x=>pre x/\k s1 (bw rs (f x))
 | none=>False
def ay (ps rs:List U) (f:Fl ps->Fl rs):CKt:=fun _ s ops k=>
 let s1:=bm s (ops.map (evA s))
 match bq ps (ops.map (evA s1)) with
 | some x=>k s1 (bw rs (f x))
 | none=>False
def lent (s:St) (v:At):At:=match v with
 | .one (.c (.rf p))=>match aY s.m p.root with
  | some r=>match r.hole,sliceAt s.m p with
   | none,some ⟨_,u,l⟩=>sct (.li u l)
   | _,_=>v
  | none=>v
 | v=>v
def scU:U->Bool
 | .i _=>true
 | .b8=>true
 | .bo=>true
 | .s=>true
 | _=>false
def xM (ps rs:List U) (Φ:Fl ps->(Fl rs->Prop)->Prop):CKt:=fun _ s ops k=>
 match bq ps (ops.map fun x=>lent s (evA s x)),rs.all scU with
 | some x,true=>∃ KK,Φ x KK/\∀ y,KK y->k s (bw rs y)
 | _,_=>False
def FSx (ps rs:List U) (pre:Fl ps->Prop) (f:Fl ps->Fl rs):CKt:=fun _ s ops k=>
 match bq ps (ops.map fun x=>lent s (evA s x)),rs.all scU with
 | some x,true=>pre x/\k s (bw rs (f x))
 | _,_=>False
def jx (r:Nm) (rf:Bool) (p:Pl):Bool:=decide (p.root=r)&&(rf||!p.path.isEmpty)
def U4 (sh:List Sh) (u:U) (ps rs:List U) (pre:El u->Fl ps->Prop) (f:El u->Fl ps->Fl rs×El u):CKt:=fun _ s ops k=>
 match ops with
 | []=>False
 | o::os=>
  let s1:=bm s (os.map (evA s))
  match evA s1 o with
  | .one (.c (.pl ⟨r,0,[]⟩))=>
   let s2:=aV s1 r (dA u) sh 0
   match evA s2 o with
   | .one (.c (.pl ⟨r',0,[]⟩))=>match decide (r'=r),r.tyd,aY s2.m r with
    | true,none,some ⟨true,cells,none⟩=>match dp sh cells with
     | some ts=>match gf u ts,bq ps (os.map (evA s2)) with
      | some x,some y=>pre x y/\k ⟨s2.nx+1,jJ (jx r) s2.nx s2.t,(r,s2.nx,⟨true,aB sh (flat u (f x y).2),none⟩)::bC (aJ r) s2.nx (dh s2.m r)⟩ (bw rs (f x y).1)
      | _,_=>False
     | none=>False
    | _,_,_=>False
   | _=>False
  | _=>False
abbrev noP:PKt:=fun _ _=>False
def swP (w:List UInt8) (K:Nat->Prop) (df:Nat):List (List UInt8×Nat)->Prop
 | []=>K df
 | (w0,f)::r=>if decide (w=w0)=true then K f else swP w K df r
def swT (tab:List (List UInt8×Nat)) (df:Nat):CKt:=fun _ s ops k=>
 let s1:=bm s (ops.map (evA s))
 match bq [.s] (ops.map (evA s1)) with
 | some w=>swP w (fun f=>k s1 (sct (.v (.func (.func f) #[] #[])))) df tab
 | none=>False
def shT:List (Nat×Nat×At)->List (Nat×Nat×At)
 | []=>[]
 | (k,j,v)::r=>(k+100000,j,v)::shT r
def oq:List (Nat×Nat×At)->List (Nat×Nat×At)
 | []=>[]
 | (k,j,v)::r=>match Nat.ble 100000 k with
  | true=>(k - 100000,j,v)::oq r
  | false=>oq r
def u7 (nx:Nat):Nat->List At->List (Nat×Nat×At)
 | _,[]=>[]
 | i,v::r=>(i,nx,v)::u7 nx (i+1) r
def RN (P:Program) (m:List (Nm×Nat×Rt)) (t:TypeId) (x:At):Option A1:=
 match (ty P t).ok,x with
 | true,.one (.c (.pl p))=>match (ty P t).agg with
  | true=>match atT m p (ty P t).size with
   | some ts=>some (.agg (ym p ts))
   | none=>none
  | false=>match atT m p 1 with
   | some [t']=>some (.c (Gv p t'))
   | _=>none
 | _,_=>none
def Gz (P:Program) (s:St):List ResultVar->Option (List A1)
 | []=>some []
 | .tmp t::r=>match gtA s.t t,Gz P s r,Nat.blt t 100000 with
  | .one x,some xs,true=>some (x::xs)
  | _,_,_=>none
 | .cell a t::r=>match RN P s.m t (gtA s.t a),Gz P s r,Nat.blt a 100000 with
  | some x,some xs,true=>some (x::xs)
  | _,_,_=>none
def X6:List A1->At
 | [x]=>.one x
 | xs=>.tup xs
def jG (P:Program) (res:List ResultVar) (k:St->At->Prop) (s:St):Prop:=
 match Gz P s res with
 | some xs=>k ⟨s.nx,oq s.t,s.m⟩ (X6 xs)
 | none=>False
def cm (e:En) (fn:Func) (an:An):CKt:=fun pk s ops k=>
 match Nat.ble ops.length fn.ntmps with
 | true=>wpT ⟨e.P,e.E,e.cs,e.sh,fun v s=>pk v ⟨s.nx,oq s.t,s.m⟩⟩ an (fn.body.getD .skip) ⟨s.nx+1,u7 s.nx 0 (ops.map (evA s))++shT s.t,s.m⟩ ⟨jG e.P fn.results.toList k,fun _ _=>False,jG e.P fn.results.toList k⟩
 | false=>False
def ze (e:En) (fn:Func) (an:An):CKt:=fun pk s ops k=>match ops with
 | .tmp t::os=>match gtA s.t t with
  | .one (.c (.d (.fn c)))=>match Nat.ble (os.length+c.caps.length) fn.ntmps with
   | true=>wpT ⟨e.P,e.E,e.cs,e.sh,fun v s=>pk v ⟨s.nx,oq s.t,s.m⟩⟩ an (fn.body.getD .skip) ⟨s.nx+1,u7 s.nx 0 (os.map (evA s)++c.caps.map Ub)++shT s.t,s.m⟩ ⟨jG e.P fn.results.toList k,fun _ _=>False,jG e.P fn.results.toList k⟩
   | false=>False
  | _=>False
 | _=>False
def yA (t:Nat) (C D:CKt):CKt:=fun pk s ops k=>match ops with
 | .tmp i::_=>match Nat.beq i t with
  | true=>C pk s ops k
  | false=>D pk s ops k
 | _=>D pk s ops k
def tT (s:St) (k:Nat) (sh:List Sh) (u:U):St:=
 match gtA s.t k with
 | .one (.c .nil)=>Bf s k sh u
 | _=>s
def UZ (u:U) (ps:List U) (pre:List (El u)->Fl ps->Prop) (f:List (El u)->Fl ps->List (El u)):CKt:=fun _ s ops k=>
 match ops with
 | .tmp t::os=>
  let s0:=tT s t (List.replicate (nc u) .fr) u
  let s1:=bm s0 (os.map (evA s0))
  match evA s1 (.tmp t) with
  | .one (.c (.rf ⟨r,0,[]⟩))=>match aY s1.m r with
   | some ⟨false,[.ow sh u' l],none⟩=>match l4 sh (List.replicate (nc u) .fr),pw u' u l,bq ps (os.map (evA s1)) with
    | true,some l',some x=>pre l' x/\k ⟨s1.nx+1,jJ (aJ r) s1.nx s1.t,(r,s1.nx,⟨false,[.ow sh u (f l' x)],none⟩)::bC (aJ r) s1.nx (dh s1.m r)⟩ (.one (.c (.rf ⟨r,0,[]⟩)))
    | _,_,_=>False
   | _=>False
  | _=>False
 | _=>False
def vg:Nat->(us:List U)->Fl us->List (Nat×Nat×At)
 | _,[],_=>[]
 | i,u::r,x=>(i,0,yG u (Fl.hd u r x))::vg (i+1) r (Fl.tl u r x)
def xt (us:List U) (x:Fl us):St:=⟨1,vg 0 us x,[]⟩
def ao (e:En) (fn:Func) (an:An) (ps rs:List U) (x:Fl ps) (KK:Fl rs->Prop):Prop:=
 wpT ⟨e.P,e.E,e.cs,e.sh,fun _ _=>False⟩ an (fn.body.getD .skip) (xt ps x) ⟨qy e.P fn.results.toList rs KK,fun _ _=>False,qy e.P fn.results.toList rs KK⟩
def jW (P:Program) (res:List ResultVar) (sh:List Sh) (u:U) (rs:List U) (KK:Fl rs×El u->Prop) (s:St):Prop:=
 let s1:=aV (g8 s res) (.out 0) (dA u) sh 0
 cy P s1 res fun vs=>match bq rs vs,aY s1.m (.out 0) with
  | some x,some ⟨true,cells,none⟩=>match dp sh cells with
   | some ts=>match gf u ts with
    | some y=>KK (x,y)
    | none=>False
   | none=>False
  | _,_=>False
def QE (e:En) (fn:Func) (an:An) (sh:List Sh) (u:U) (ps rs:List U) (x:El u) (y:Fl ps) (KK:Fl rs×El u->Prop):Prop:=
 wpT ⟨e.P,e.E,e.cs,e.sh,fun _ _=>False⟩ an (fn.body.getD .skip) ⟨1,(0,0,.one (.c (.pl ⟨.out 0,0,[]⟩)))::vg 1 ps y,[(.out 0,0,⟨true,aB sh (flat u x),none⟩)]⟩ ⟨jW e.P fn.results.toList sh u rs KK,fun _ _=>False,jW e.P fn.results.toList sh u rs KK⟩
def MD (sh:List Sh) (u:U) (KP:Value->El u->Prop) (v:Value) (s:St):Prop:=
 let s1:=aV s (.out 0) (dA u) sh 0
 match aY s1.m (.out 0) with
 | some ⟨true,cells,none⟩=>match dp sh cells with
  | some ts=>match gf u ts with
   | some y=>KP v y
   | none=>False
  | none=>False
 | _=>False
def L4 (e:En) (fn:Func) (an:An) (sh:List Sh) (u:U) (ps rs:List U) (x:El u) (y:Fl ps) (KK:Fl rs×El u->Prop) (KP:Value->El u->Prop):Prop:=
 wpT ⟨e.P,e.E,e.cs,e.sh,MD sh u KP⟩ an (fn.body.getD .skip) ⟨1,(0,0,.one (.c (.pl ⟨.out 0,0,[]⟩)))::vg 1 ps y,[(.out 0,0,⟨true,aB sh (flat u x),none⟩)]⟩ ⟨jW e.P fn.results.toList sh u rs KK,fun _ _=>False,jW e.P fn.results.toList sh u rs KK⟩
def Bg (e:En) (fn:Func) (an:An) (sh:List Sh) (u:U) (ps rs:List U):CKt:=fun pk s ops k=>
 match ops with
 | []=>False
 | o::os=>
  let s1:=bm s (os.map (evA s))
  match evA s1 o with
  | .one (.c (.pl ⟨r,0,[]⟩))=>
   let s2:=aV s1 r (dA u) sh 0
   match evA s2 o with
   | .one (.c (.pl ⟨r',0,[]⟩))=>match decide (r'=r),r.tyd,aY s2.m r with
    | true,none,some ⟨true,cells,none⟩=>match dp sh cells with
     | some ts=>match gf u ts,bq ps (os.map (evA s2)) with
      | some x,some y=>∃ (KK:Fl rs×El u->Prop) (KP:Value->El u->Prop),L4 e fn an sh u ps rs x y KK KP /\
        (∀ z x',KK (z,x')->k ⟨s2.nx+1,jJ (jx r) s2.nx s2.t,(r,s2.nx,⟨true,aB sh (flat u x'),none⟩)::bC (jx r) s2.nx (dh s2.m r)⟩ (bw rs z)) /\
        ∀ v x',KP v x'->pk v ⟨s2.nx+1,jJ (jx r) s2.nx s2.t,(r,s2.nx,⟨true,aB sh (flat u x'),none⟩)::bC (jx r) s2.nx (dh s2.m r)⟩
      | _,_=>False
     | none=>False
    | _,_,_=>False
   | _=>False
  | _=>False
def MC (res:List ResultVar) (u:U) (KK:List (El u)->Prop) (s:St):Prop:=
 match res with
 | [.tmp t]=>match gtA s.t t with
  | .one (.c (.rf ⟨n,0,[]⟩))=>match aY s.m n with
   | some ⟨false,[.ow sh u' l],none⟩=>match l4 sh (List.replicate (nc u) .fr),pw u' u l with
    | true,some l'=>KK l'
    | _,_=>False
   | _=>False
  | _=>False
 | _=>False
def QD (e:En) (fn:Func) (an:An) (u:U) (ps:List U) (x:List (El u)) (y:Fl ps) (KK:List (El u)->Prop):Prop:=
 wpT ⟨e.P,e.E,e.cs,e.sh,fun _ _=>False⟩ an (fn.body.getD .skip) ⟨1,(0,0,.one (.c (.rf ⟨.out 0,0,[]⟩)))::vg 1 ps y,[(.out 0,0,⟨false,[.ow (List.replicate (nc u) .fr) u x],none⟩)]⟩ ⟨MC fn.results.toList u KK,fun _ _=>False,MC fn.results.toList u KK⟩
def zw (e:EnB) (all:List Oper):List Oper->St->(St->Bool)->Bool
 | [],s,k=>k s
 | o::r,s,k=>match o.guard with
  | none=>opB e o s fun s'=>zw e all r s' k
  | some (j,want)=>match (all[j]?).bind (·.dst) with
   | some d=>match gtA s.t d with
    | .one (.c (.d (.bo c)))=>match want with
     | true=>if c=true then opB e o (s.put (some d) (sct (.bo true))) fun s'=>zw e all r s' k
      else zw e all r ((s.put (some d) (sct (.bo false))).put o.dst (.tup [])) k
     | false=>if c=true then zw e all r ((s.put (some d) (sct (.bo true))).put o.dst (.tup [])) k
      else opB e o (s.put (some d) (sct (.bo false))) fun s'=>zw e all r s' k
    | .tup []=>zw e all r (s.put o.dst (.tup [])) k
    | _=>false
   | none=>false
def gB (ops:List Oper) (o:Oper) (s:St) (f:St->Bool) (no:St->Bool):Bool:=
 match o.guard with
 | none=>f s
 | some (j,want)=>match (ops[j]?).bind (·.dst) with
  | some d=>match gtA s.t d with
   | .one (.c (.d (.bo c)))=>match want with
    | true=>if c=true then f (s.put (some d) (sct (.bo true))) else no ((s.put (some d) (sct (.bo false))).put o.dst (.tup []))
    | false=>if c=true then no ((s.put (some d) (sct (.bo true))).put o.dst (.tup [])) else f (s.put (some d) (sct (.bo false)))
   | .tup []=>no (s.put o.dst (.tup []))
   | _=>false
  | none=>false
def Ty (f:Nat->Bool):List Nat->Bool
 | []=>true
 | [i]=>f i
 | i::r=>match f i with
  | true=>Ty f r
  | false=>false
def py (e:EnB) (ops:Array Oper):Nat->Array Bool->St->(St->Bool)->Bool
 | 0,listed,s,k=>match Region.ready .any ops listed with
  | []=>k s
  | _=>false
 | n+1,listed,s,k=>match Region.ready .any ops listed with
  | []=>k s
  | i0::rd=>match uM ops listed s (i0::rd) with
   | some (i,_,fz)=>match ops[i]? with
    | some o=>match o.guard with
     | none=>let s1:=zx s o; qB e o s1 fun v=>py e ops n (listed.setIfInBounds i true) (s1.put o.dst v) k
     | some _=>gB ops.toList o s (fun s=>match !fz||kp s o with
      | true=>qB e o s fun v=>py e ops n (listed.setIfInBounds i true) (s.put o.dst v) k
      | false=>false) (fun s=>py e ops n (listed.setIfInBounds i true) s k)
    | none=>false
   | none=>Ty (fun i=>match ops[i]? with
    | some o=>gB ops.toList o s (fun s=>UV e o s fun s'=>py e ops n (listed.setIfInBounds i true) s' k) (fun s=>py e ops n (listed.setIfInBounds i true) s k)
    | none=>false) (i0::rd)
def JU (body:(St->Bool)->St->Bool):Nat->St->Bool
 | 0,_=>false
 | n+1,s=>body (JU body n) s
def C2 (P:Program) (s:St) (k:At->Bool):ResultVar->Bool
 | .tmp t=>k (gtA s.t t)
 | .cell a t=>match gtA s.t a with
  | .one (.c (.pl p))=>match aY s.m p.root with
   | some r=>match r.hole.isNone&&r.cells.all (fun t=>!t.owned) with
    | true=>Mq P s.m t (gtA s.t a) k
    | false=>false
   | none=>false
  | _=>false
def sg (P:Program) (s:St):List ResultVar->(List At->Bool)->Bool
 | [],k=>k []
 | r::rs,k=>C2 P s (fun v=>sg P s rs fun vs=>k (v::vs)) r
def GB (P:Program) (rs:List ResultVar) (us:List U) (KK:Fl us->Bool) (s:St):Bool:=
 sg P (g8 s rs) rs fun vs=>match bq us vs with
  | some x=>KK x
  | none=>false
def Mj (P:Program) (res:List ResultVar) (k:St->At->Bool) (s:St):Bool:=
 match Gz P s res with
 | some xs=>k ⟨s.nx,oq s.t,s.m⟩ (X6 xs)
 | none=>false
structure KtB where
 n:St->Bool
 x:Nat->St->Bool
 r:St->Bool
def wpB (n:Nat) (e:EnB):Code->St->KtB->Bool
 | .skip,s,K=>K.n s
 | .region _ ops false,s,K=>zw e ops.toList ops.toList s K.n
 | .region _ ops true,s,K=>py e ops ops.size (Array.replicate ops.size false) s K.n
 | .seq x y,s,K=>wpB n e x s ⟨fun s'=>wpB n e y s' K,K.x,K.r⟩
 | .cond (.tmp t) x y,s,K=>match gtA s.t t with
  | .one (.c (.d (.bo c)))=>match c with
   | true=>wpB n e x s K
   | false=>wpB n e y s K
  | _=>false
 | .block id x,s,K=>wpB n e x s ⟨K.n,fun i s'=>match Nat.beq i id with
  | true=>K.n s'
  | false=>K.x i s',K.r⟩
 | .loop x,s,K=>JU (fun R s'=>wpB n e x s' ⟨R,K.x,K.r⟩) n s
 | .exit id,s,K=>K.x id s
 | .ret,s,K=>K.r s
 | _,_,_=>false
def EB (n:Nat) (b:EnB) (fn:Func) (ps rs:List U) (x:Fl ps) (KK:Fl rs->Bool):Bool:=
 wpB n b (fn.body.getD .skip) (xt ps x) ⟨GB b.e.P fn.results.toList rs KK,fun _ _=>false,GB b.e.P fn.results.toList rs KK⟩
def SA (n:Nat) (b:EnB) (fn:Func) (ps rs:List U):CKb:=fun s ops k=>
 let s1:=bm s (ops.map (evA s))
 match bq ps (ops.map (evA s1)) with
 | some x=>EB n b fn ps rs x (fun y=>k s1 (bw rs y))
 | none=>false
def Bh (e:En) (fn:Func) (an:An) (ps rs:List U):CKt:=fun _ s ops k=>
 let s1:=bm s (ops.map (evA s))
 match bq ps (ops.map (evA s1)) with
 | some x=>∃ KK:Fl rs->Prop,ao e fn an ps rs x KK/\∀ y,KK y->k s1 (bw rs y)
 | none=>False
def RG (n:Nat) (b:EnB) (fn:Func) (ps rs:List U):CKb:=fun s ops k=>
 match bq ps (ops.map fun x=>lent s (evA s x)),rs.all scU with
 | some x,true=>EB n b fn ps rs x (fun y=>k s (bw rs y))
 | _,_=>false
def WR (n:Nat) (b:EnB) (fn:Func):CKb:=fun s ops k=>
 match Nat.ble ops.length fn.ntmps with
 | true=>wpB n b (fn.body.getD .skip) ⟨s.nx+1,u7 s.nx 0 (ops.map (evA s))++shT s.t,s.m⟩ ⟨Mj b.e.P fn.results.toList k,fun _ _=>false,Mj b.e.P fn.results.toList k⟩
 | false=>false
def yp (P:Program) (res:List ResultVar) (sh:List Sh) (u:U) (rs:List U) (KK:Fl rs×El u->Bool) (s:St):Bool:=
 let s1:=aV (g8 s res) (.out 0) (dA u) sh 0
 sg P s1 res fun vs=>match bq rs vs,aY s1.m (.out 0) with
  | some x,some ⟨true,cells,none⟩=>match dp sh cells with
   | some ts=>match gf u ts with
    | some y=>KK (x,y)
    | none=>false
   | none=>false
  | _,_=>false
def W5 (n:Nat) (b:EnB) (fn:Func) (sh:List Sh) (u:U) (ps rs:List U):CKb:=fun s ops k=>
 match ops with
 | []=>false
 | o::os=>
  let s1:=bm s (os.map (evA s))
  match evA s1 o with
  | .one (.c (.pl ⟨r,0,[]⟩))=>
   let s2:=aV s1 r (dA u) sh 0
   match evA s2 o with
   | .one (.c (.pl ⟨r',0,[]⟩))=>match decide (r'=r),r.tyd,aY s2.m r with
    | true,none,some ⟨true,cells,none⟩=>match dp sh cells with
     | some ts=>match gf u ts,bq ps (os.map (evA s2)) with
      | some x,some y=>wpB n b (fn.body.getD .skip) ⟨1,(0,0,.one (.c (.pl ⟨.out 0,0,[]⟩)))::vg 1 ps y,[(.out 0,0,⟨true,aB sh (flat u x),none⟩)]⟩
        ⟨yp b.e.P fn.results.toList sh u rs (fun z=>k ⟨s2.nx+1,jJ (jx r) s2.nx s2.t,(r,s2.nx,⟨true,aB sh (flat u z.2),none⟩)::bC (jx r) s2.nx (dh s2.m r)⟩ (bw rs z.1)),fun _ _=>false,
         yp b.e.P fn.results.toList sh u rs (fun z=>k ⟨s2.nx+1,jJ (jx r) s2.nx s2.t,(r,s2.nx,⟨true,aB sh (flat u z.2),none⟩)::bC (jx r) s2.nx (dh s2.m r)⟩ (bw rs z.1))⟩
      | _,_=>false
     | none=>false
    | _,_,_=>false
   | _=>false
  | _=>false
def fnB (ps rs:List U) (pre:Fl ps->Bool) (f:Fl ps->Fl rs):CKb:=fun s ops k=>
 let s1:=bm s (ops.map (evA s))
 match bq ps (ops.map (evA s1)) with
 | some x=>match pre x with
  | true=>k s1 (bw rs (f x))
  | false=>false
 | none=>false
def Vm (w:List UInt8) (K:Nat->Bool) (df:Nat):List (List UInt8×Nat)->Bool
 | []=>K df
 | (w0,f)::r=>match decide (w=w0) with
  | true=>K f
  | false=>Vm w K df r
def swB (tab:List (List UInt8×Nat)) (df:Nat):CKb:=fun s ops k=>
 let s1:=bm s (ops.map (evA s))
 match bq [.s] (ops.map (evA s1)) with
 | some w=>Vm w (fun f=>k s1 (sct (.v (.func (.func f) #[] #[])))) df tab
 | none=>false
end Go.Am
end
