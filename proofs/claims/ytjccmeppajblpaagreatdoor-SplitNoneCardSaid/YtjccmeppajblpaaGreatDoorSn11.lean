/-
  Part 11: AmE4.
-/
import Derived.Test.YtjccmeppajblpaaGreatDoorSn10
set_option linter.unusedSimpArgs false
set_option linter.unusedVariables false
set_option linter.unusedSectionVars false
set_option linter.unnecessarySimpa false
section
namespace Go.Am
def jg (e:En) (all:List Oper):List Oper->St->(St->Prop)->Prop
 | [],s,k=>k s
 | o::r,s,k=>match o.guard with
  | none=>opT e o s fun s'=>jg e all r s' k
  | some (j,want)=>match (all[j]?).bind (·.dst) with
   | some d=>match gtA s.t d with
    | .one (.c (.d (.bo c)))=>match want with
     | true=>if c=true then opT e o (s.put (some d) (sct (.bo true))) fun s'=>jg e all r s' k
      else jg e all r ((s.put (some d) (sct (.bo false))).put o.dst (.tup [])) k
     | false=>if c=true then jg e all r ((s.put (some d) (sct (.bo true))).put o.dst (.tup [])) k
      else opT e o (s.put (some d) (sct (.bo false))) fun s'=>jg e all r s' k
    | .tup []=>jg e all r (s.put o.dst (.tup [])) k
    | _=>False
   | none=>False
def St.clr (s:St):St:=⟨s.nx,[],s.m⟩
abbrev En.cl (e:En):En:=⟨e.P,e.E,e.cs,e.sh,fun v s=>e.pk v s.clr⟩
def Mf:At->Bool
 | .one (.c (.el _ _))=>true
 | .one (.c (.ga _ _ _))=>true
 | _=>false
def js (s:St) (o:Oper):Bool:=
 match o.op with
 | .load _ x=>Mf (evA s x)
 | _=>true
def RR (ops:Array Oper) (listed:Array Bool) (i:Nat):List Nat:=
 (List.range ops.size).foldl (fun A j=>if unlisted listed j&&!(Nat.beq j i)&&(match ops[j]? with
  | some o=>o.after.any fun e=>Region.binds .any e&&unlisted listed e.on&&(Nat.beq e.on i||A.contains e.on)
  | none=>false) then j::A else A) []
def rG (ops:Array Oper) (listed:Array Bool) (s:St):List Nat->Option (Nat×List Nat×Bool)
 | []=>none
 | i::r=>match ops[i]? with
  | none=>rG ops listed s r
  | some o=>match isQ o with
   | false=>rG ops listed s r
   | true=>match js s o with
    | true=>match pF ops listed i [] true with
     | true=>some (i,[],true)
     | false=>rG ops listed s r
    | false=>match pF ops listed i (RR ops listed i) false with
     | true=>some (i,RR ops listed i,false)
     | false=>rG ops listed s r
def gT (ops:List Oper) (o:Oper) (s:St) (f:St->Prop) (no:St->Prop):Prop:=
 match o.guard with
 | none=>f s
 | some (j,want)=>match (ops[j]?).bind (·.dst) with
  | some d=>match gtA s.t d with
   | .one (.c (.d (.bo c)))=>match want with
    | true=>if c=true then f (s.put (some d) (sct (.bo true))) else no ((s.put (some d) (sct (.bo false))).put o.dst (.tup []))
    | false=>if c=true then no ((s.put (some d) (sct (.bo true))).put o.dst (.tup [])) else f (s.put (some d) (sct (.bo false)))
   | .tup []=>no (s.put o.dst (.tup []))
   | _=>False
  | none=>False
def Je (f:Nat->Prop):List Nat->Prop
 | []=>True
 | [i]=>f i
 | i::r=>f i/\Je f r
def e9 (e:En) (ops:Array Oper):Nat->Array Bool->St->(St->Prop)->Prop
 | 0,listed,s,k=>match Region.ready .any ops listed with
  | []=>k s
  | _=>False
 | n+1,listed,s,k=>match Region.ready .any ops listed with
  | []=>k s
  | i0::rd=>match rG ops listed s (i0::rd) with
   | some (i,_,fz)=>match ops[i]? with
    | some o=>match o.guard with
     | none=>let s1:=vX s o; qT e o s1 fun v=>e9 e ops n (listed.setIfInBounds i true) (s1.put o.dst v) k
     | some _=>gT ops.toList o s (fun s=>match !fz||js s o with
      | true=>qT e o s fun v=>e9 e ops n (listed.setIfInBounds i true) (s.put o.dst v) k
      | false=>False) (fun s=>e9 e ops n (listed.setIfInBounds i true) s k)
    | none=>False
   | none=>Je (fun i=>match ops[i]? with
    | some o=>gT ops.toList o s (fun s=>sR e.cl o s fun s'=>e9 e ops n (listed.setIfInBounds i true) s' k) (fun s=>e9 e ops n (listed.setIfInBounds i true) s k)
    | none=>False) (i0::rd)
inductive Sp where
 | sl (k:Nat) (u:U)
 | ow (k:Nat) (sh:List Sh) (u:U)
 | rt (n:Nm) (sh:List Sh) (u:U)
 | mp (n:Nm) (ku vu:U)
 | mo (n:Nm) (ku u:U)
abbrev Sp.ty:Sp->Type
 | .sl _ u=>El u
 | .ow _ _ u=>List (El u)
 | .rt _ _ u=>El u
 | .mp _ ku vu=>List (El ku×El vu)
 | .mo _ ku u=>List (El ku×List (El u))
abbrev FSp:List Sp->Type
 | []=>Unit
 | [p]=>p.ty
 | p::q::r=>p.ty×FSp (q::r)
def FSp.cons:(p:Sp)->(r:List Sp)->p.ty->FSp r->FSp (p::r)
 | _,[],x,_=>x
 | _,_::_,x,y=>(x,y)
def FSp.hd:(p:Sp)->(r:List Sp)->FSp (p::r)->p.ty
 | _,[],x=>x
 | _,_::_,x=>x.1
def FSp.tl:(p:Sp)->(r:List Sp)->FSp (p::r)->FSp r
 | _,[],_=>()
 | _,_::_,x=>x.2
theorem uU (p:Sp) (r:List Sp) (x:p.ty) (y:FSp r):FSp.hd p r (FSp.cons p r x y)=x:=by cases r <;> rfl
theorem tb (p:Sp) (r:List Sp) (x:p.ty) (y:FSp r):FSp.tl p r (FSp.cons p r x y)=y:=by cases r <;> rfl
def Ga (ku vu ku' vu':U) (l:List (El ku×El vu)):Option (List (El ku'×El vu')):=if h:ku=ku'/\vu=vu' then some (h.1 ▸ h.2 ▸ l) else none
structure Sg where
 ks:List Nat
 kr:List Nm
 ps:List (Nat×Nm×Nat)
 sp:List Sp
def sk:(u:U)->El u->At
 | .st n,x=>.one (.agg ((flat (.st n) x).map Tt.d))
 | u,x=>sct (am u x)
def wC:(u:U)->El u->A1
 | .st n,x=>.agg ((flat (.st n) x).map Tt.d)
 | u,x=>.c (.d (am u x))
def ia (k:Nat):Nm:=.gh (900000+k)
def ah:List Sh->List C->List Tt
 | .ow s::r,.li u l::cs=>.ow s u l::ah r cs
 | _::r,c::cs=>.d c::ah r cs
 | _,_=>[]
def cH:List Sh->List C->List Tt
 | .ow []::r,_::cs=>.nil::cH r cs
 | .ow (a::b)::r,.li u l::cs=>.ow (a::b) u l::cH r cs
 | _::r,c::cs=>.d c::cH r cs
 | _,_=>[]
def unmark:List Sh->List Sh
 | []=>[]
 | .ow []::r=>.fr::unmark r
 | s::r=>s::unmark r
def bF:List (Nat×Nat×At)->Nat->Option (Nat×At)
 | [],_=>none
 | (k,j,v)::t,i=>match Nat.beq k i with
  | true=>some (j,v)
  | false=>bF t i
def bV:List (Nm×Nat×Rt)->Nm->Option (Nat×Rt)
 | [],_=>none
 | (k,j,v)::t,i=>if k=i then some (j,v) else bV t i
def lW (nx:Nat):(sp:List Sp)->FSp sp->List (Nat×Nat×At)
 | [],_=>[]
 | .sl k u::r,x=>(k,nx,sk u (FSp.hd (.sl k u) r x))::lW nx r (FSp.tl (.sl k u) r x)
 | .ow k sh u::r,x=>(k,nx,.one (.c (.rf ⟨ia k,0,[]⟩)))::lW nx r (FSp.tl (.ow k sh u) r x)
 | .rt n sh u::r,x=>lW nx r (FSp.tl (.rt n sh u) r x)
 | .mp n ku vu::r,x=>lW nx r (FSp.tl (.mp n ku vu) r x)
 | .mo n ku u::r,x=>lW nx r (FSp.tl (.mo n ku u) r x)
def fS (nx:Nat):(sp:List Sp)->FSp sp->List (Nm×Nat×Rt)
 | [],_=>[]
 | .sl k u::r,x=>fS nx r (FSp.tl (.sl k u) r x)
 | .ow k sh u::r,x=>(ia k,nx,⟨false,[.ow sh u (FSp.hd (.ow k sh u) r x)],none⟩)::fS nx r (FSp.tl (.ow k sh u) r x)
 | .rt n sh u::r,x=>(n,nx,⟨true,cH sh (flat u (FSp.hd (.rt n sh u) r x)),none⟩)::fS nx r (FSp.tl (.rt n sh u) r x)
 | .mp n ku vu::r,x=>(n,nx,⟨false,[.mp ku vu (FSp.hd (.mp n ku vu) r x)],none⟩)::fS nx r (FSp.tl (.mp n ku vu) r x)
 | .mo n ku u::r,x=>(n,nx,⟨false,[.mo ku u (FSp.hd (.mo n ku u) r x) none],none⟩)::fS nx r (FSp.tl (.mo n ku u) r x)
def xp (t:List (Nat×Nat×At)):List Nat->List (Nat×Nat×At)
 | []=>[]
 | k::r=>match bF t k with
  | some (j,v)=>(k,j,v)::xp t r
  | none=>xp t r
def lY (m:List (Nm×Nat×Rt)):List Nm->List (Nm×Nat×Rt)
 | []=>[]
 | k::r=>match bV m k with
  | some (j,v)=>(k,j,v)::lY m r
  | none=>lY m r
def Sg.st (σ:Sg) (s:St) (x:FSp σ.sp):St:=⟨s.nx+1,xp s.t σ.ks++(σ.ps.map (fun p=>(p.1,s.nx,.one (.c (.pl ⟨p.2.1,p.2.2,[]⟩))))++lW s.nx σ.sp x),lY s.m σ.kr++fS s.nx σ.sp x⟩
def xU (s:St) (k:Nat) (sh:List Sh) (u:U):St:=
 match gtA s.t k with
 | .one (.c .nil)=>
  let s1:=s.fresh (ia k)
  ⟨s1.nx+1,(k,s1.nx,.one (.c (.rf ⟨ia k,0,[]⟩)))::s1.t,(ia k,s1.nx,⟨false,[.ow sh u []],none⟩)::s1.m⟩
 | .one (.c (.rf ⟨n,0,[]⟩))=>match decide (n=ia k),bi s.m n with
  | false,some ⟨false,[.ow sh' u' l],none⟩=>
   let s1:=(s.drop n).fresh (ia k)
   ⟨s1.nx+1,(k,s1.nx,.one (.c (.rf ⟨ia k,0,[]⟩)))::s1.t,(ia k,s1.nx,⟨false,[.ow sh' u' l],none⟩)::s1.m⟩
  | _,_=>s
 | _=>s
def aR (s:St) (n:Nm) (us:List U):List Sh->Nat->St
 | [],_=>s
 | .ow sh::r,off=>match bi s.m n with
  | some ⟨true,cells,none⟩=>match cells[off]?,us[off]? with
   | some .nil,some (.sl u)=>aR ⟨s.nx+1,s.t,cO s.m n s.nx ⟨true,cells.set off (.ow sh u []),none⟩⟩ n us r (off+1)
   | _,_=>aR s n us r (off+1)
  | _=>s
 | .fr::r,off=>match bi s.m n with
  | some ⟨true,cells,none⟩=>match cells[off]? with
   | some (.ow _ _ _)=>aR (pN s ⟨n,off,[]⟩) n us r (off+1)
   | _=>aR s n us r (off+1)
  | _=>s
def dK:U->List U
 | .st n=>(sd n).fs
 | u=>[u]
def prep:List Sp->St->St
 | [],s=>s
 | .sl k _::r,s=>prep r (fT s (gtA s.t k))
 | .ow k sh u::r,s=>prep r (xU s k sh u)
 | .rt n sh u::r,s=>prep r (aR s n (dK u) (unmark sh) 0)
 | .mp _ _ _::r,s=>prep r s
 | .mo _ _ _::r,s=>prep r s
mutual
def Rg:Sh->Sh->Bool
 | .fr,.fr=>true
 | .ow a,.ow b=>lg a b
 | _,_=>false
def lg:List Sh->List Sh->Bool
 | [],[]=>true
 | a::r,b::q=>Rg a b&&lg r q
 | _,_=>false
end
def Ks (u:U):A1->Option (El u)
 | .c t=>match leaf u with
  | true=>gi u [t]
  | false=>none
 | .agg ts=>match leaf u with
  | true=>none
  | false=>gi u ts
def lH (u:U):At->Option (El u)
 | .one x=>Ks u x
 | _=>none
def dq:List Sh->List Tt->Option (List Tt)
 | [],[]=>some []
 | .ow s::r,.ow s' u l::cs=>match lg s s',dq r cs with
  | true,some x=>some (.d (.li u l)::x)
  | _,_=>none
 | .fr::r,.d c::cs=>match dq r cs with
  | some x=>some (.d c::x)
  | none=>none
 | .fr::r,.nil::cs=>match dq r cs with
  | some x=>some (.nil::x)
  | none=>none
 | _,_=>none
def fF:List Sh->List Tt->Option (List Tt)
 | [],[]=>some []
 | .ow []::r,.nil::cs=>match fF r cs with
  | some x=>some (.nil::x)
  | none=>none
 | .ow (a::b)::r,.ow s' u l::cs=>match lg (a::b) s',fF r cs with
  | true,some x=>some (.d (.li u l)::x)
  | _,_=>none
 | .fr::r,.d c::cs=>match fF r cs with
  | some x=>some (.d c::x)
  | none=>none
 | .fr::r,.nil::cs=>match fF r cs with
  | some x=>some (.nil::x)
  | none=>none
 | _,_=>none
def IC (s:St):(p:Sp)->Option p.ty
 | .sl k u=>lH u (gtA s.t k)
 | .ow k sh u=>match gtA s.t k,bi s.m (ia k) with
  | .one (.c (.rf ⟨n,0,[]⟩)),some ⟨false,[.ow sh' u' l],none⟩=>match decide (n=ia k),lg sh sh' with
   | true,true=>oY u' u l
   | _,_=>none
  | _,_=>none
 | .rt n sh u=>match bi s.m n with
  | some ⟨true,cells,none⟩=>match fF sh cells with
   | some ts=>gi u ts
   | none=>none
  | _=>none
 | .mp n ku vu=>match bi s.m n with
  | some ⟨false,[.mp ku' vu' l],none⟩=>Ga ku' vu' ku vu l
  | _=>none
 | .mo n ku u=>match bi s.m n with
  | some ⟨false,[.mo ku' u' l none],none⟩=>Ga ku' (.sl u') ku (.sl u) l
  | _=>none
def unS (s:St):(sp:List Sp)->Option (FSp sp)
 | []=>some ()
 | p::r=>match IC s p,unS s r with
  | some x,some y=>some (FSp.cons p r x y)
  | _,_=>none
def Sp.rn:Sp->List Nm
 | .sl _ _=>[]
 | .ow k _ _=>[ia k]
 | .rt n _ _=>[n]
 | .mp n _ _=>[n]
 | .mo n _ _=>[n]
def Sg.rn (σ:Sg):List Nm:=σ.kr++σ.sp.flatMap Sp.rn
def Tt.inR (rs:List Nm):Tt->Bool
 | .pl p=>rs.contains p.root
 | .rf p=>rs.contains p.root
 | _=>true
def A1.inR (rs:List Nm):A1->Bool
 | .c t=>t.inR rs
 | .agg ts=>ts.all (·.inR rs)
def At.inR (rs:List Nm):At->Bool
 | .one x=>x.inR rs
 | .tup xs=>xs.all (·.inR rs)
 | .any=>true
def yB:List Nm->Bool
 | []=>true
 | n::r=>!r.contains n&&yB r
def Og (s0 s:St) (rs:List Nm):List Nat->Bool
 | []=>true
 | k::r=>(match bF s0.t k,bF s.t k with
  | some (j,_),some (j',v)=>Nat.beq j j'&&Nat.blt j s0.nx&&v.inR rs
  | _,_=>false)&&Og s0 s rs r
def IP (s0 s:St) (rs:List Nm):List Nm->Bool
 | []=>true
 | k::r=>(match bV s0.m k,bV s.m k with
  | some (j,_),some (j',v)=>Nat.beq j j'&&Nat.blt j s0.nx&&v.cells.all (·.inR rs)
  | _,_=>false)&&IP s0 s rs r
def N6 (s:St) (rs:List Nm):List (Nat×Nm×Nat)->Bool
 | []=>true
 | (k,n,o)::r=>(match gtA s.t k with
  | .one (.c (.pl ⟨n',o',[]⟩))=>decide (n'=n)&&Nat.beq o' o&&rs.contains n
  | _=>false)&&N6 s rs r
def Sg.fit (σ:Sg) (s0 s:St):Bool:=yB σ.rn&&N6 s σ.rn σ.ps&&Og s0 s σ.rn σ.ks&&IP s0 s σ.rn σ.kr
def jn (σ:Sg) (s0:St) (J:FSp σ.sp->Prop) (s:St):Prop:=
 let s1:=prep σ.sp s
 match σ.fit s0 s1 with
 | true=>match unS s1 σ.sp with
  | some x=>J x
  | none=>False
 | false=>False
def aJ {α:Type} (A:(α->Prop)->Prop) (B:α->Prop):Prop:=∀ J:α->Prop,(∀ x,B x->J x)->A J
def nk {α:Type} (body:(α->Prop)->α->Prop):Nat->α->Prop
 | 0,_=>False
 | n+1,x=>body (nk body n) x
def ax {α:Type} (body:(α->Prop)->α->Prop) (x:α):Prop:=∃ n,nk body n x
inductive An where
 | l
 | s (a b:An)
 | j (σ:Sg) (a b:An)
 | c (a b:An)
 | b (a:An)
 | lp (σ:Sg) (a:An)
 | a (t:Nat) (n:Nm) (x y:An)
 | un (n:Nat) (a:An)
def An.pick:An->St->An
 | .a t n x y,st0=>match gtA st0.t t with
  | .one (.c (.pl p))=>match decide (p.root=n) with
   | true=>x
   | false=>y
  | _=>y
 | an,_=>an
structure Kt where
 n:St->Prop
 x:Nat->St->Prop
 r:St->Prop
def m8 (body:(St->Prop)->St->Prop):Nat->St->Prop
 | 0,_=>False
 | n+1,s=>body (m8 body n) s
def wpT (e:En):An->Code->St->Kt->Prop
 | _,.skip,s,K=>K.n s
 | _,.region _ ops false,s,K=>jg e ops.toList ops.toList s K.n
 | _,.region _ ops true,s,K=>e9 e ops ops.size (Array.replicate ops.size false) s K.n
 | .s a b,.seq x y,s,K=>wpT e a x s ⟨fun s'=>wpT e (b.pick s') y s' K,K.x,K.r⟩
 | .j σ a b,.seq x y,s,K=>aJ (fun J=>wpT e a x s ⟨jn σ s J,K.x,K.r⟩) (fun v=>wpT e b y (σ.st s v) K)
 | .c a b,.cond (.tmp t) x y,s,K=>match gtA s.t t with
  | .one (.c (.d (.bo c)))=>if c=true then wpT e a x s K else wpT e b y s K
  | _=>False
 | .b a,.block id x,s,K=>wpT e a x s ⟨K.n,fun i s'=>match Nat.beq i id with
  | true=>K.n s'
  | false=>K.x i s',K.r⟩
 | .lp σ a,.loop x,s,K=>
  let s1:=prep σ.sp s
  match σ.fit s1 s1 with
  | true=>match unS s1 σ.sp with
   | some x0=>ax (fun R v=>wpT e a x (σ.st s1 v) ⟨jn σ s1 R,K.x,K.r⟩) x0
   | none=>False
  | false=>False
 | .un n a,.loop x,s,K=>m8 (fun R s'=>wpT e a x s' ⟨R,K.x,K.r⟩) n s
 | _,.exit id,s,K=>K.x id s
 | _,.ret,s,K=>K.r s
 | _,_,_,_=>False
def bJ:(us:List U)->Fl us->At
 | [],_=>.tup []
 | [u],x=>sk u x
 | u::v::r,x=>.tup (resL (u::v::r) x)
where resL:(us:List U)->Fl us->List A1
 | [],_=>[]
 | u::r,x=>wC u (Fl.hd u r x)::resL r (Fl.tl u r x)
def bh:(us:List U)->List At->Option (Fl us)
 | [],[]=>some ()
 | u::r,v::vs=>match lH u v,bh r vs with
  | some x,some y=>some (Fl.cons u r x y)
  | _,_=>none
 | _,_=>none
def uz (s:St) (n:Nm):Nat->St
 | 0=>s
 | i+1=>pN (uz s n i) ⟨n,i,[]⟩
def yF (s:St):ResultVar->St
 | .tmp t=>fT s (gtA s.t t)
 | .cell a _=>match gtA s.t a with
  | .one (.c (.pl p))=>match bi s.m p.root with
   | some r=>uz s p.root r.cells.length
   | none=>s
  | _=>s
def gD:St->List ResultVar->St
 | s,[]=>s
 | s,r::rs=>gD (yF s r) rs
def jw (P:Program) (s:St) (k:At->Prop):ResultVar->Prop
 | .tmp t=>k (gtA s.t t)
 | .cell a t=>match gtA s.t a with
  | .one (.c (.pl p))=>match bi s.m p.root with
   | some r=>match r.hole.isNone&&r.cells.all (fun t=>!t.owned) with
    | true=>jH P s.m t (gtA s.t a) k
    | false=>False
   | none=>False
  | _=>False
def cD (P:Program) (s:St):List ResultVar->(List At->Prop)->Prop
 | [],k=>k []
 | r::rs,k=>jw P s (fun v=>cD P s rs fun vs=>k (v::vs)) r
def nJ (P:Program) (rs:List ResultVar) (us:List U) (KK:Fl us->Prop) (s:St):Prop:=
 cD P (gD s rs) rs fun vs=>match bh us vs with
  | some x=>KK x
  | none=>False
def bZ (ps rs:List U) (pre:Fl ps->Prop) (f:Fl ps->Fl rs):CKt:=fun _ s ops k=>
 let s1:=aX s (ops.map (evA s))
 match bh ps (ops.map (evA s1)) with
 | some x=>pre x/\k s1 (bJ rs (f x))
 | none=>False
def bX (ps rs:List U) (f:Fl ps->Fl rs):CKt:=fun _ s ops k=>
 let s1:=aX s (ops.map (evA s))
 match bh ps (ops.map (evA s1)) with
 | some x=>k s1 (bJ rs (f x))
 | none=>False
def lent (s:St) (v:At):At:=match v with
 | .one (.c (.rf p))=>match bi s.m p.root with
  | some r=>match r.hole,sliceAt s.m p with
   | none,some ⟨_,u,l⟩=>sct (.li u l)
   | _,_=>v
  | none=>v
 | v=>v
def scU:U->Bool
 | .i _=>true
 | .b8=>true
 | .bo=>true
 | .s=>true
 | _=>false
def uV (ps rs:List U) (Φ:Fl ps->(Fl rs->Prop)->Prop):CKt:=fun _ s ops k=>
 match bh ps (ops.map fun x=>lent s (evA s x)),rs.all scU with
 | some x,true=>∃ KK,Φ x KK/\∀ y,KK y->k s (bJ rs y)
 | _,_=>False
def Ck (ps rs:List U) (pre:Fl ps->Prop) (f:Fl ps->Fl rs):CKt:=fun _ s ops k=>
 match bh ps (ops.map fun x=>lent s (evA s x)),rs.all scU with
 | some x,true=>pre x/\k s (bJ rs (f x))
 | _,_=>False
def i7 (r:Nm) (rf:Bool) (p:Pl):Bool:=decide (p.root=r)&&(rf||!p.path.isEmpty)
def NV (sh:List Sh) (u:U) (ps rs:List U) (pre:El u->Fl ps->Prop) (f:El u->Fl ps->Fl rs×El u):CKt:=fun _ s ops k=>
 match ops with
 | []=>False
 | o::os=>
  let s1:=aX s (os.map (evA s))
  match evA s1 o with
  | .one (.c (.pl ⟨r,0,[]⟩))=>
   let s2:=aR s1 r (dK u) sh 0
   match evA s2 o with
   | .one (.c (.pl ⟨r',0,[]⟩))=>match decide (r'=r),r.tyd,bi s2.m r with
    | true,none,some ⟨true,cells,none⟩=>match dq sh cells with
     | some ts=>match gi u ts,bh ps (os.map (evA s2)) with
      | some x,some y=>pre x y/\k ⟨s2.nx+1,iT (i7 r) s2.nx s2.t,(r,s2.nx,⟨true,ah sh (flat u (f x y).2),none⟩)::bN (bv r) s2.nx (d9 s2.m r)⟩ (bJ rs (f x y).1)
      | _,_=>False
     | none=>False
    | _,_,_=>False
   | _=>False
  | _=>False
abbrev noP:PKt:=fun _ _=>False
def swP (w:List UInt8) (K:Nat->Prop) (df:Nat):List (List UInt8×Nat)->Prop
 | []=>K df
 | (w0,f)::r=>if decide (w=w0)=true then K f else swP w K df r
def swT (tab:List (List UInt8×Nat)) (df:Nat):CKt:=fun _ s ops k=>
 let s1:=aX s (ops.map (evA s))
 match bh [.s] (ops.map (evA s1)) with
 | some w=>swP w (fun f=>k s1 (sct (.v (.func (.func f) #[] #[])))) df tab
 | none=>False
def shT:List (Nat×Nat×At)->List (Nat×Nat×At)
 | []=>[]
 | (k,j,v)::r=>(k+100000,j,v)::shT r
def oE:List (Nat×Nat×At)->List (Nat×Nat×At)
 | []=>[]
 | (k,j,v)::r=>match Nat.ble 100000 k with
  | true=>(k - 100000,j,v)::oE r
  | false=>oE r
def sS (nx:Nat):Nat->List At->List (Nat×Nat×At)
 | _,[]=>[]
 | i,v::r=>(i,nx,v)::sS nx (i+1) r
def D1 (s:St):List ResultVar->Option (List A1)
 | []=>some []
 | .tmp t::r=>match gtA s.t t,D1 s r,Nat.blt t 100000 with
  | .one x,some xs,true=>some (x::xs)
  | _,_,_=>none
 | _=>none
def Rr:List A1->At
 | [x]=>.one x
 | xs=>.tup xs
def mV (res:List ResultVar) (k:St->At->Prop) (s:St):Prop:=
 match D1 s res with
 | some xs=>k ⟨s.nx,oE s.t,s.m⟩ (Rr xs)
 | none=>False
def qX (e:En) (fn:Func) (an:An):CKt:=fun pk s ops k=>
 match Nat.ble ops.length fn.ntmps with
 | true=>wpT ⟨e.P,e.E,e.cs,e.sh,fun v s=>pk v ⟨s.nx,oE s.t,s.m⟩⟩ an (fn.body.getD .skip) ⟨s.nx+1,sS s.nx 0 (ops.map (evA s))++shT s.t,s.m⟩ ⟨mV fn.results.toList k,fun _ _=>False,mV fn.results.toList k⟩
 | false=>False
def qH (s:St) (k:Nat) (sh:List Sh) (u:U):St:=
 match gtA s.t k with
 | .one (.c .nil)=>xU s k sh u
 | _=>s
def Np (u:U) (ps:List U) (pre:List (El u)->Fl ps->Prop) (f:List (El u)->Fl ps->List (El u)):CKt:=fun _ s ops k=>
 match ops with
 | .tmp t::os=>
  let s0:=qH s t (List.replicate (nc u) .fr) u
  let s1:=aX s0 (os.map (evA s0))
  match evA s1 (.tmp t) with
  | .one (.c (.rf ⟨r,0,[]⟩))=>match bi s1.m r with
   | some ⟨false,[.ow sh u' l],none⟩=>match lg sh (List.replicate (nc u) .fr),oY u' u l,bh ps (os.map (evA s1)) with
    | true,some l',some x=>pre l' x/\k ⟨s1.nx+1,iT (bv r) s1.nx s1.t,(r,s1.nx,⟨false,[.ow sh u (f l' x)],none⟩)::bN (bv r) s1.nx (d9 s1.m r)⟩ (.one (.c (.rf ⟨r,0,[]⟩)))
    | _,_,_=>False
   | _=>False
  | _=>False
 | _=>False
def sq:Nat->(us:List U)->Fl us->List (Nat×Nat×At)
 | _,[],_=>[]
 | i,u::r,x=>(i,0,sk u (Fl.hd u r x))::sq (i+1) r (Fl.tl u r x)
def pc (us:List U) (x:Fl us):St:=⟨1,sq 0 us x,[]⟩
def bq (e:En) (fn:Func) (an:An) (ps rs:List U) (x:Fl ps) (KK:Fl rs->Prop):Prop:=
 wpT ⟨e.P,e.E,e.cs,e.sh,fun _ _=>False⟩ an (fn.body.getD .skip) (pc ps x) ⟨nJ e.P fn.results.toList rs KK,fun _ _=>False,nJ e.P fn.results.toList rs KK⟩
def jb (P:Program) (res:List ResultVar) (sh:List Sh) (u:U) (rs:List U) (KK:Fl rs×El u->Prop) (s:St):Prop:=
 let s1:=aR (gD s res) (.out 0) (dK u) sh 0
 cD P s1 res fun vs=>match bh rs vs,bi s1.m (.out 0) with
  | some x,some ⟨true,cells,none⟩=>match dq sh cells with
   | some ts=>match gi u ts with
    | some y=>KK (x,y)
    | none=>False
   | none=>False
  | _,_=>False
def M1 (e:En) (fn:Func) (an:An) (sh:List Sh) (u:U) (ps rs:List U) (x:El u) (y:Fl ps) (KK:Fl rs×El u->Prop):Prop:=
 wpT ⟨e.P,e.E,e.cs,e.sh,fun _ _=>False⟩ an (fn.body.getD .skip) ⟨1,(0,0,.one (.c (.pl ⟨.out 0,0,[]⟩)))::sq 1 ps y,[(.out 0,0,⟨true,ah sh (flat u x),none⟩)]⟩ ⟨jb e.P fn.results.toList sh u rs KK,fun _ _=>False,jb e.P fn.results.toList sh u rs KK⟩
def FL (sh:List Sh) (u:U) (KP:Value->El u->Prop) (v:Value) (s:St):Prop:=
 let s1:=aR s (.out 0) (dK u) sh 0
 match bi s1.m (.out 0) with
 | some ⟨true,cells,none⟩=>match dq sh cells with
  | some ts=>match gi u ts with
   | some y=>KP v y
   | none=>False
  | none=>False
 | _=>False
def If (e:En) (fn:Func) (an:An) (sh:List Sh) (u:U) (ps rs:List U) (x:El u) (y:Fl ps) (KK:Fl rs×El u->Prop) (KP:Value->El u->Prop):Prop:=
 wpT ⟨e.P,e.E,e.cs,e.sh,FL sh u KP⟩ an (fn.body.getD .skip) ⟨1,(0,0,.one (.c (.pl ⟨.out 0,0,[]⟩)))::sq 1 ps y,[(.out 0,0,⟨true,ah sh (flat u x),none⟩)]⟩ ⟨jb e.P fn.results.toList sh u rs KK,fun _ _=>False,jb e.P fn.results.toList sh u rs KK⟩
def wS (e:En) (fn:Func) (an:An) (sh:List Sh) (u:U) (ps rs:List U):CKt:=fun pk s ops k=>
 match ops with
 | []=>False
 | o::os=>
  let s1:=aX s (os.map (evA s))
  match evA s1 o with
  | .one (.c (.pl ⟨r,0,[]⟩))=>
   let s2:=aR s1 r (dK u) sh 0
   match evA s2 o with
   | .one (.c (.pl ⟨r',0,[]⟩))=>match decide (r'=r),r.tyd,bi s2.m r with
    | true,none,some ⟨true,cells,none⟩=>match dq sh cells with
     | some ts=>match gi u ts,bh ps (os.map (evA s2)) with
      | some x,some y=>∃ (KK:Fl rs×El u->Prop) (KP:Value->El u->Prop),If e fn an sh u ps rs x y KK KP /\
        (∀ z x',KK (z,x')->k ⟨s2.nx+1,iT (i7 r) s2.nx s2.t,(r,s2.nx,⟨true,ah sh (flat u x'),none⟩)::bN (i7 r) s2.nx (d9 s2.m r)⟩ (bJ rs z)) /\
        ∀ v x',KP v x'->pk v ⟨s2.nx+1,iT (i7 r) s2.nx s2.t,(r,s2.nx,⟨true,ah sh (flat u x'),none⟩)::bN (i7 r) s2.nx (d9 s2.m r)⟩
      | _,_=>False
     | none=>False
    | _,_,_=>False
   | _=>False
  | _=>False
def Ii (res:List ResultVar) (u:U) (KK:List (El u)->Prop) (s:St):Prop:=
 match res with
 | [.tmp t]=>match gtA s.t t with
  | .one (.c (.rf ⟨n,0,[]⟩))=>match bi s.m n with
   | some ⟨false,[.ow sh u' l],none⟩=>match lg sh (List.replicate (nc u) .fr),oY u' u l with
    | true,some l'=>KK l'
    | _,_=>False
   | _=>False
  | _=>False
 | _=>False
def M7 (e:En) (fn:Func) (an:An) (u:U) (ps:List U) (x:List (El u)) (y:Fl ps) (KK:List (El u)->Prop):Prop:=
 wpT ⟨e.P,e.E,e.cs,e.sh,fun _ _=>False⟩ an (fn.body.getD .skip) ⟨1,(0,0,.one (.c (.rf ⟨.out 0,0,[]⟩)))::sq 1 ps y,[(.out 0,0,⟨false,[.ow (List.replicate (nc u) .fr) u x],none⟩)]⟩ ⟨Ii fn.results.toList u KK,fun _ _=>False,Ii fn.results.toList u KK⟩
def wc (e:EnB) (all:List Oper):List Oper->St->(St->Bool)->Bool
 | [],s,k=>k s
 | o::r,s,k=>match o.guard with
  | none=>opB e o s fun s'=>wc e all r s' k
  | some (j,want)=>match (all[j]?).bind (·.dst) with
   | some d=>match gtA s.t d with
    | .one (.c (.d (.bo c)))=>match want with
     | true=>if c=true then opB e o (s.put (some d) (sct (.bo true))) fun s'=>wc e all r s' k
      else wc e all r ((s.put (some d) (sct (.bo false))).put o.dst (.tup [])) k
     | false=>if c=true then wc e all r ((s.put (some d) (sct (.bo true))).put o.dst (.tup [])) k
      else opB e o (s.put (some d) (sct (.bo false))) fun s'=>wc e all r s' k
    | .tup []=>wc e all r (s.put o.dst (.tup [])) k
    | _=>false
   | none=>false
def gB (ops:List Oper) (o:Oper) (s:St) (f:St->Bool) (no:St->Bool):Bool:=
 match o.guard with
 | none=>f s
 | some (j,want)=>match (ops[j]?).bind (·.dst) with
  | some d=>match gtA s.t d with
   | .one (.c (.d (.bo c)))=>match want with
    | true=>if c=true then f (s.put (some d) (sct (.bo true))) else no ((s.put (some d) (sct (.bo false))).put o.dst (.tup []))
    | false=>if c=true then no ((s.put (some d) (sct (.bo true))).put o.dst (.tup [])) else f (s.put (some d) (sct (.bo false)))
   | .tup []=>no (s.put o.dst (.tup []))
   | _=>false
  | none=>false
def Pe (f:Nat->Bool):List Nat->Bool
 | []=>true
 | [i]=>f i
 | i::r=>match f i with
  | true=>Pe f r
  | false=>false
def m9 (e:EnB) (ops:Array Oper):Nat->Array Bool->St->(St->Bool)->Bool
 | 0,listed,s,k=>match Region.ready .any ops listed with
  | []=>k s
  | _=>false
 | n+1,listed,s,k=>match Region.ready .any ops listed with
  | []=>k s
  | i0::rd=>match rG ops listed s (i0::rd) with
   | some (i,_,fz)=>match ops[i]? with
    | some o=>match o.guard with
     | none=>let s1:=vX s o; qB e o s1 fun v=>m9 e ops n (listed.setIfInBounds i true) (s1.put o.dst v) k
     | some _=>gB ops.toList o s (fun s=>match !fz||js s o with
      | true=>qB e o s fun v=>m9 e ops n (listed.setIfInBounds i true) (s.put o.dst v) k
      | false=>false) (fun s=>m9 e ops n (listed.setIfInBounds i true) s k)
    | none=>false
   | none=>Pe (fun i=>match ops[i]? with
    | some o=>gB ops.toList o s (fun s=>NY e o s fun s'=>m9 e ops n (listed.setIfInBounds i true) s' k) (fun s=>m9 e ops n (listed.setIfInBounds i true) s k)
    | none=>false) (i0::rd)
def Fk (body:(St->Bool)->St->Bool):Nat->St->Bool
 | 0,_=>false
 | n+1,s=>body (Fk body n) s
def zY (P:Program) (s:St) (k:At->Bool):ResultVar->Bool
 | .tmp t=>k (gtA s.t t)
 | .cell a t=>match gtA s.t a with
  | .one (.c (.pl p))=>match bi s.m p.root with
   | some r=>match r.hole.isNone&&r.cells.all (fun t=>!t.owned) with
    | true=>FSx P s.m t (gtA s.t a) k
    | false=>false
   | none=>false
  | _=>false
def oG (P:Program) (s:St):List ResultVar->(List At->Bool)->Bool
 | [],k=>k []
 | r::rs,k=>zY P s (fun v=>oG P s rs fun vs=>k (v::vs)) r
def BH (P:Program) (rs:List ResultVar) (us:List U) (KK:Fl us->Bool) (s:St):Bool:=
 oG P (gD s rs) rs fun vs=>match bh us vs with
  | some x=>KK x
  | none=>false
def Ik (res:List ResultVar) (k:St->At->Bool) (s:St):Bool:=
 match D1 s res with
 | some xs=>k ⟨s.nx,oE s.t,s.m⟩ (Rr xs)
 | none=>false
structure KtB where
 n:St->Bool
 x:Nat->St->Bool
 r:St->Bool
def wpB (n:Nat) (e:EnB):Code->St->KtB->Bool
 | .skip,s,K=>K.n s
 | .region _ ops false,s,K=>wc e ops.toList ops.toList s K.n
 | .region _ ops true,s,K=>m9 e ops ops.size (Array.replicate ops.size false) s K.n
 | .seq x y,s,K=>wpB n e x s ⟨fun s'=>wpB n e y s' K,K.x,K.r⟩
 | .cond (.tmp t) x y,s,K=>match gtA s.t t with
  | .one (.c (.d (.bo c)))=>match c with
   | true=>wpB n e x s K
   | false=>wpB n e y s K
  | _=>false
 | .block id x,s,K=>wpB n e x s ⟨K.n,fun i s'=>match Nat.beq i id with
  | true=>K.n s'
  | false=>K.x i s',K.r⟩
 | .loop x,s,K=>Fk (fun R s'=>wpB n e x s' ⟨R,K.x,K.r⟩) n s
 | .exit id,s,K=>K.x id s
 | .ret,s,K=>K.r s
 | _,_,_=>false
def A4 (n:Nat) (b:EnB) (fn:Func) (ps rs:List U) (x:Fl ps) (KK:Fl rs->Bool):Bool:=
 wpB n b (fn.body.getD .skip) (pc ps x) ⟨BH b.e.P fn.results.toList rs KK,fun _ _=>false,BH b.e.P fn.results.toList rs KK⟩
def MM (n:Nat) (b:EnB) (fn:Func) (ps rs:List U):CKb:=fun s ops k=>
 let s1:=aX s (ops.map (evA s))
 match bh ps (ops.map (evA s1)) with
 | some x=>A4 n b fn ps rs x (fun y=>k s1 (bJ rs y))
 | none=>false
def xc (e:En) (fn:Func) (an:An) (ps rs:List U):CKt:=fun _ s ops k=>
 let s1:=aX s (ops.map (evA s))
 match bh ps (ops.map (evA s1)) with
 | some x=>∃ KK:Fl rs->Prop,bq e fn an ps rs x KK/\∀ y,KK y->k s1 (bJ rs y)
 | none=>False
def L1 (n:Nat) (b:EnB) (fn:Func) (ps rs:List U):CKb:=fun s ops k=>
 match bh ps (ops.map fun x=>lent s (evA s x)),rs.all scU with
 | some x,true=>A4 n b fn ps rs x (fun y=>k s (bJ rs y))
 | _,_=>false
def PV (n:Nat) (b:EnB) (fn:Func):CKb:=fun s ops k=>
 match Nat.ble ops.length fn.ntmps with
 | true=>wpB n b (fn.body.getD .skip) ⟨s.nx+1,sS s.nx 0 (ops.map (evA s))++shT s.t,s.m⟩ ⟨Ik fn.results.toList k,fun _ _=>false,Ik fn.results.toList k⟩
 | false=>false
def uB (P:Program) (res:List ResultVar) (sh:List Sh) (u:U) (rs:List U) (KK:Fl rs×El u->Bool) (s:St):Bool:=
 let s1:=aR (gD s res) (.out 0) (dK u) sh 0
 oG P s1 res fun vs=>match bh rs vs,bi s1.m (.out 0) with
  | some x,some ⟨true,cells,none⟩=>match dq sh cells with
   | some ts=>match gi u ts with
    | some y=>KK (x,y)
    | none=>false
   | none=>false
  | _,_=>false
def QN (n:Nat) (b:EnB) (fn:Func) (sh:List Sh) (u:U) (ps rs:List U):CKb:=fun s ops k=>
 match ops with
 | []=>false
 | o::os=>
  let s1:=aX s (os.map (evA s))
  match evA s1 o with
  | .one (.c (.pl ⟨r,0,[]⟩))=>
   let s2:=aR s1 r (dK u) sh 0
   match evA s2 o with
   | .one (.c (.pl ⟨r',0,[]⟩))=>match decide (r'=r),r.tyd,bi s2.m r with
    | true,none,some ⟨true,cells,none⟩=>match dq sh cells with
     | some ts=>match gi u ts,bh ps (os.map (evA s2)) with
      | some x,some y=>wpB n b (fn.body.getD .skip) ⟨1,(0,0,.one (.c (.pl ⟨.out 0,0,[]⟩)))::sq 1 ps y,[(.out 0,0,⟨true,ah sh (flat u x),none⟩)]⟩
        ⟨uB b.e.P fn.results.toList sh u rs (fun z=>k ⟨s2.nx+1,iT (i7 r) s2.nx s2.t,(r,s2.nx,⟨true,ah sh (flat u z.2),none⟩)::bN (i7 r) s2.nx (d9 s2.m r)⟩ (bJ rs z.1)),fun _ _=>false,
         uB b.e.P fn.results.toList sh u rs (fun z=>k ⟨s2.nx+1,iT (i7 r) s2.nx s2.t,(r,s2.nx,⟨true,ah sh (flat u z.2),none⟩)::bN (i7 r) s2.nx (d9 s2.m r)⟩ (bJ rs z.1))⟩
      | _,_=>false
     | none=>false
    | _,_,_=>false
   | _=>false
  | _=>false
def fnB (ps rs:List U) (pre:Fl ps->Bool) (f:Fl ps->Fl rs):CKb:=fun s ops k=>
 let s1:=aX s (ops.map (evA s))
 match bh ps (ops.map (evA s1)) with
 | some x=>match pre x with
  | true=>k s1 (bJ rs (f x))
  | false=>false
 | none=>false
def NL (w:List UInt8) (K:Nat->Bool) (df:Nat):List (List UInt8×Nat)->Bool
 | []=>K df
 | (w0,f)::r=>match decide (w=w0) with
  | true=>K f
  | false=>NL w K df r
def swB (tab:List (List UInt8×Nat)) (df:Nat):CKb:=fun s ops k=>
 let s1:=aX s (ops.map (evA s))
 match bh [.s] (ops.map (evA s1)) with
 | some w=>NL w (fun f=>k s1 (sct (.v (.func (.func f) #[] #[])))) df tab
 | none=>false
end Go.Am
end
