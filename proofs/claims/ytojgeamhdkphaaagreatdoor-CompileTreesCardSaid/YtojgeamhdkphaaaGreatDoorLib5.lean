/- Lib5: a part of the proof. Conditions: as each theorem says. -/
import Derived.Test.YtojgeamhdkphaaaGreatDoorLib4
set_option linter.unusedSimpArgs false
set_option linter.unusedVariables false
namespace Go.Ai
open Go.RowKit

structure LS where
 E:Nat->AV
 B:Id->Option (List AV)
 M:Pl->Option Nat
def cS (σ:St):LS:=⟨lk σ.e,aE σ.bx,aH σ.pm⟩

theorem LS.ext' {u v:LS} (h1: ∀t,u.E t=v.E t) (h2: ∀t,u.B t=v.B t) (h3: ∀t,u.M t=v.M t):u=v:=by
 cases u;cases v;simp only[LS.mk.injEq];exact ⟨funext h1,funext h2,funext h3⟩

inductive Dl where
 |put (d:Nat) (v:AV)
 |puto (d:Nat) (v:AV) (k:Nat)
 |mo (d s:Nat) (v:AV) (k:Nat)
 |box (d:Nat) (cs:List AV)
 |st (d:Id) (off n:Nat) (cs:List AV)
 |lo (d:Nat) (b:Id) (off:Nat) (v:AV) (k:Nat)
 |so (d:Id) (off s:Nat) (cs:List AV) (k:Nat)
 |rdc (d:Nat) (b:Id) (v:AV)
 |call (d:Nat) (xs:List X) (I:In) (O:bZ)

def Dl.ap:Dl->St->St
 | .put d v,σ=>σ.put d v
 | .puto d v k,σ=>σ.puto d v k
 | .mo d s v k,σ=>⟨(d,v)::σ.e,σ.bx,(.s d,k)::iY (dl σ.pm (.s s)) d⟩
 | .box d cs,σ=>⟨(d,.ptr (.n d) 0)::σ.e,(.n d,cs)::σ.bx,iY σ.pm d⟩
 | .st d off n cs,σ=>⟨σ.e,BY σ.bx d cs,xo σ.pm d off n⟩
 | .lo d b off v k,σ=>⟨(d,v)::σ.e,σ.bx,(.s d,k)::iY (dl σ.pm (.b b off)) d⟩
 | .so d off s cs k,σ=>⟨σ.e,BY σ.bx d cs,(.b d off,k)::dl (dl σ.pm (.s s)) (.b d off)⟩
 | .rdc d b v,σ=>⟨(d,v)::σ.e,σ.bx,iY (xp σ.pm b) d⟩
 | .call d xs I O,σ=>bH d σ xs I O

def Dl.e?:Dl->Option (Nat×AV)
 | .put d v=>some (d,v)
 | .puto d v _=>some (d,v)
 | .mo d _ v _=>some (d,v)
 | .box d _=>some (d,.ptr (.n d) 0)
 | .lo d _ _ v _=>some (d,v)
 | .rdc d _ v=>some (d,v)
 | .call d _ _ O=>some (d,O.r)
 |_=>none
def Dl.b?:Dl->Id->Option (List AV)
 | .box d cs,i=>if .n d=i then some cs else none
 | .st d _ _ cs,i=>if d=i then some cs else none
 | .so d _ _ cs _,i=>if d=i then some cs else none
 | .call _ _ _ O,i=>aE O.bx i
 |_,_=>none
def fj (d:Id) (off n:Nat):Pl->Bool
 | .b e o=>e==d&&Nat.ble off o&&Nat.blt o (off+n)
 |_=>false
def B9 (b:Id):Pl->Bool
 | .b e _=>e==b
 |_=>false
theorem AK (l:List (Pl×Nat)) (b:Id) (q:Pl):aH (xp l b) q=if B9 b q=true then none else aH l q:=by
 rw[mq];cases q<;>simp[B9]
def Dl.m?:Dl->Pl->Option (Option Nat)
 | .put d _,p=>if p.at d=true then some none else none
 | .puto d _ k,p=>if p= .s d then some (some k) else if p.at d=true then some none else none
 | .mo d s _ k,p=>if p= .s d then some (some k) else if p.at d=true then some none else if p= .s s then some none else none
 | .box d _,p=>if p.at d=true then some none else none
 | .st d off n _,p=>if fj d off n p=true then some none else none
 | .lo d b off _ k,p=>if p= .s d then some (some k) else if p.at d=true then some none else if p= .b b off then some none else none
 | .so d off s _ k,p=>if p= .b d off then some (some k) else if p= .s s then some none else none
 | .rdc d b _,p=>if p.at d=true then some none else if B9 b p=true then some none else none
 | .call d _ I O,p=>if p.at d=true then some none else match aH O.pm p with
  |some k=>some (some k)
  |none=>match p with
   | .b e _=>if (aE I.bx e).isSome then some none else none
   |_=>none
def Dl.app (δ:Dl) (v:LS):LS:=
 ⟨fun t=>match δ.e? with |some (d,x)=>if d=t then x else v.E t|none=>v.E t,
  fun b=>match δ.b? b with |some cs=>some cs|none=>v.B b,
  fun p=>match δ.m? p with |some x=>x|none=>v.M p⟩

theorem AL (l:List (Pl×Nat)) (d:Id) (off n:Nat) (q:Pl):aH (xo l d off n) q=if fj d off n q=true then none else aH l q:=by
 induction l with
 |nil=>simp[xo,aH]
 |cons x r ih=>
  obtain ⟨y,k'⟩:=x;cases y with
  |s t=>
   simp only[xo,aH];split
   ·rename_i h2;subst h2;simp[fj]
   ·exact ih
  |t t i=>
   simp only[xo,aH];split
   ·rename_i h2;subst h2;simp[fj]
   ·exact ih
  |b e o=>
   simp only[xo];split
   ·rename_i h2;rw[ih];simp only[aH];split
    ·rfl
    ·rename_i h3;rw[if_neg];intro e';subst e';obtain ⟨rfl,h4,h5⟩:=h2;exact h3 (by simp[fj,Nat.ble_eq,Nat.blt_eq,h4,h5])
   ·rename_i h2;simp only[aH,ih];split
    ·rename_i h3;subst h3;rw[if_neg];intro h4;simp only[fj,aL,cY,Nat.ble_eq,Nat.blt_eq] at h4;exact h2 ⟨h4.1.1,h4.1.2,h4.2⟩
    ·rfl

def Nb (d:Nat) (s:Option X) (v:AV) (k:Nat):Dl:=match s with
 |some (.s t)=> .mo d t v k
 |_=> .puto d v k
theorem Fv (d:Nat) (s:Option X) (v:AV) (k:Nat) (σ:St):(Nb d s v k).ap σ=Au d s v k σ:=by
 cases s with
 |none=>rfl
 |some x=>cases x<;>rfl
def Dl.fits (δ:Dl) (σ:St):Prop:=
 match δ with
 | .st d _ _ _=>(aE σ.bx d).isSome
 | .so d _ _ _ _=>(aE σ.bx d).isSome
 | .call _ _ I O=>(∀p∈I.bx,(aE O.bx p.1).isSome)/\(∀p∈I.pm,p.1.isB=true)/\(∀p∈O.pm,p.1.isB=true)
 |_=>True
theorem mz: ∀ {l:List (Id×List AV)} {i:Id},(aE l i).isSome-> ∃cs,(i,cs)∈l:=by
 intro l i h;obtain ⟨cs,hcs⟩:=jX.1 h;exact ⟨cs,cV _ _ _ hcs⟩
theorem l0: ∀(r:List (Id×List AV)) (l:List (Pl×Nat)) (p:Pl),aH (lO l r) p=match p with | .b e _=>if (aE r e).isSome then none else aH l p|_=>aH l p
 |[],l,p=>by cases p<;>simp[lO,aE]
 |(d,c)::r,l,p=>by
  simp only[lO];rw[l0 r];cases p with
  |s t=>simp only[mq]
  |t t i=>simp only[mq]
  |b e o=>
   simp only[mq,aE];by_cases h:d=e
   ·subst h;simp
   ·have h': ¬e=d:=fun q=>h q.symm
    simp[h,h']
theorem rK (xs:List X): ∀(r l:List (Pl×Nat)),(∀p∈r,p.1.isB=true)->j4 xs l r=l
 |[],l,_=>rfl
 |(.b e o,k)::r,l,h=>by
  simp only[j4];exact rK xs r l fun p hp=>h p (List.mem_cons_of_mem _ hp)
 |(.s t,k)::r,l,h=>by have:=h _ (List.mem_cons_self ..);cases this
 |(.t t i,k)::r,l,h=>by have:=h _ (List.mem_cons_self ..);cases this
theorem xX (d:Nat): ∀(l:List (Pl×Nat)),(∀p∈l,p.1.isB=true)->lP d l=l
 |[],_=>rfl
 |(.b e o,k)::r,h=>by
  simp only[lP];rw[xX d r fun p hp=>h p (List.mem_cons_of_mem _ hp)]
 |(.s t,k)::r,h=>by have:=h _ (List.mem_cons_self ..);cases this
 |(.t t i,k)::r,h=>by have:=h _ (List.mem_cons_self ..);cases this
theorem Ca: ∀ {l:List (Pl×Nat)} {p:Pl} {k:Nat},(∀p∈l,p.1.isB=true)->aH l p=some k->p.isB=true
 |[],p,k,_,h=>by simp[aH] at h
 |(q,k0)::r,p,k,hb,h=>by
  simp only[aH] at h;split at h
  ·rename_i e;subst e;exact hb _ (List.mem_cons_self ..)
  ·exact Ca (fun p hp=>hb p (List.mem_cons_of_mem _ hp)) h
theorem rL: ∀ {l:List (Id×List AV)} {p:Id×List AV},p∈l->(aE l p.1).isSome
 |(k,v)::r,p,h=>by
  simp only[aE];split
  ·rfl
  ·rename_i e;rcases o8.1 h with h|h
   ·exact absurd (by rw[h]) e
   ·exact rL h
theorem vO {p:Pl} {d:Nat} (h:p.isB=true):p.at d=false:=by cases p<;>simp_all[Pl.isB,Pl.at]
theorem Cb {δ:Dl} {σ:St} (h:δ.fits σ):cS (δ.ap σ)=δ.app (cS σ):=by
 apply LS.ext'
 ·intro t;cases δ<;>simp[cS,Dl.ap,Dl.app,Dl.e?,St.put,St.puto,bH,lk]
 ·intro t;cases δ<;>simp only[cS,Dl.ap,Dl.app,Dl.b?,St.put,St.puto,aE]
  case box d cs=>by_cases e:Id.n d=t<;>simp[e]
  case call d xs I O=>
   simp only[Dl.fits] at h;simp only[bH,i8,kz];cases h1:aE O.bx t with
   |some c=>rfl
   |none=>
    simp only[];rw[if_neg];intro h2;obtain ⟨cs,hm⟩:=mz h2
    have:=h.1 _ hm
    rw[h1] at this;cases this
  case st d off n cs=>
   simp only[Dl.fits] at h;rw[nZ t h];by_cases e:d=t
   ·subst e;simp
   ·have e': ¬t=d:=fun q=>e q.symm
    simp[e,e']
  case so d off s' cs k=>
   simp only[Dl.fits] at h;rw[nZ t h];by_cases e:d=t
   ·subst e;simp
   ·have e': ¬t=d:=fun q=>e q.symm
    simp[e,e']
 ·intro p;have e1: ∀q:Pl,(q=p)=(p=q):=fun q=>propext ⟨fun e=>e.symm,fun e=>e.symm⟩
  cases δ<;>simp only[cS,Dl.ap,Dl.app,Dl.m?,St.put,St.puto,aH,j6,il,AL,AK,e1]
  case put d v=>by_cases h1:p.at d=true<;>simp[h1]
  case puto d v k=>by_cases h0:p= .s d<;>by_cases h1:p.at d=true<;>simp[h0,h1]
  case mo d s' v k=>
   by_cases h0:p= .s d
   ·simp[h0]
   ·by_cases h1:p.at d=true
    ·simp[h0,h1]
    ·by_cases h2:p= .s s'
     ·simp only[if_neg h0,if_neg h1,if_pos h2]
     ·simp only[if_neg h0,if_neg h1,if_neg h2]
  case box d cs=>by_cases h1:p.at d=true<;>simp[h1]
  case st d off n cs=>by_cases h1:fj d off n p=true<;>simp[h1]
  case lo d b off v k=>by_cases h0:p= .s d<;>by_cases h1:p.at d=true<;>by_cases h2:p= .b b off<;>simp[h0,h1,h2]
  case rdc d b v=>by_cases h1:p.at d=true<;>by_cases h2:B9 b p=true<;>simp[h1,h2]
  case call d xs I O=>
   simp only[Dl.fits] at h;obtain ⟨h1,h2,h3⟩:=h;simp only[bH,vN,rK _ _ _ h2,xX _ _ h3,il,l0];cases h4:aH O.pm p with
   |some k=>
    have:=vO (d:=d) (Ca h3 h4)
    simp[this]
   |none=>
    by_cases h5:p.at d=true
    ·simp[h5]
    ·simp only[if_neg h5];cases p with
     |s t=>rfl
     |t t i=>rfl
     |b e o=>by_cases h6:(aE I.bx e).isSome<;>simp[h6]
  case so d off s' cs k=>by_cases h0:p= .b d off<;>by_cases h2:p= .s s'<;>simp[h0,h2]

section
variable (S:Nat->Nat->In->bZ->Prop)
def gM:bE->(Dl->Prop)->St->Prop
 | .mo d s,K,σ=>match aH σ.pm (.s s) with
  |some k=>K (.mo d s (lk σ.e s) k)
  |none=>K (.put d (lk σ.e s))
 | .al d z,K,σ=>match aE σ.bx (.n d) with
  |none=>K (.box d z)
  |some _=>False
 | .alT d T off z,K,σ=>match aE σ.bx (.n d) with
  |none=>K (.box d (z.set off (.nilT (.n d) T z.length)))
  |some _=>False
 | .bx d x,K,σ=>match aE σ.bx (.n d) with
  |none=>match (σ.v x).cs with
   |some cs=>K (.box d cs)
   |none=>False
  |some _=>False
 | .bs d sz ps,K,σ=>match jZ σ sz ps with
  |some rows=>K (.puto d (.sl rows) sz)
  |none=>False
 | .st n x v,K,σ=>match σ.v x with
  | .ptr d off=>match aE σ.bx d with
   |some cs=>match (σ.v v).cs with
    |some vs=>vs.length=n/\off+n<=cs.length/\K (.st d off n (gO cs off vs))
    |none=>False
   |none=>False
  |_=>False
 | .lo d x,K,σ=>match σ.v x with
  | .ptr b off=>match aE σ.bx b with
   |some cs=>match cs[off]? with
    |some v=>match aH σ.pm (.b b off) with
     |some k=>K (.lo d b off v k)
     |none=>K (.put d v)
    |none=>False
   |none=>False
  | .pin cs=>match cs[0]? with
   |some v=>K (.put d v)
   |none=>False
  |_=>False
 | .so x s,K,σ=>match σ.v x with
  | .ptr d off=>match aE σ.bx d with
   |some cs=>match aH σ.pm (.s s) with
    |some k=>off<cs.length/\K (.so d off s (cs.set off (lk σ.e s)) k)
    |none=>match (lk σ.e s).cs with
     |some vs=>vs.length=1/\off+1<=cs.length/\K (.st d off 1 (gO cs off vs))
     |none=>False
   |none=>False
  |_=>False
 | .ap d sz bytes s y,K,σ=>match eP (σ.v y) with
  |some (.sl news)=>(match σ.v s,s with
   | .sl rows,.s t=>aH σ.pm (.s t)=some sz/\(rows.length+news.length)*bytes<=iQ/\(∀r∈rows,r.length=sz)/\(∀r∈news,r.length=sz)/\K (.mo d t (.sl (rows++news)) sz)
   | .nils,_=>news.length*bytes<=iQ/\(∀r∈news,r.length=sz)/\K (.puto d (.sl news) sz)
   |_,_=>False)
  |_=>False
 | .mk _ _ _ _ _ _,_,_=>False
 | .sls d x lo hi,K,σ=>match σ.v x with
  | .str s=>match Ar σ 0 lo,Ar σ s.length hi with
   |some l,some h=>0<=l/\l<=h/\h<=s.length/\K (.put d (.str ((s.take h.toNat).drop l.toNat)))
   |_,_=>False
  |_=>False
 | .slc d sz x lo hi,K,σ=>match σ.v x with
  | .sl rows=>match Ar σ 0 lo,Ar σ rows.length hi with
   |some l,some h=>0<=l/\l<=h/\h<=rows.length/\(∀r∈rows,r.length=sz)/\K (.put d (.sl ((rows.take h.toNat).drop l.toNat)))
   |_,_=>False
  |_=>False
 | .cl d f xs,K,σ=>match lB (xs.map σ.v) with
  |some l=> ∃r,uk S f l r/\K (.put d r)
  |none=>False
 | .cr _ _ _,_,_=>False
 | .cq d f xs fr,K,σ=> ∃I O,S f d I O/\cZ d σ xs I O/\(IV (mT σ fr) I O/\fr.contains d=false)/\K (.call d xs I O)
 | .gd s b d o,K,σ=>match IW (lk σ.e s) b with
  |some true=>gM o K σ
  |some false=>K (.put d (.tup []))
  |none=>False
 | .ca d f s ps,K,σ=> ∃k out,IZ S f σ s ps k out/\K (Nb d s (.sl out) k)
 | .ce _ _ _,_,_=>False
 | .cd _ _ _,_,_=>False
 | .apm _ _ _ _ _,_,_=>False
 | .mkm _ _ _ _ _ _,_,_=>False
 | .bsm _ _ _,_,_=>False
 | .bsn _ _ _,_,_=>False
 | .rs _ _,_,_=>False
 | .nx _ _,_,_=>False
 | .s2b _ _,_,_=>False
 | .aps _ _ _,_,_=>False
 | .ex _ _ _,_,_=>False
 | .sla _ _ _ _ _,_,_=>False
 | .b2s _ _,_,_=>False
 | .i2s _ _,_,_=>False
 | .inl _ _ _,_,_=>False
 | .mkp _,_,_=>False
 | .mpl _ _,_,_=>False
 | .mpe _ _ _ _ _,_,_=>False
 | .mes _ _ _,_,_=>False
 | .mup _ _ _ _,_,_=>False
 | .clr _ _ _,_,_=>False
 | .trm _ _ _ _,_,_=>False
 |o,K,σ=>match ev σ o with
  |some (d,v)=>K (.put d v)
  |none=>False
end
variable {Sp:Nat->Nat->In->bZ->Prop}
def Oj:bE->Bool
 | .ce _ _ _| .cd _ _ _| .apm _ _ _ _ _| .mkm _ _ _ _ _ _| .bsn _ _ _| .bsm _ _ _| .rs _ _| .nx _ _| .s2b _ _| .aps _ _ _| .ex _ _ _| .sla _ _ _ _ _| .b2s _ _| .i2s _ _| .inl _ _ _| .mkp _| .mpl _ _| .mpe _ _ _ _ _| .mes _ _ _| .mup _ _ _ _| .clr _ _ _| .trm _ _ _ _| .bxT _ _ _ _=>false
 | .gd _ _ _ o=>Oj o
 |_=>true

theorem I9: ∀ {o:bE} {K:St->Prop} {σ:St},gM Sp o (fun δ=>K (δ.ap σ)) σ->cg Sp o K σ:=by
 intro o;induction o with
 |gd s b d o ih=>
  intro K σ h;simp only[gM] at h;simp only[cg];split at h
  ·rename_i e;rw[e];exact ih h
  ·rename_i e;rw[e];exact h
  ·cases h
 |ce|cd|apm|mkm|bsn|bsm|rs|nx|s2b|aps|ex|sla|b2s|i2s|inl|mkp|mpl|mpe|mes|mup|bxT|clr|trm=>intro K σ h;exact (h:False).elim
 |ca d f s ps=>intro K σ h;simp only[gM,Fv] at h;exact h
 |_=>intro K σ h;exact h
theorem Ja: ∀ {o:bE} {K:St->Prop} {σ:St},Oj o=true->cg Sp o K σ->gM Sp o (fun δ=>K (δ.ap σ)) σ:=by
 intro o;induction o with
 |gd s b d o ih=>
  intro K σ hok h;simp only[cg] at h;simp only[gM];split at h
  ·rename_i e;rw[e];exact ih hok h
  ·rename_i e;rw[e];exact h
  ·cases h
 |ce|cd|apm|mkm|bsn|bsm|rs|nx|s2b|aps|ex|sla|b2s|i2s|inl|mkp|mpl|mpe|mes|mup|bxT|clr|trm=>intro K σ hok h;cases hok
 |ca d f s ps=>intro K σ hok h;simp only[gM,Fv];exact h
 |_=>intro K σ hok h;exact h

theorem Jb: ∀ {o:bE} {K:Dl->Prop} {σ:St},gM Sp o K σ-> ∃δ,gM Sp o (· =δ) σ/\K δ:=by
 intro o;induction o with
 |ce|cd|apm|mkm|bsn|bsm|rs|nx|s2b|aps|ex|sla|b2s|i2s|inl|mkp|mpl|mpe|mes|mup|bxT|clr|trm=>intro K σ h;exact (h:False).elim
 |gd s b d o ih=>
  intro K σ h;simp only[gM] at h ⊢;split at h
  ·obtain ⟨δ,h1,h2⟩:=ih h;exact ⟨δ,h1,h2⟩
  ·exact ⟨_,rfl,h⟩
  ·cases h
 |ca d f s ps=>intro K σ h;obtain ⟨k,out,h1,h2⟩:=h;exact ⟨_,⟨k,out,h1,rfl⟩,h2⟩
 |cq d f ps fr=>intro K σ h;obtain ⟨I,O,h1,h2,h3,h4⟩:=h;exact ⟨_,⟨I,O,h1,h2,h3,rfl⟩,h4⟩
 |_=>
  intro K σ h;simp only[gM] at h ⊢;repeat' (first|(split at h)|contradiction)
  all_goals first
   |exact ⟨_,rfl,h⟩
   |(obtain ⟨h1,h2⟩:=h;exact ⟨_,⟨h1,rfl⟩,h2⟩)
   |(obtain ⟨h1,h2,h3⟩:=h;exact ⟨_,⟨h1,h2,rfl⟩,h3⟩)
   |(obtain ⟨h1,h2,h3,h4⟩:=h;exact ⟨_,⟨h1,h2,h3,rfl⟩,h4⟩)
   |(obtain ⟨h1,h2,h3,h4,h5⟩:=h;exact ⟨_,⟨h1,h2,h3,h4,rfl⟩,h5⟩)
   |(obtain ⟨r,h1,h2⟩:=h;exact ⟨_,⟨r,h1,rfl⟩,h2⟩)

theorem DJ {K':Dl->Prop} {δ:Dl} (hk:K' δ): ∀ {o:bE} {σ:St},gM Sp o (· =δ) σ->gM Sp o K' σ:=by
 intro o;induction o with
 |ce|cd|apm|mkm|bsn|bsm|rs|nx|s2b|aps|ex|sla|b2s|i2s|inl|mkp|mpl|mpe|mes|mup|bxT|clr|trm=>intro σ h;exact (h:False).elim
 |gd s b d o ih=>
  intro σ h;simp only[gM] at h ⊢;split at h
  ·exact ih h
  ·rw[h];exact hk
  ·cases h
 |ca d f s ps=>intro σ h;obtain ⟨k,out,h1,h2⟩:=h;exact ⟨k,out,h1,by rw[h2];exact hk⟩
 |cq d f ps fr=>intro σ h;obtain ⟨I,O,h1,h2,h3,h4⟩:=h;exact ⟨I,O,h1,h2,h3,by rw[h4];exact hk⟩
 |_=>
  intro σ h;simp only[gM] at h ⊢;repeat' (first|(split at h)|contradiction)
  all_goals first
   |(rw[h];exact hk)
   |(obtain ⟨g1,g2⟩:=h;exact ⟨g1,by rw[g2];exact hk⟩)
   |(obtain ⟨g1,g2,g3⟩:=h;exact ⟨g1,g2,by rw[g3];exact hk⟩)
   |(obtain ⟨g1,g2,g3,g4⟩:=h;exact ⟨g1,g2,g3,by rw[g4];exact hk⟩)
   |(obtain ⟨g1,g2,g3,g4,g5⟩:=h;exact ⟨g1,g2,g3,g4,by rw[g5];exact hk⟩)

def uB (σ:St):bE->List Pl
 | .mo _ s=>[.s s]
 | .ap _ _ _ (.s t) _=>[.s t]
 | .ca _ _ (some (.s t)) _=>[.s t]
 | .lo _ x=>match σ.v x with | .ptr b off=>[.b b off]|_=>[]
 | .so _ s=>[.s s]
 | .gd s b _ o=>match lk σ.e s with
  | .bool t=>if t=b then uB σ o else []
  |_=>[]
 |_=>[]

def gq:bE->Nat
 | .lds _ _| .ldf _ _| .lda _ _ _| .mlk _ _ _ _ _ _=>1
 | .st _ _ _| .lo _ _| .so _ _| .al _ _| .alT _ _ _ _| .bx _ _| .cr _ _ _| .cq _ _ _ _=>2
 | .gd _ _ _ o=>gq o
 |_=>0

structure Ok (o:bE) (σ τ:St):Prop where
 e: ∀t∈cK o,lk σ.e t=lk τ.e t
 t: ∀b,iB (fF σ o) b->aE σ.bx b=aE τ.bx b
 p: ∀p∈uB σ o,aH σ.pm p=aH τ.pm p
 q: ∀b off,iB (fF σ o) b->gq o=2->aH σ.pm (.b b off)=aH τ.pm (.b b off)
 c: ∀x,fF σ o=some x->x.kept τ
theorem Ok.b {o:bE} {σ τ:St} (h:Ok o σ τ): ∀b,fF σ o=some (.one b)->aE σ.bx b=aE τ.bx b:=fun b hb=>h.t b (by rw[hb];rfl)

theorem eM {σ τ:St} {x:X} (h: ∀t∈xs x,lk σ.e t=lk τ.e t):σ.v x=τ.v x:=by
 cases x with
 |s t=>exact h t (by simp[xs])
 |c v=>rfl
theorem qR {σ τ:St} {n:Nat} {x:Option X} (h: ∀t∈ox x,lk σ.e t=lk τ.e t):Ar σ n x=Ar τ n x:=by
 cases x with
 |none=>rfl
 |some x=>simp only[Ar];rw[eM h]
theorem uC {σ τ:St}: ∀ {ps:List (Nat×Nat×X)} {z:List AV},(∀t∈ps.flatMap (fun p=>xs p.2.2),lk σ.e t=lk τ.e t)->kY σ ps z=kY τ ps z
 |[],_,_=>rfl
 |(off,n,x)::r,z,h=>by
  simp only[List.flatMap_cons,lN] at h;simp only[kY];rw[eM (σ:=σ) (τ:=τ) (x:=x) (fun t ht=>h t (.inl ht))];split
  ·split
   ·exact uC (fun t ht=>h t (.inr ht))
   ·rfl
  ·rfl
theorem xY {σ τ:St} {sz:Nat}: ∀ {ps:List X},(∀t∈ps.flatMap xs,lk σ.e t=lk τ.e t)->jZ σ sz ps=jZ τ sz ps
 |[],_=>rfl
 |x::r,h=>by
  simp only[List.flatMap_cons,lN] at h;simp only[jZ];rw[eM (σ:=σ) (τ:=τ) (x:=x) (fun t ht=>h t (.inl ht)),xY (fun t ht=>h t (.inr ht))]
theorem mA {σ τ:St}: ∀ {ps:List X},(∀t∈ps.flatMap xs,lk σ.e t=lk τ.e t)->ps.map σ.v=ps.map τ.v
 |[],_=>rfl
 |x::r,h=>by
  simp only[List.flatMap_cons,lN] at h;simp only[gL];rw[eM (σ:=σ) (τ:=τ) (x:=x) (fun t ht=>h t (.inl ht)),mA (fun t ht=>h t (.inr ht))]

theorem Jc {σ τ:St} {fr:List Nat} (h: ∀s∈fr,Nat.ble KF s=true->lk τ.e (s - KF)=lk σ.e (s - KF)):mT τ fr=mT σ fr:=by
 have: ∀(l:List Nat),(∀s∈l,Nat.ble KF s=true->lk τ.e (s - KF)=lk σ.e (s - KF))->(l.filterMap fun s=>if Nat.ble KF s=true then (lk τ.e (s - KF)).pid else none)=l.filterMap fun s=>if Nat.ble KF s=true then (lk σ.e (s - KF)).pid else none:=by
  intro l;induction l with
  |nil=>intro _;rfl
  |cons s r ih=>
   intro h;simp only[List.filterMap_cons];rw[ih fun t ht=>h t (by simp[ht])];by_cases hk:Nat.ble KF s=true
   ·rw[if_pos hk,if_pos hk,h s (by simp) hk]
   ·rw[if_neg hk,if_neg hk]
 unfold mT;rw[this fr h]
theorem Cc {K:Dl->Prop}: ∀ {o:bE} {σ τ:St},Ok o σ τ->gM Sp o K σ->gM Sp o K τ:=by
 intro o;induction o with
 |ce|cd|apm|mkm|bsn|bsm|rs|nx|s2b|aps|ex|sla|b2s|i2s|inl|mkp|mpl|mpe|mes|mup|bxT|clr|trm=>intro σ τ ha h;exact (h:False).elim
 |mf d f ps=>
  intro σ τ ha h;simp only[gM,ev] at h ⊢;rw[<-mA ha.e];exact h
 |gd s b d o ih=>
  intro σ τ ha h;have h1:=ha.e;simp only[cK,o8,forall_eq_or_imp] at h1;simp only[gM] at h ⊢;rw[<-h1.1];split at h
  ·rename_i e;have ht:=nS e;have hbi:fF σ (.gd s b d o)=fF σ o:=by simp only[fF,ht,if_true]
   exact ih ⟨h1.2,fun b' hb=>ha.t b' (by rw[hbi];exact hb),fun p hp=>ha.p p (by simp only[uB,ht,if_true];exact hp),fun b' off hb h2=>ha.q b' off (by rw[hbi];exact hb) h2,fun x hx=>ha.c x (by rw[hbi];exact hx)⟩ h
  ·exact h
  ·cases h
 |mo d s=>
  intro σ τ ha h;have h1:=ha.e s (by simp[cK]);have h2:=ha.p (.s s) (by simp[uB]);simp only[gM] at h ⊢;rw[<-h2,<-h1];exact h
 |al d z=>
  intro σ τ ha h;have h2:=ha.b (.n d) rfl;simp only[gM] at h ⊢;rw[<-h2];exact h
 |alT d T off z=>
  intro σ τ ha h;have h2:=ha.b (.n d) rfl;simp only[gM] at h ⊢;rw[<-h2];exact h
 |bx d x=>
  intro σ τ ha h;have h2:=ha.b (.n d) rfl;have h1:=eM (σ:=σ) (τ:=τ) (x:=x) ha.e;simp only[gM] at h ⊢;rw[<-h2,<-h1];exact h
 |bs d sz ps=>
  intro σ τ ha h;simp only[gM] at h ⊢;rw[<-xY ha.e];exact h
 |st n x v=>
  intro σ τ ha h;have h0:=ha.e;simp only[cK,lN] at h0;have h1:=eM (σ:=σ) (τ:=τ) (x:=x) (fun t ht=>h0 t (.inl ht));have h2:=eM (σ:=σ) (τ:=τ) (x:=v) (fun t ht=>h0 t (.inr ht));simp only[gM] at h ⊢;rw[<-h1,<-h2];split at h
  ·rename_i d off hx;have h3:=ha.b d (by simp only[fF,hx]);rw[<-h3];exact h
  ·cases h
 |lo d x=>
  intro σ τ ha h;have h1:=eM (σ:=σ) (τ:=τ) (x:=x) ha.e;simp only[gM] at h ⊢;rw[<-h1];split at h
  ·rename_i b off hx;have h3:=ha.b b (by simp only[fF,hx]);have h4:=ha.p (.b b off) (by simp[uB,hx]);rw[<-h3,<-h4];exact h
  ·exact h
  ·cases h
 |so x s=>
  intro σ τ ha h;have h0:=ha.e;simp only[cK,lN] at h0;have h1:=eM (σ:=σ) (τ:=τ) (x:=x) (fun t ht=>h0 t (.inl ht));have h2:=h0 s (by simp);simp only[gM] at h ⊢;rw[<-h1,<-h2];split at h
  ·rename_i b off hx;have h3:=ha.b b (by simp only[fF,hx]);have h4:=ha.p (.s s) (by simp[uB]);rw[<-h3,<-h4];exact h
  ·cases h
 |ap d sz by_ s y=>
  intro σ τ ha h;have h0:=ha.e;simp only[cK,lN] at h0;have h1:=eM (σ:=σ) (τ:=τ) (x:=s) (fun t ht=>h0 t (.inl ht));have h2:=eM (σ:=σ) (τ:=τ) (x:=y) (fun t ht=>h0 t (.inr ht));simp only[gM] at h ⊢;rw[<-h1,<-h2];cases s with
  |s t=>
   have h4:=ha.p (.s t) (by simp[uB]);split at h
   ·split at h
    ·rename_i rows t' hrows he;cases he;exact ⟨h4▸h.1,h.2⟩
    ·exact h
    ·cases h
   ·cases h
  |c v=>
   split at h
   ·split at h
    ·rename_i he;cases he
    ·exact h
    ·cases h
   ·cases h
 |ca d f s ps=>
  intro σ τ ha h;obtain ⟨k,out,h1,h2⟩:=h;refine ⟨k,out,?_,h2⟩;have h0:=ha.e;simp only[cK,lN] at h0;have hm:ps.map σ.v=ps.map τ.v:=mA (fun t ht=>h0 t (.inr ht));cases s with
  |none=>simp only[IZ] at h1 ⊢;rw[<-hm];exact h1
  |some x=>
   cases x with
   |c v=>simp only[IZ] at h1 ⊢;rw[<-hm];exact h1
   |s t=>
    have e1:=h0 t (.inl (by simp[xs]));have e2:=ha.p (.s t) (by simp[uB]);simp only[IZ] at h1 ⊢;rw[<-hm,<-e1,<-e2];exact h1
 |mk d sz by_ z l c=>intro _ _ _ h;exact (show False from h).elim
 |sls d x l hh=>
  intro σ τ ha h;have h0:=ha.e;simp only[cK,lN] at h0;simp only[gM] at h ⊢;rw[<-eM (σ:=σ) (τ:=τ) (x:=x) (fun t ht=>h0 t (.inl ht))];split at h
  ·rename_i s hs;rw[<-qR (σ:=σ) (τ:=τ) (x:=l) (fun t ht=>h0 t (.inr (.inl ht))),<-qR (σ:=σ) (τ:=τ) (x:=hh) (fun t ht=>h0 t (.inr (.inr ht)))];exact h
  ·cases h
 |slc d sz x l hh=>
  intro σ τ ha h;have h0:=ha.e;simp only[cK,lN] at h0;simp only[gM] at h ⊢;rw[<-eM (σ:=σ) (τ:=τ) (x:=x) (fun t ht=>h0 t (.inl ht))];split at h
  ·rename_i s hs;rw[<-qR (σ:=σ) (τ:=τ) (x:=l) (fun t ht=>h0 t (.inr (.inl ht))),<-qR (σ:=σ) (τ:=τ) (x:=hh) (fun t ht=>h0 t (.inr (.inr ht)))];exact h
  ·cases h
 |cl d f ps=>
  intro σ τ ha h;simp only[gM] at h ⊢;rw[<-mA ha.e];exact h
 |cr d f ps=>intro _ _ _ h;exact (show False from h).elim
 |cq d f ps fr=>
  intro σ τ ha h;have hm:ps.map σ.v=ps.map τ.v:=mA fun t ht=>ha.e t (by simp only[cK,lN];exact .inl ht)
  have hF:mT τ fr=mT σ fr:=Jc fun s hs hk=>(ha.e (s - KF) (by simp only[cK,lN,List.mem_filterMap];exact .inr ⟨s,hs,by rw[if_pos hk]⟩)).symm
  obtain ⟨I,O,c1,c2,⟨c3,c5⟩,c4⟩:=h;have hb: ∀i,EU (mT σ fr) i=false->aE σ.bx i=aE τ.bx i:=fun i hi=>ha.t i hi
  have hp: ∀i off,EU (mT σ fr) i=false->aH σ.pm (.b i off)=aH τ.pm (.b i off):=fun i off hi=>ha.q i off hi rfl
  have hI: ∀p∈I.bx,EU (mT σ fr) p.1=false:=fun p hp=>by
   obtain ⟨cs,hcs⟩:=mz (c2.kept p hp);exact c3.fo (p.1,cs) hcs
  refine ⟨I,O,c1,⟨by rw[<-hm];exact c2.vs,fun p hp=>?_,fun p hpm=>?_,c2.one,c2.kept,c2.new,fun p hpm=>?_⟩,⟨by rw[hF];exact c3,c5⟩,c4⟩
  ·have:=c2.bx p hp
   unfold ES at this ⊢;rw[<-hb _ (hI p hp)];exact this
  ·have h1:=c2.pm p hpm;have h2:=c3.ip p hpm;obtain ⟨q,k⟩:=p;cases q with
   |s t=>cases h2
   |t t i=>cases h2
   |b e off=>
    simp only[ry,jn] at h1 ⊢;obtain ⟨cs,hcs⟩:=mz h1.1;have hf:=hI _ hcs;rw[<-hb _ hf,<-hp _ _ hf];exact h1
  ·cases hn:p.1.isNw d with
   |false=>rfl
   |true=>
    exfalso;have hf:EU (mT σ fr) p.1=false:=by
     cases h0:p.1<;>rw[h0] at hn<;>first|(simp[Id.isNw] at hn;done)|skip
     simp only[Id.isNw,aL,cY] at hn;simp only[EU,hn.1];exact c5
    have hs:(aE τ.bx p.1).isSome:=rL hpm;rw[<-hb _ hf] at hs;obtain ⟨cs,hcs⟩:=mz hs
    have:=c2.free _ hcs
    simp only at this;rw[hn] at this;cases this
 |lds d x=>
  intro σ τ ha h;have h1:=eM (σ:=σ) (τ:=τ) (x:=x) ha.e;simp only[gM,ev] at h ⊢;rw[<-h1];cases hx:σ.v x<;>rw[hx] at h<;>simp only[fE] at h ⊢ <;>try exact h
  rename_i b off;have h3:=ha.b b (by simp only[fF,hx]);rw[<-h3];exact h
 |ldf d x=>
  intro σ τ ha h;have h1:=eM (σ:=σ) (τ:=τ) (x:=x) ha.e;simp only[gM,ev] at h ⊢;rw[<-h1];cases hx:σ.v x<;>rw[hx] at h<;>try exact h
  rename_i b off;cases hl:fE σ.bx (.ptr b off) with
  |none=>rw[hl] at h;cases h
  |some v=>
   have h3:=ha.c (.cel b off v) (by simp only[fF,hx,hl]);simp only[Bx.kept] at h3;rw[hl] at h;rw[h3];exact h
 |lda d n x=>
  intro σ τ ha h;have h1:=eM (σ:=σ) (τ:=τ) (x:=x) ha.e;simp only[gM,ev] at h ⊢;rw[<-h1];cases hx:σ.v x<;>rw[hx] at h<;>simp only[ui] at h ⊢ <;>try exact h
  rename_i b off;have h3:=ha.b b (by simp only[fF,hx]);rw[<-h3];exact h
 |mlk d q z m k ok=>
  intro σ τ ha h;have h0:=ha.e;simp only[cK,lN] at h0;have h1:=eM (σ:=σ) (τ:=τ) (x:=m) (fun t ht=>h0 t (.inl ht));have h2:=eM (σ:=σ) (τ:=τ) (x:=k) (fun t ht=>h0 t (.inr ht));simp only[gM,ev] at h ⊢;rw[<-h1,<-h2];cases hx:σ.v m<;>rw[hx] at h<;>simp only[rx] at h ⊢ <;>try exact h
  rename_i b;have h3:=ha.b b (by simp only[fF,hx]);rw[<-h3];exact h
 |bd d z ps=>
  intro σ τ ha h;simp only[gM,ev] at h ⊢;rw[<-uC ha.e];exact h
 |pk d c x y=>
  intro σ τ ha h;have h0:=ha.e;simp only[cK,lN] at h0;simp only[gM,ev] at h ⊢;rw[<-eM (σ:=σ) (τ:=τ) (x:=c) (fun t ht=>h0 t (.inl ht)),<-eM (σ:=σ) (τ:=τ) (x:=x) (fun t ht=>h0 t (.inr (.inl ht))),<-eM (σ:=σ) (τ:=τ) (x:=y) (fun t ht=>h0 t (.inr (.inr ht)))];exact h
 |no=>intro σ τ ha h;exact h
 |mv|un|pn|bq|cv|ln|lns|fa|fls|fla|exq|nc|mi|ta=>
  intro σ τ ha h;have h1:=eM (σ:=σ) (τ:=τ) ha.e;simp only[gM,ev] at h ⊢;rw[<-h1];exact h
 |bi|bb|ea|ia|iaa|ixs|ixa|mn|mx=>
  intro σ τ ha h;have h0:=ha.e;simp only[cK,lN] at h0;have h1:=eM (σ:=σ) (τ:=τ) (fun t ht=>h0 t (.inl ht));have h2:=eM (σ:=σ) (τ:=τ) (fun t ht=>h0 t (.inr ht));simp only[gM,ev] at h ⊢;rw[<-h1,<-h2];exact h

def iS:bE->Option Nat
 | .mo _ s=>some s
 | .so _ s=>some s
 | .ap _ _ _ (.s t) _=>some t
 | .ca _ _ (some (.s t)) _=>some t
 | .gd _ _ _ o=>iS o
 |_=>none
theorem Fw {σ:St} {o:bE} {d:Nat} {v:AV} (h:ev σ o=some (d,v)):cQ o=some d:=by
 cases o<;>simp only[ev] at h<;>(try cases h)<;>(repeat' (first|(split at h)|contradiction))<;>simp_all[cQ]

structure Nc (o:bE) (σ:St) (δ:Dl):Prop where
 e: ∀d v,δ.e?=some (d,v)->cQ o=some d
 b: ∀d cs,δ.b? d=some cs->iB (fF σ o) d/\gq o=2
 m: ∀p x,δ.m? p=some x->(∃d,p.at d=true/\cQ o=some d)\/(∃s,p= .s s/\iS o=some s)\/(∃b off,p= .b b off/\iB (fF σ o) b/\gq o=2)
 f:δ.fits σ

def IA:bE->Bool
 | .gd _ _ d o=>cQ o==some d&&IA o
 |o=>Oj o

theorem jM {o:bE} {σ:St} {d:Nat} {v:AV} (h:cQ o=some d):Nc o σ (.put d v):=
 ⟨fun _ _ e=>by simp only[Dl.e?,dw,jY] at e;rw[h,e.1],fun _ _ e=>by simp[Dl.b?] at e,
  fun p x e=>by
   simp only[Dl.m?] at e;split at e
   ·rename_i h0;exact .inl ⟨d,h0,h⟩
   ·exact absurd e (by simp),trivial⟩
theorem rM {o:bE} {σ:St} {d k:Nat} {v:AV} (h:cQ o=some d):Nc o σ (.puto d v k):=
 ⟨fun _ _ e=>by simp only[Dl.e?,dw,jY] at e;rw[h,e.1],fun _ _ e=>by simp[Dl.b?] at e,
  fun p x e=>by
   simp only[Dl.m?] at e;split at e
   ·rename_i h0;exact .inl ⟨d,by rw[h0];simp[Pl.at],h⟩
   ·split at e
    ·rename_i h0;exact .inl ⟨d,h0,h⟩
    ·exact absurd e (by simp),trivial⟩

theorem vP: ∀ {o:bE} {σ:St} {δ:Dl},IA o=true->gM Sp o (· =δ) σ->Nc o σ δ:=by
 intro o;induction o with
 |gd s b d o ih=>
  intro σ δ hok h;simp only[IA,aL,cY] at hok;simp only[gM] at h;split at h
  ·rename_i e;have ht:=nS e;obtain ⟨f1,f2,f3,f4⟩:=ih hok.2 h;refine ⟨fun d' v hd=>?_,fun d' cs hd=>?_,fun p x hp=>?_,f4⟩
   ·have:=f1 d' v hd;simp only[cQ];rw[if_pos hok.1,<-hok.1];exact this
   ·simpa[fF,ht,gq] using f2 d' cs hd
   ·rcases f3 p x hp with ⟨d',ha,h1⟩|⟨s',rfl,h1⟩|⟨b',off,rfl,h1,h2⟩
    ·left;refine ⟨d',ha,?_⟩;simp only[cQ];rw[if_pos hok.1,<-hok.1];exact h1
    ·right;left;exact ⟨s',rfl,by simpa[iS] using h1⟩
    ·right;right;exact ⟨b',off,rfl,by simpa[fF,ht] using h1,by simpa[gq] using h2⟩
  ·subst h;exact jM (by simp only[cQ];rw[if_pos hok.1])
  ·cases h
 |mo d s=>
  intro σ δ _ h;simp only[gM] at h;split at h
  ·subst h;exact ⟨fun _ _ e=>by simp[Dl.e?] at e;simp[cQ,e.1],fun _ _ e=>by simp[Dl.b?] at e,fun p x e=>by
    simp only[Dl.m?] at e;split at e
    ·rename_i h0;left;exact ⟨d,by rw[h0];simp[Pl.at],rfl⟩
    ·split at e
     ·left;exact ⟨d,by assumption,rfl⟩
     ·split at e
      ·right;left;exact ⟨s,by assumption,rfl⟩
      ·exact absurd e (by simp),trivial⟩
  ·subst h;exact jM rfl
 |al d z=>
  intro σ δ _ h;simp only[gM] at h;split at h
  ·subst h;exact ⟨fun _ _ e=>by simp[Dl.e?] at e;simp[cQ,e.1],fun _ _ e=>by simp[Dl.b?] at e;simp[fF,iB,Bx.tch,gq,e.1],fun p x e=>by
    simp only[Dl.m?] at e;split at e
    ·left;exact ⟨d,by assumption,rfl⟩
    ·exact absurd e (by simp),trivial⟩
  ·cases h
 |alT d T off z=>
  intro σ δ _ h;simp only[gM] at h;split at h
  ·subst h;exact ⟨fun _ _ e=>by simp[Dl.e?] at e;simp[cQ,e.1],fun _ _ e=>by simp[Dl.b?] at e;simp[fF,iB,Bx.tch,gq,e.1],fun p x e=>by
    simp only[Dl.m?] at e;split at e
    ·left;exact ⟨d,by assumption,rfl⟩
    ·exact absurd e (by simp),trivial⟩
  ·cases h
 |bx d z=>
  intro σ δ _ h;simp only[gM] at h;split at h
  ·split at h
   ·subst h;exact ⟨fun _ _ e=>by simp[Dl.e?] at e;simp[cQ,e.1],fun _ _ e=>by simp[Dl.b?] at e;simp[fF,iB,Bx.tch,gq,e.1],fun p x e=>by
     simp only[Dl.m?] at e;split at e
     ·left;exact ⟨d,by assumption,rfl⟩
     ·exact absurd e (by simp),trivial⟩
   ·cases h
  ·cases h
 |bs d sz ps=>
  intro σ δ _ h;simp only[gM] at h;split at h
  ·subst h;exact rM rfl
  ·cases h
 |st n x v=>
  intro σ δ _ h;simp only[gM] at h;split at h
  ·rename_i d off hx;split at h
   ·rename_i cs hcs;split at h
    ·obtain ⟨_,_,h⟩:=h;subst h;refine ⟨fun _ _ e=>by simp[Dl.e?] at e,fun _ _ e=>by simp[Dl.b?] at e;simp[fF,iB,Bx.tch,gq,hx,e.1],fun p x e=>?_,by simp[Dl.fits,hcs]⟩;simp only[Dl.m?] at e;split at e
     ·rename_i hr;cases p with
      |s t=>simp[fj] at hr
      |t t i=>simp[fj] at hr
      |b b' o'=>
       simp only[fj,aL,cY] at hr;right;right;exact ⟨b',o',rfl,by simp[fF,iB,Bx.tch,hx,hr.1.1],rfl⟩
     ·cases e
    ·cases h
   ·cases h
  ·cases h
 |lo d x=>
  intro σ δ _ h;simp only[gM] at h;split at h
  ·rename_i b off hx;split at h
   ·split at h
    ·split at h
     ·subst h;exact ⟨fun _ _ e=>by simp[Dl.e?] at e;simp[cQ,e.1],fun _ _ e=>by simp[Dl.b?] at e,fun p x e=>by
       simp only[Dl.m?] at e;split at e
       ·rename_i h0;left;exact ⟨d,by rw[h0];simp[Pl.at],rfl⟩
       ·split at e
        ·left;exact ⟨d,by assumption,rfl⟩
        ·split at e
         ·right;right;exact ⟨b,off,by assumption,by simp[fF,iB,Bx.tch,hx],rfl⟩
         ·exact absurd e (by simp),trivial⟩
     ·subst h;exact jM rfl
    ·cases h
   ·cases h
  ·split at h
   ·subst h;exact jM rfl
   ·cases h
  ·cases h
 |so x s=>
  intro σ δ _ h;simp only[gM] at h;split at h
  ·rename_i d off hx;split at h
   ·rename_i cs hcs;split at h
    ·rename_i k hk;obtain ⟨_,h⟩:=h;subst h;exact ⟨fun _ _ e=>by simp[Dl.e?] at e,fun _ _ e=>by simp[Dl.b?] at e;simp[fF,iB,Bx.tch,gq,hx,e.1],fun p x e=>by
      simp only[Dl.m?] at e;split at e
      ·right;right;exact ⟨d,off,by assumption,by simp[fF,iB,Bx.tch,hx],rfl⟩
      ·split at e
       ·right;left;exact ⟨_,by assumption,rfl⟩
       ·exact absurd e (by simp),by simp[Dl.fits,hcs]⟩
    ·split at h
     ·obtain ⟨_,_,h⟩:=h;subst h;refine ⟨fun _ _ e=>by simp[Dl.e?] at e,fun _ _ e=>by simp[Dl.b?] at e;simp[fF,iB,Bx.tch,gq,hx,e.1],fun p x e=>?_,by simp[Dl.fits,hcs]⟩;simp only[Dl.m?] at e;split at e
      ·rename_i hr;cases p with
       |s t=>simp[fj] at hr
       |t t i=>simp[fj] at hr
       |b b' o'=>
        simp only[fj,aL,cY] at hr;right;right;exact ⟨b',o',rfl,by simp[fF,iB,Bx.tch,hx,hr.1.1],rfl⟩
      ·cases e
     ·cases h
   ·cases h
  ·cases h
 |ap d sz by_ s y=>
  intro σ δ _ h;simp only[gM] at h;split at h
  ·split at h
   ·rename_i rows t hrows;obtain ⟨_,_,_,_,h⟩:=h;subst h;exact ⟨fun _ _ e=>by simp[Dl.e?] at e;simp[cQ,e.1],fun _ _ e=>by simp[Dl.b?] at e,fun p x e=>by
     simp only[Dl.m?] at e;split at e
     ·rename_i h0;left;exact ⟨d,by rw[h0];simp[Pl.at],rfl⟩
     ·split at e
      ·left;exact ⟨d,by assumption,rfl⟩
      ·split at e
       ·right;left;exact ⟨_,by assumption,rfl⟩
       ·exact absurd e (by simp),trivial⟩
   ·obtain ⟨_,_,h⟩:=h;subst h;exact rM rfl
   ·cases h
  ·cases h
 |ca d f s ps=>
  intro σ δ _ h;obtain ⟨k,out,_,h⟩:=h;have hp: ∀v,Nc (.ca d f s ps) σ (.puto d v k):=fun v=>rM rfl
  cases s with
  |none=>subst h;exact hp _
  |some x=>
   cases x with
   |c v=>subst h;exact hp _
   |s t=>
    subst h;exact ⟨fun _ _ e=>by simp[Nb,Dl.e?] at e;simp[cQ,e.1],fun _ _ e=>by simp[Nb,Dl.b?] at e,fun p x e=>by
     simp only[Nb,Dl.m?] at e;split at e
     ·rename_i h0;left;exact ⟨d,by rw[h0];simp[Pl.at],rfl⟩
     ·split at e
      ·left;exact ⟨d,by assumption,rfl⟩
      ·split at e
       ·right;left;exact ⟨_,by assumption,rfl⟩
       ·exact absurd e (by simp),trivial⟩
 |mk d sz by_ z l c=>intro _ _ _ h;exact (show False from h).elim
 |sls d x l hh=>
  intro σ δ _ h;simp only[gM] at h;split at h
  ·split at h
   ·obtain ⟨_,_,_,h⟩:=h;subst h;exact jM rfl
   ·cases h
  ·cases h
 |slc d sz x l hh=>
  intro σ δ _ h;simp only[gM] at h;split at h
  ·split at h
   ·obtain ⟨_,_,_,_,h⟩:=h;subst h;exact jM rfl
   ·cases h
  ·cases h
 |cl d f ps=>
  intro σ δ _ h;simp only[gM] at h;split at h
  ·obtain ⟨r,_,h⟩:=h;subst h;exact jM rfl
  ·cases h
 |cr d f ps=>intro _ _ _ h;exact (show False from h).elim
 |cq d f ps fr=>
  intro σ δ _ h;obtain ⟨I,O,c1,c2,⟨c3,c5⟩,h⟩:=h;subst h;have hI: ∀e,(aE I.bx e).isSome->EU (mT σ fr) e=false:=fun e he=>by
   obtain ⟨cs,hcs⟩:=mz he;obtain ⟨cs',hcs'⟩:=mz (c2.kept _ hcs);exact c3.fo _ hcs'
  refine ⟨fun _ _ e=>by simp[Dl.e?] at e;simp[cQ,e.1],fun i cs e=>?_,fun p x e=>?_,⟨c2.kept,c3.ip,fun p hp=>Pl.isF_isB (c3.op p hp)⟩⟩
  ·simp only[Dl.b?] at e;exact ⟨c3.fo _ (cV _ _ _ e),rfl⟩
  ·simp only[Dl.m?] at e;split at e
   ·left;exact ⟨d,by assumption,rfl⟩
   ·split at e
    ·rename_i k hk;have hb:=c3.op _ (fh _ _ _ hk);cases p with
     |s t=>cases hb
     |t t i=>cases hb
     |b e' off=>
      right;right;exact ⟨e',off,rfl,by simpa[Pl.isF,iB,fF,Bx.tch] using hb,rfl⟩
    ·cases p with
     |s t=>cases e
     |t t i=>cases e
     |b e' off=>
      simp only at e;split at e
      ·rename_i he;right;right;exact ⟨e',off,rfl,hI _ he,rfl⟩
      ·cases e
 |ce|cd|apm|mkm|bsn|bsm|rs|nx|s2b|aps|ex|sla|b2s|i2s|inl|mkp|mpl|mpe|mes|mup|bxT|clr|trm=>intro σ δ _ h;exact (h:False).elim
 |_=>
  intro σ δ _ h;simp only[gM] at h;split at h
  ·rename_i he;subst h;exact jM (Fw he)
  ·cases h

theorem Jd: ∀ {o:bE} {σ:St},∀p∈uB σ o,(∃s,p= .s s/\iS o=some s)\/(∃b off,p= .b b off/\iB (fF σ o) b/\gq o=2):=by
 intro o;induction o with
 |gd s b d o ih=>
  intro σ p hp;simp only[uB] at hp;split at hp
  ·rename_i t ht;split at hp
   ·rename_i e;rcases ih p hp with ⟨s',rfl,h⟩|⟨b',off,rfl,h1,h2⟩
    ·left;exact ⟨s',rfl,by simpa[iS] using h⟩
    ·right;exact ⟨b',off,rfl,by simpa[fF,ht,e] using h1,by simpa[gq] using h2⟩
   ·simp at hp
  ·simp at hp
 |mo d s=>intro σ p hp;simp[uB] at hp;left;exact ⟨s,hp,rfl⟩
 |so x s=>intro σ p hp;simp[uB] at hp;left;exact ⟨s,hp,rfl⟩
 |ap d sz by_ s y=>
  intro σ p hp;cases s with
  |s t=>simp[uB] at hp;left;exact ⟨t,hp,rfl⟩
  |c v=>simp[uB] at hp
 |ca d f s ps=>
  intro σ p hp;cases s with
  |none=>simp[uB] at hp
  |some x=>
   cases x with
   |s t=>simp[uB] at hp;left;exact ⟨t,hp,rfl⟩
   |c v=>simp[uB] at hp
 |lo d x=>
  intro σ p hp;simp only[uB] at hp;split at hp
  ·rename_i b off hx;simp at hp;right;exact ⟨b,off,hp,by simp[fF,iB,Bx.tch,hx],rfl⟩
  ·simp at hp
 |_=>intro σ p hp;simp[uB] at hp
theorem og: ∀ {o:bE} {s:Nat},iS o=some s->s∈cK o:=by
 intro o;induction o with
 |gd s b d o ih=>intro s' h;simp only[iS] at h;simp[cK,ih h]
 |mo d s=>intro s' h;simp[iS] at h;simp[cK,h]
 |so x s=>intro s' h;simp[iS] at h;simp[cK,h]
 |ap d sz by_ s y=>
  intro s' h;cases s with
  |s t=>simp[iS] at h;simp[cK,xs,h]
  |c v=>simp[iS] at h
 |ca d f s ps=>
  intro s' h;cases s with
  |none=>simp[iS] at h
  |some x=>
   cases x with
   |s t=>simp[iS] at h;simp[cK,xs,h]
   |c v=>simp[iS] at h
 |_=>intro s' h;simp[iS] at h
theorem Cd: ∀ {o:bE} {σ:St} {b:Bx},fF σ o=some b->gq o≠0:=by
 intro o;induction o with
 |gd s b d o ih=>
  intro σ b' h;simp only[fF] at h;split at h
  ·split at h
   ·simpa[gq] using ih h
   ·cases h
  ·cases h
 |_=>intro σ b h;first|(simp[gq];done)|simp[fF] at h

def gU (δs:Nat->Dl) (l:List Nat) (v:LS):LS:=l.foldl (fun v j=>(δs j).app v) v
theorem kC (δs:Nat->Dl) (l:List Nat) (j:Nat) (v:LS):gU δs (l++[j]) v=(δs j).app (gU δs l v):=by simp[gU]

def tE (t:Nat) (δ:Dl):Bool:=match δ.e? with |some (d,_)=>d==t|none=>false
def tB (b:Id) (δ:Dl):Bool:=(δ.b? b).isSome
def tM (p:Pl) (δ:Dl):Bool:=(δ.m? p).isSome

theorem vQ (δs:Nat->Dl) (t:Nat): ∀(l:List Nat) (u v:LS),u.E t=v.E t->(gU δs l u).E t=(gU δs (l.filter fun j=>tE t (δs j)) v).E t:=by
 intro l;induction l with
 |nil=>intro u v h;exact h
 |cons j r ih=>
  intro u v h;simp only[gU,List.foldl_cons,List.filter_cons] at ih ⊢;by_cases ht:tE t (δs j)=true
  ·rw[if_pos ht,List.foldl_cons];refine ih _ _ ?_;simp only[Dl.app];simp only[tE] at ht;split at ht
   ·rename_i d x he;simp only[cY] at ht;simp[ht]
   ·cases ht
  ·rw[if_neg ht];refine ih _ _ ?_;rw[<-h];simp only[Dl.app];split
   ·rename_i d x he;rw[if_neg];intro e;exact ht (by simp[tE,he,e])
   ·rfl
theorem pE (δs:Nat->Dl) (t:Id): ∀(l:List Nat) (u v:LS),u.B t=v.B t->(gU δs l u).B t=(gU δs (l.filter fun j=>tB t (δs j)) v).B t:=by
 intro l;induction l with
 |nil=>intro u v h;exact h
 |cons j r ih=>
  intro u v h;simp only[gU,List.foldl_cons,List.filter_cons] at ih ⊢;by_cases ht:tB t (δs j)=true
  ·rw[if_pos ht,List.foldl_cons];refine ih _ _ ?_;simp only[Dl.app];simp only[tB] at ht;obtain ⟨x,hx⟩:=jX.1 ht;rw[hx]
  ·rw[if_neg ht];refine ih _ _ ?_;rw[<-h];simp only[Dl.app];split
   ·rename_i x he;exact absurd (by simp[tB,he]) ht
   ·rfl
theorem pF (δs:Nat->Dl) (t:Pl): ∀(l:List Nat) (u v:LS),u.M t=v.M t->(gU δs l u).M t=(gU δs (l.filter fun j=>tM t (δs j)) v).M t:=by
 intro l;induction l with
 |nil=>intro u v h;exact h
 |cons j r ih=>
  intro u v h;simp only[gU,List.foldl_cons,List.filter_cons] at ih ⊢;by_cases ht:tM t (δs j)=true
  ·rw[if_pos ht,List.foldl_cons];refine ih _ _ ?_;simp only[Dl.app];simp only[tM] at ht;obtain ⟨x,hx⟩:=jX.1 ht;rw[hx]
  ·rw[if_neg ht];refine ih _ _ ?_;rw[<-h];simp only[Dl.app];split
   ·rename_i x he;exact absurd (by simp[tM,he]) ht
   ·rfl

theorem oh {n i:Nat} {p q:Nat->Bool} (hi:i<=n) (h: ∀j,j<n->p j=(decide (j<i)&&q j)):(List.range n).filter p=(List.range i).filter q:=by
  induction n with
  | zero => have : i = 0 := by omega
            subst this;rfl
  |succ n ih=>
    by_cases hin:i=n+1
    · subst hin
      apply List.filter_congr
      intro j hj
      have:=List.mem_range.1 hj
      rw[h j this];simp[this]
    · rw[List.range_succ,List.filter_append,ih (by omega) (fun j hj=>h j (by omega))]
      have:=h n (by omega)
      rw[show decide (n<i)=false by simp;omega] at this
      simp[this]
end Go.Ai
namespace Go.Ai
open Go.RowKit

def iT (o:Oper):List Nat:=(o.after.toList.filter fun e=>Region.binds .any e).map (·.on)
def DK:List Oper->List Nat->List Nat
 |[],acc=>acc
 |o::r,acc=>DK r (acc++[(iT o).foldl (fun s m=>s|||2^m|||acc.getD m 0) 0])
def Ce (ops:List Oper) (A:List Nat):Bool:=
 (List.range ops.length).all fun j=>match ops[j]? with
  |some o=>(iT o).all (fun m=>Nat.blt m j)&&(List.range j).all fun k=>!(A.getD j 0).testBit k||(iT o).contains k||(iT o).any fun m=>Nat.blt k m&&(A.getD m 0).testBit k
  |none=>false
def ni (us:List (List Nat)) (l:List bE) (A:List Nat) (i j:Nat):Bool:=
 (A.getD j 0).testBit i||
 (let x:=l.getD i .no;let y:=l.getD j .no
  ((cQ x).isNone||cQ x !=cQ y)&&(match cQ x with |some d=>!(cK y).contains d|none=>true)&&(match cQ y with |some d=>!(cK x).contains d|none=>true)&&
  ((iS x).isNone||iS x !=iS y)&&(gq x==0||gq y==0||(gq x==1&&gq y==1)||(us.getD j []).contains i))
def dx (l:List bE):Nat:=if l.all IA then l.length else l.length - 1
def Je (ops:Array Oper) (us:List (List Nat)) (l:List bE):Bool:=
 let A:=DK ops.toList []
 let m:=dx l
 Ce ops.toList A&&ops.size==l.length&&us.length==l.length&&(l.take m).all IA&&((List.range m).all fun j=>(List.range j).all fun i=>ni us l A i j)&&
  (m==l.length||(List.range m).all fun k=>(A.getD m 0).testBit k)

variable {Sp:Nat->Nat->In->bZ->Prop}
theorem Jf: ∀ {o:bE},IA o=true->Oj o=true:=by
 intro o;induction o with
 |gd s b d o ih=>intro h;simp only[IA,aL] at h;exact ih h.2
 |_=>intro h;exact h

theorem xZ: ∀ {h:List (Nat×Bx)} {u:List Nat} {b:Bx},Fc h u b-> ∀p∈h,p.1∈u->KG p.2 b
 |[],_,_,_,p,hp,_=>by simp at hp
 |(i,b')::h,u,b,ho,p,hp,hu=>by
  simp only[Fc] at ho;cases hp with
  |head=>exact ho.1 hu
  |tail _ hp=>exact xZ ho.2 p hp hu

theorem KJ: ∀ {l:List bE} {us:List (List Nat)} {j0:Nat} {h:List (Nat×Bx)} {K:St->Prop} {σ:St} {ut:List (List Nat)} {lt:List bE},us.length=l.length->l.all IA=true->j5 Sp (us++ut) (l++lt) j0 h K σ->
  ∃(δs:Nat->Dl) (σs:Nat->St),σs 0=σ/\(∀(k:Nat) (o:bE),l[k]?=some o->gM Sp o (· =δs k) (σs k)/\cS (σs (k+1))=(δs k).app (cS (σs k)))/\(∃j' h',j5 Sp ut lt j' h' K (σs l.length))/\
   (∀(k:Nat) (o:bE) (u:List Nat) (b:Bx),l[k]?=some o->us[k]?=some u->fF (σs k) o=some b->(∀p∈h,p.1∈u->KG p.2 b)/\(∀i o',i<k->l[i]?=some o'->i+j0∈u-> ∀b',fF (σs i) o'=some b'->KG b' b))/\
   (∀(k:Nat) (o:bE) (u:List Nat),l[k]?=some o->us[k]?=some u->(∀p∈h,p.1∈u->p.2.kept (σs (k+1)))/\(∀i o',i<k->l[i]?=some o'->i+j0∈u-> ∀b',fF (σs i) o'=some b'->b'.kept (σs (k+1))))
 |[],us,j0,h,K,σ,ut,lt,hlen,hok,hw=>by
  cases us with
  |nil=>exact ⟨fun _=> .put 0 .undef,fun _=>σ,rfl,by simp,⟨j0,h,hw⟩,by simp,by simp⟩
  |cons=>simp at hlen
 |o::r,us,j0,h,K,σ,ut,lt,hlen,hok,hw=>by
  cases us with
  |nil=>simp at hlen
  |cons u us=>
   simp only[List.all_cons,aL] at hok;obtain ⟨hoff,hw⟩:=hw;obtain ⟨δ,hd,hk⟩:=Jb (Ja (Jf hok.1) hw);obtain ⟨hkp,hk⟩:=eK.1 hk;have hfit:=vP hok.1 hd;obtain ⟨δs,σs,t0,t1,t2,t3,t4⟩:=KJ (by simpa using hlen) hok.2 hk;refine ⟨fun|0=>δ|k+1=>δs k,fun|0=>σ|k+1=>σs k,rfl,?_,t2,?_,?_⟩
   ·intro k o' ho;cases k with
    |zero=>
     simp at ho;subst ho;refine ⟨hd,?_⟩;simp only[t0];exact Cb hfit.f
    |succ k=>simp at ho;exact t1 k o' ho
   ·intro k o' u' b ho hu hb;cases k with
    |zero=>
     simp at ho hu;subst ho;subst hu;refine ⟨?_,by intro i o' hi;omega⟩;simp only at hb;rw[hb] at hoff;simp only[I1] at hoff;exact xZ hoff
    |succ k=>
     simp at ho hu;obtain ⟨s1,s2⟩:=t3 k o' u' b ho hu hb;refine ⟨fun p hp hpu=>s1 p ?_ hpu,fun i o2 hi ho2 hiu=>?_⟩
     ·cases hbb:fF σ o with
      |none=>exact hp
      |some b'=>simp only[Av];exact List.mem_cons_of_mem _ hp
     ·cases i with
      |zero=>
       simp at ho2;subst ho2;intro b' hbi;simp only at hbi;rw[hbi] at s1;exact s1 (j0,b') (by simp[Av]) (by simpa using hiu)
      |succ i=>
       simp at ho2;exact s2 i o2 (by omega) ho2 (by rw[show i+(j0+1)=i+1+j0 by omega];exact hiu)
   ·intro k o' u' ho hu;cases k with
    |zero=>
     simp at ho hu;subst ho;subst hu;refine ⟨?_,by intro i o' hi;omega⟩;simp only[t0];exact hkp
    |succ k=>
     simp at ho hu;obtain ⟨s1,s2⟩:=t4 k o' u' ho hu;refine ⟨fun p hp hpu=>s1 p ?_ hpu,fun i o2 hi ho2 hiu=>?_⟩
     ·cases hbb:fF σ o with
      |none=>exact hp
      |some b'=>simp only[Av];exact List.mem_cons_of_mem _ hp
     ·cases i with
      |zero=>
       simp at ho2;subst ho2;intro b' hbi;simp only at hbi;rw[hbi] at s1;exact s1 (j0,b') (by simp[Av]) (by simpa using hiu)
      |succ i=>
       simp at ho2;exact s2 i o2 (by omega) ho2 (by rw[show i+(j0+1)=i+1+j0 by omega];exact hiu)
theorem uD {x y:List (Id×List AV)} {b:Id} {off:Nat} (h:aE x b=aE y b):fE x (.ptr b off)=fE y (.ptr b off):=by
 simp only[fE,h]
theorem Jg: ∀ {o:bE} {σ:St} {b:Id} {off:Nat} {v:AV},fF σ o=some (.cel b off v)->fE σ.bx (.ptr b off)=some v/\gq o=1:=by
 intro o;induction o with
 |gd s b d o ih=>
  intro σ b' off v h;simp only[fF] at h;split at h
  ·split at h
   ·simpa[gq] using ih h
   ·cases h
  ·cases h
 |ldf d x=>
  intro σ b off v h;simp only[fF] at h;split at h
  ·split at h
   ·rename_i hl;cases h;exact ⟨hl,rfl⟩
   ·cases h
  ·cases h
 |_=>
  intro σ b off v h;simp only[fF] at h;repeat' (first|(split at h)|contradiction)
  all_goals cases h

theorem uE {n i:Nat} {listed:Array Bool} (hs:n<=listed.size) (hi:i<n) (hf:listed.getD i false=false):
  ((List.range n).filter fun j=>(listed.setIfInBounds i true).getD j false).length=((List.range n).filter fun j=>listed.getD j false).length+1:=by
 have key: ∀m,m<=n->((List.range m).filter fun j=>(listed.setIfInBounds i true).getD j false).length=((List.range m).filter fun j=>listed.getD j false).length+if i<m then 1 else 0:=by
  intro m;induction m with
  |zero=>intro _;simp
  |succ m ih=>
   intro hm;rw[List.range_succ,List.filter_append,List.filter_append,gJ,gJ,ih (by omega)];by_cases him:i=m
   ·subst him;have e1:(listed.setIfInBounds i true).getD i false=true:=by simp[kX,show i<listed.size by omega]
    have e2:([i].filter fun j=>(listed.setIfInBounds i true).getD j false)=[i]:=by simp only[List.filter_cons,e1,if_true,List.filter_nil]
    have e3:([i].filter fun j=>listed.getD j false)=[]:=by simp only[List.filter_cons,hf,List.filter_nil];rfl
    rw[e2,e3,if_neg (Nat.lt_irrefl _),if_pos (Nat.lt_succ_self _)];rfl
   ·have e1:(listed.setIfInBounds i true).getD m false=listed.getD m false:=by
     simp[kX,Array.getElem?_setIfInBounds_ne him]
    have e2:([m].filter fun j=>(listed.setIfInBounds i true).getD j false)=[m].filter fun j=>listed.getD j false:=by simp only[List.filter_cons,e1,List.filter_nil]
    rw[e2];by_cases h1:i<m
    ·rw[if_pos h1,if_pos (by omega)];omega
    ·rw[if_neg h1,if_neg (by omega)];omega
 have:=key n (gp _)
 rw[if_pos hi] at this;exact this

variable {P:Program} {GL:List (Nat×List Value)} {N:Nat}

theorem DL {F:Fr} {ops:Array Oper} {us:List (List Nat)} {l:List bE} {ut:List (List Nat)} {lt:List bE} {A:List Nat}
  (hn:l.length<=ops.size) (hanc:Ce ops.toList A=true) (hus:us.length=l.length) (hokG:l.all IA=true)
  (hpair:((List.range l.length).all fun j=>(List.range j).all fun i=>ni us l A i j)=true)
  (hop: ∀(i:Nat) (o:Oper),ops[i]?=some o->i<l.length-> ∃ao,l[i]?=some ao/\mt P F.GL F.N ops o ao=true)
  (htail: ∀i,l.length<=i->i<ops.size-> ∀k,k<l.length->(A.getD i 0).testBit k=true)
  {K:St->Prop} {Q:Exit->Act->World->Prop}
  (hfin: ∀(listed:Array Bool) (a:Act) (w:World),listed.size=ops.size->(∀j,j<l.length->listed.getD j false=true)->(∀j,l.length<=j->listed.getD j false=false)->
    ∀(S:aS) (gb:Gb) (τ:St) (j':Nat) (h':List (Nat×Bx)),aN F S gb τ a w->j5 (bM P F.GL) ut lt j' h' K τ->wpAny P .any ops Q (ops.size - l.length) listed a w)
  {S:aS} {gb:Gb} {σ:St} {a:Act} {w:World} (hrel:aN F S gb σ a w) (hw:j5 (bM P F.GL) (us++ut) (l++lt) 0 [] K σ):wpAny P .any ops Q ops.size (Array.replicate ops.size false) a {w with drawn:=w.drawn+1}:=by
 obtain ⟨δs,σs,t0,t1,⟨j',h',t2⟩,t3,t4⟩:=KJ hus hokG hw;have hdir: ∀(j:Nat) (o:Oper),ops[j]?=some o->(∀m∈iT o,m<j)/\ ∀k,k<j->(A.getD j 0).testBit k=true->k∈iT o\/ ∃m∈iT o,k<m/\(A.getD m 0).testBit k=true:=by
  intro j o ho;have hj:j<ops.size:=(qN.1 ho).1
  have:=iW.1 hanc j (List.mem_range.2 (by simpa using hj))
  simp only[Array.getElem?_toList,ho,aL,iW,Fa,uh,List.contains_eq_mem,nL,List.any_eq_true,List.mem_range] at this;refine ⟨fun m hm=>by have:=this.1 m hm;simpa using this,fun k hk hb=>?_⟩;rcases this.2 k hk with (h|h)|⟨m,h1,h2,h3⟩
  · rw[h] at hb;cases hb
  · exact .inl h
  · exact .inr ⟨m,h1,by simpa using h2,h3⟩
 let cl (listed:Array Bool):Prop:= ∀(j:Nat) (o:Oper),ops[j]?=some o->listed.getD j false=true-> ∀m∈iT o,listed.getD m false=true
 have hclos: ∀listed,cl listed-> ∀(j:Nat) (o:Oper),ops[j]?=some o->(∀m∈iT o,listed.getD m false=true)-> ∀k,k<j->(A.getD j 0).testBit k=true->listed.getD k false=true:=by
  intro listed hcl j;induction j using Nat.strongRecOn with
  |_ j ih=>
    intro o ho hd k hk hb;obtain ⟨d1,d2⟩:=hdir j o ho;rcases d2 k hk hb with h|⟨m,hm,hkm,hbm⟩
    ·exact hd k h
    ·have hmj:=d1 m hm;have hms:m<ops.size:=by have:=(qN.1 ho).1;omega
     obtain ⟨om,hom⟩: ∃om,ops[m]?=some om:=⟨ops[m],by simp[hms]⟩;exact ih m hmj om hom (hcl m om hom (hd m hm)) k hkm hbm
 have hview: ∀k,k<=l.length->cS (σs k)=gU δs (List.range k) (cS σ):=by
  intro k;induction k with
  |zero=>intro _;rw[t0];rfl
  |succ k ih=>
    intro hk;obtain ⟨o,ho⟩: ∃o,l[k]?=some o:=⟨l[k],by simp⟩;rw[List.range_succ,kC,(t1 k o ho).2,ih (by omega)]
 have hord: ∀(i j:Nat) (ao bo:bE),i<j->l[i]?=some ao->l[j]?=some bo->(A.getD j 0).testBit i=false->
    (∀d,cQ ao=some d->cQ bo≠some d)/\(∀d,cQ ao=some d->d∉cK bo)/\(∀d,cQ bo=some d->d∉cK ao)/\(∀s,iS ao=some s->iS bo≠some s)/\
    (∀b,iB (fF (σs i) ao) b->iB (fF (σs j) bo) b->gq ao=1/\gq bo=1):=by
  intro i j ao bo hij hi hj hb;have hjl:j<l.length:=(tI.1 hj).1;have hp:=iW.1 (iW.1 hpair j (List.mem_range.2 hjl)) i (List.mem_range.2 hij);have ei:l.getD i .no=ao:=by simp[BW,hi]
  have ej:l.getD j .no=bo:=by simp[BW,hj]
  simp only[ni,hb,Bool.false_or,ei,ej,aL] at hp;obtain ⟨⟨⟨⟨h1,h2⟩,h3⟩,h4⟩,h5⟩:=hp;refine ⟨fun d hd=>?_,fun d hd=>?_,fun d hd=>?_,fun s hs=>?_,fun b hb1 hb2=>?_⟩
  · rw[hd] at h1;simp at h1;exact fun e=>h1 e.symm
  · rw[hd] at h2;simpa using h2
  · rw[hd] at h3;simpa using h3
  · rw[hs] at h4;simp at h4;exact fun e=>h4 e.symm
  · obtain ⟨x1,y1⟩: ∃x,fF (σs i) ao=some x:=by
     cases h:fF (σs i) ao with
     |none=>rw[h] at hb1;cases hb1
     |some x=>exact ⟨x,rfl⟩
    obtain ⟨x2,y2⟩: ∃x,fF (σs j) bo=some x:=by
     cases h:fF (σs j) bo with
     |none=>rw[h] at hb2;cases hb2
     |some x=>exact ⟨x,rfl⟩
    rw[y1] at hb1;rw[y2] at hb2;have z1:=Cd y1;have z2:=Cd y2;simp only[Fa,cY,z1,z2,false_or,aL] at h5;rcases h5 with h5|h5
    ·exact h5
    ·exfalso;have hul:j<us.length:=by omega
     obtain ⟨u,hu⟩: ∃u,us[j]?=some u:=⟨us[j],by simp[hul]⟩;have hiu:i∈u:=by simpa[BW,hu] using h5
     exact Lg ((t3 j bo u x2 hj hu y2).2 i ao hij hi (by simpa using hiu) x1 y1) hb1 hb2
 have hconf: ∀(i j:Nat) (ao bo:bE),i≠j->l[i]?=some ao->l[j]?=some bo->
    ((∃t,cQ bo=some t/\(t∈cK ao\/cQ ao=some t))\/(∃s,iS bo=some s/\(cQ ao=some s\/iS ao=some s))\/(∃b,iB (fF (σs j) bo) b/\gq bo=2/\iB (fF (σs i) ao) b))->
    (i<j->(A.getD j 0).testBit i=true)/\(j<i->(A.getD i 0).testBit j=true):=by
  intro i j ao bo hne hi hj hc;constructor
  · intro hij;cases hb:(A.getD j 0).testBit i with
    |true=>rfl
    |false=>
     exfalso;obtain ⟨g1,g2,g3,g4,g5⟩:=hord i j ao bo hij hi hj hb;rcases hc with ⟨t,h1,h2⟩|⟨s,h1,h2⟩|⟨b,h1,h2,h3⟩
     ·rcases h2 with h2|h2
      ·exact g3 t h1 h2
      ·exact g1 t h2 h1
     ·rcases h2 with h2|h2
      ·exact g2 s h2 (og h1)
      ·exact g4 s h2 h1
     ·have:=g5 b h3 h1;omega
  · intro hji;cases hb:(A.getD i 0).testBit j with
    |true=>rfl
    |false=>
     exfalso;obtain ⟨g1,g2,g3,g4,g5⟩:=hord j i bo ao hji hj hi hb;rcases hc with ⟨t,h1,h2⟩|⟨s,h1,h2⟩|⟨b,h1,h2,h3⟩
     ·rcases h2 with h2|h2
      ·exact g2 t h1 h2
      ·exact g1 t h1 h2
     ·rcases h2 with h2|h2
      ·exact g3 s h2 (og h1)
      ·exact g4 s h1 h2
     ·have:=g5 b h1 h3;omega
 have hfit: ∀(k:Nat) (o:bE),l[k]?=some o->Nc o (σs k) (δs k):=fun k o ho=>vP (iW.1 hokG o (List.mem_of_getElem? ho)) (t1 k o ho).1
 let D (listed:Array Bool):List Nat:=(List.range l.length).filter fun j=>listed.getD j false
 have hstep: ∀(listed:Array Bool) (i:Nat) (ao:bE) (o:Oper) (τ:St),listed.size=ops.size->cl listed->ops[i]?=some o->l[i]?=some ao->listed.getD i false=false->(∀m∈iT o,listed.getD m false=true)->
    cS τ=gU δs (D listed) (cS σ)->Ok ao (σs i) τ/\(δs i).app (cS τ)=gU δs (D (listed.setIfInBounds i true)) (cS σ):=by
  intro listed i ao o τ hls hcl ho hi hf hd hτ;have hil:i<l.length:=(tI.1 hi).1;have hpast: ∀(j:Nat) (bo:bE),l[j]?=some bo->i≠j->((∃t,cQ bo=some t/\(t∈cK ao\/cQ ao=some t))\/(∃s,iS bo=some s/\(cQ ao=some s\/iS ao=some s))\/(∃b,iB (fF (σs j) bo) b/\gq bo=2/\iB (fF (σs i) ao) b))->(listed.getD j false=true↔j<i):=by
    intro j bo hj hne hc;obtain ⟨c1,c2⟩:=hconf i j ao bo hne hi hj hc;constructor
    ·intro hl;rcases Nat.lt_or_ge j i with h|h
     ·exact h
     ·exfalso;have hij:i<j:=by omega
      have hjs:j<ops.size:=by have:=(tI.1 hj).1;omega
      have:=hclos listed hcl j ops[j] (by simp[hjs]) (hcl j ops[j] (by simp[hjs]) hl) i hij (c1 hij)
      rw[hf] at this;cases this
    ·intro hji;exact hclos listed hcl i o ho hd j hji (c2 hji)
  have same: ∀(q:Nat->Bool),(∀(j:Nat) (bo:bE),j<l.length->l[j]?=some bo->q j=true->j≠i->(listed.getD j false=true↔j<i))->
     ((D listed).filter q)=((List.range i).filter q):=by
    intro q hq;simp only[D,List.filter_filter];refine oh (Nat.le_of_lt hil) (fun j hj=>?_);obtain ⟨bo,hbo⟩: ∃bo,l[j]?=some bo:=⟨l[j],by simp[hj]⟩;cases hqj:q j with
    |false=>simp
    |true=>
     by_cases hji:j=i
     ·subst hji;simp[hf]
     ·have:=hq j bo hj hbo hqj hji
      simp only[iX,Bool.and_true];by_cases h1:j<i
      ·rw[this.2 h1];simp[h1]
      ·have h2:listed.getD j false=false:=by
        cases h3:listed.getD j false with
        |false=>rfl
        |true=>exact absurd (this.1 h3) h1
       rw[h2];simp;omega
  have hvi:=hview i (Nat.le_of_lt hil);have tEc: ∀(t j:Nat) (bo:bE),l[j]?=some bo->tE t (δs j)=true->cQ bo=some t:=by
    intro t j bo hj ht;simp only[tE] at ht;split at ht
    ·rename_i d x he;simp only[cY] at ht;subst ht;exact (hfit j bo hj).e _ _ he
    ·cases ht
  have tBc: ∀(b:Id) (j:Nat) (bo:bE),l[j]?=some bo->tB b (δs j)=true->iB (fF (σs j) bo) b/\gq bo=2:=by
    intro b j bo hj ht;simp only[tB] at ht;obtain ⟨x,hx⟩:=jX.1 ht;exact (hfit j bo hj).b _ _ hx
  have tMc: ∀(p:Pl) (j:Nat) (bo:bE),l[j]?=some bo->tM p (δs j)=true->(∃d,p.at d=true/\cQ bo=some d)\/(∃s,p= .s s/\iS bo=some s)\/(∃b off,p= .b b off/\iB (fF (σs j) bo) b/\gq bo=2):=by
    intro p j bo hj ht;obtain ⟨x,hx⟩:=jX.1 ht;exact (hfit j bo hj).m p x hx
  refine ⟨⟨fun t ht=>?_,fun b hb=>?_,fun p hp=>?_,fun b off hb h2=>?_,fun x hx=>?_⟩,?_⟩
  · have e1:lk (σs i).e t=(gU δs (List.range i) (cS σ)).E t:=by rw[<-hvi];rfl
    have e2:lk τ.e t=(gU δs (D listed) (cS σ)).E t:=by rw[<-hτ];rfl
    rw[e1,e2,vQ δs t _ _ (cS σ) rfl,vQ δs t (D listed) _ (cS σ) rfl,same _ (fun j bo _ hj hq hne=>hpast j bo hj (Ne.symm hne) (.inl ⟨t,tEc t j bo hj hq,.inl ht⟩))]
  · have e1:aE (σs i).bx b=(gU δs (List.range i) (cS σ)).B b:=by rw[<-hvi];rfl
    have e2:aE τ.bx b=(gU δs (D listed) (cS σ)).B b:=by rw[<-hτ];rfl
    rw[e1,e2,pE δs b _ _ (cS σ) rfl,pE δs b (D listed) _ (cS σ) rfl,same _ (fun j bo _ hj hq hne=>by
     obtain ⟨q1,q2⟩:=tBc b j bo hj hq;exact hpast j bo hj (Ne.symm hne) (.inr (.inr ⟨b,q1,q2,hb⟩)))]
  · have e1:aH (σs i).pm p=(gU δs (List.range i) (cS σ)).M p:=by rw[<-hvi];rfl
    have e2:aH τ.pm p=(gU δs (D listed) (cS σ)).M p:=by rw[<-hτ];rfl
    rw[e1,e2,pF δs p _ _ (cS σ) rfl,pF δs p (D listed) _ (cS σ) rfl,same _ (fun j bo _ hj hq hne=>by
     refine hpast j bo hj (Ne.symm hne) ?_;rcases Jd p hp with ⟨s,rfl,hs⟩|⟨b,off,rfl,hb1,hb2⟩
     ·rcases tMc _ j bo hj hq with ⟨d,e,hd'⟩|⟨s',e,hs'⟩|⟨_,_,e,_⟩
      ·simp[Pl.at] at e;subst e;exact .inl ⟨_,hd',.inl (og hs)⟩
      ·cases e;exact .inr (.inl ⟨s,hs',.inr hs⟩)
      ·cases e
     ·rcases tMc _ j bo hj hq with ⟨d,e,hd'⟩|⟨s',e,hs'⟩|⟨b',off',e,h1,h2⟩
      ·simp[Pl.at] at e
      ·cases e
      ·cases e;exact .inr (.inr ⟨b,h1,h2,hb1⟩))]
  · have e1:aH (σs i).pm (.b b off)=(gU δs (List.range i) (cS σ)).M (.b b off):=by rw[<-hvi];rfl
    have e2:aH τ.pm (.b b off)=(gU δs (D listed) (cS σ)).M (.b b off):=by rw[<-hτ];rfl
    rw[e1,e2,pF δs (.b b off) _ _ (cS σ) rfl,pF δs (.b b off) (D listed) _ (cS σ) rfl,same _ (fun j bo _ hj hq hne=>by
     refine hpast j bo hj (Ne.symm hne) ?_;rcases tMc _ j bo hj hq with ⟨d,e,hd'⟩|⟨s',e,hs'⟩|⟨b',off',e,h1,h2⟩
     ·simp[Pl.at] at e
     ·cases e
     ·cases e;exact .inr (.inr ⟨b,h1,h2,hb⟩))]
  ·
    cases x with
    |one b=>trivial
    |fr l=>trivial
    |cel b off v=>
     obtain ⟨c1,c2⟩:=Jg hx;have ei:l.getD i .no=ao:=by simp[BW,hi]
     have early: ∀(j:Nat) (bo:bE),l[j]?=some bo->tB b (δs j)=true->j<i->listed.getD j false=true:=by
      intro j bo hj hq hji;obtain ⟨q1,q2⟩:=tBc b j bo hj hq;refine hclos listed hcl i o ho hd j hji ?_;cases hb:(A.getD i 0).testBit j with
      |true=>rfl
      |false=>
       exfalso;have hp:=iW.1 (iW.1 hpair i (List.mem_range.2 hil)) j (List.mem_range.2 hji);have ej:l.getD j .no=bo:=by simp[BW,hj]
       simp only[ni,hb,Bool.false_or,ei,ej,aL,q2,c2] at hp;have h5:=hp.2;simp at h5;obtain ⟨x1,y1⟩: ∃x,fF (σs j) bo=some x:=by
        cases h:fF (σs j) bo with
        |none=>rw[h] at q1;cases q1
        |some x=>exact ⟨x,rfl⟩
       obtain ⟨u,hu⟩: ∃u,us[i]?=some u:=⟨us[i],by simp[show i<us.length by omega]⟩;have hju:j∈u:=by simpa[BW,hu] using h5
       have:=(t3 i ao u _ hi hu hx).2 j bo hji hj (by simpa using hju) x1 y1
       rw[y1] at q1;cases x1<;>simp only[KG,iB,Bx.tch] at this q1
     have late: ∀(m:Nat) (bo:bE),l[m]?=some bo->tB b (δs m)=true->i<m->listed.getD m false=true->fE (σs (m+1)).bx (.ptr b off)=some v:=by
      intro m bo hm hq him hlm;obtain ⟨q1,q2⟩:=tBc b m bo hm hq;have hml:m<l.length:=(tI.1 hm).1;have hms:m<ops.size:=by omega
      have hb:(A.getD m 0).testBit i=false:=by
       cases hb:(A.getD m 0).testBit i with
       |false=>rfl
       |true=>
        have:=hclos listed hcl m ops[m] (by simp[hms]) (hcl m ops[m] (by simp[hms]) hlm) i him hb
        rw[hf] at this;cases this
      have hp:=iW.1 (iW.1 hpair m (List.mem_range.2 hml)) i (List.mem_range.2 him);have ej:l.getD m .no=bo:=by simp[BW,hm]
      simp only[ni,hb,Bool.false_or,ei,ej,aL,q2,c2] at hp;have h5:=hp.2;simp at h5;obtain ⟨u,hu⟩: ∃u,us[m]?=some u:=⟨us[m],by simp[show m<us.length by omega]⟩;have hju:i∈u:=by simpa[BW,hu] using h5
      exact (t4 m bo u hm hu).2 i ao him hi (by simpa using hju) _ hx
     have e2:aE τ.bx b=(gU δs (D listed) (cS σ)).B b:=by rw[<-hτ];rfl
     rw[pE δs b (D listed) _ (cS σ) rfl] at e2;simp only[Bx.kept];by_cases hm: ∃m,m∈(D listed).filter (fun j=>tB b (δs j))/\i<m
     ·obtain ⟨m,hmL,him⟩:=hm;have hsort:((D listed).filter (fun j=>tB b (δs j))).Pairwise (· < ·):=(List.pairwise_lt_range (n:=l.length)).sublist (List.filter_sublist.trans List.filter_sublist);rcases List.eq_nil_or_concat ((D listed).filter (fun j=>tB b (δs j))) with hL|⟨L,m',hL⟩
      ·rw[hL] at hmL;cases hmL
      ·rw[hL] at hmL hsort e2;have hle:i<m':=by
        rw[List.concat_eq_append] at hmL hsort;rcases lN.1 hmL with h|h
        ·have:=(List.pairwise_append.1 hsort).2.2 m h m' (by simp)
         omega
        ·simp at h;omega
       have hm':m'∈(D listed).filter (fun j=>tB b (δs j)):=by rw[hL];simp
       obtain ⟨hm1,hm2⟩:=List.mem_filter.1 hm';obtain ⟨hm3,hm4⟩:=List.mem_filter.1 hm1;have hml:=List.mem_range.1 hm3;obtain ⟨bo,hbo⟩: ∃bo,l[m']?=some bo:=⟨l[m'],by simp[hml]⟩;have k1:=late m' bo hbo hm2 hle hm4;rw[List.concat_eq_append,kC] at e2;have e3:aE (σs (m'+1)).bx b=((δs m').app (cS (σs m'))).B b:=by rw[<-(t1 m' bo hbo).2];rfl
       simp only[tB] at hm2;obtain ⟨cs,hcs⟩:=jX.1 hm2;simp only[Dl.app,hcs] at e2 e3;rw[uD (e2.trans e3.symm)];exact k1
     ·have sm:=same (fun j=>tB b (δs j)) (fun j bo hjl hj hq hne=>by
       constructor
       ·intro hl;rcases Nat.lt_or_ge j i with h|h
        ·exact h
        ·exact absurd ⟨j,List.mem_filter.2 ⟨List.mem_filter.2 ⟨List.mem_range.2 hjl,hl⟩,hq⟩,by omega⟩ hm
       ·intro hji;exact early j bo hj hq hji)
      rw[sm] at e2;have e1:aE (σs i).bx b=(gU δs (List.range i) (cS σ)).B b:=by rw[<-hvi];rfl
      rw[pE δs b _ _ (cS σ) rfl] at e1;rw[uD (e2.trans e1.symm)];exact c1
  ·
    rw[hτ];have hfi:=hfit i ao hi;have hD': ∀(q:Nat->Bool),(q i=true-> ∀(j:Nat) (bo:bE),j<l.length->l[j]?=some bo->q j=true->j≠i->(listed.getD j false=true↔j<i))->
      (D (listed.setIfInBounds i true)).filter q=if q i=true then (D listed).filter q++[i] else (D listed).filter q:=by
     intro q hq;have gs: ∀j,(listed.setIfInBounds i true).getD j false=if j=i then true else listed.getD j false:=by
      intro j;by_cases h1:j=i
      ·subst h1;simp[kX,show j<listed.size by omega]
      ·rw[if_neg h1];simp[kX,Array.getElem?_setIfInBounds_ne (Ne.symm h1)]
     by_cases hqi:q i=true
     ·rw[if_pos hqi,same q (hq hqi)]
      have:(List.range i).filter q++[i]=(List.range (i+1)).filter q:=by rw[List.range_succ,List.filter_append];simp[hqi]
      rw[this];simp only[D,List.filter_filter];refine oh (by omega) (fun j hj=>?_);obtain ⟨bo,hbo⟩: ∃bo,l[j]?=some bo:=⟨l[j],by simp[hj]⟩;rw[gs j];cases hqj:q j with
      |false=>simp
      |true=>
       by_cases hji:j=i
       ·subst hji;simp
       ·have:=hq hqi j bo hj hbo hqj hji
        rw[if_neg hji];simp only[iX,Bool.and_true];by_cases h1:j<i
        ·rw[this.2 h1];simp;omega
        ·have h2:listed.getD j false=false:=by
          cases h3:listed.getD j false with
          |false=>rfl
          |true=>exact absurd (this.1 h3) h1
         rw[h2];simp;omega
     ·rw[if_neg hqi];simp only[D,List.filter_filter];apply List.filter_congr;intro j hj;rw[gs j];by_cases hji:j=i
      ·subst hji;simp[hqi]
      ·rw[if_neg hji]
    apply LS.ext'
    ·intro t;rw[vQ δs t (D (listed.setIfInBounds i true)) _ (cS σ) rfl,hD' _ (fun hqi j bo _ hj hq hne=>hpast j bo hj (Ne.symm hne) (.inl ⟨t,tEc t j bo hj hq,.inr (tEc t i ao hi hqi)⟩))];split
     ·rename_i hqi;rw[kC];simp only[tE] at hqi;simp only[Dl.app];split at hqi
      ·rename_i d x he;simp only[cY] at hqi;simp[hqi]
      ·cases hqi
     ·rename_i hqi;rw[<-vQ δs t (D listed) (cS σ) (cS σ) rfl];simp only[Dl.app];split
      ·rename_i d x he;rw[if_neg];intro e;exact hqi (by simp[tE,he,e])
      ·rfl
    ·intro t;rw[pE δs t (D (listed.setIfInBounds i true)) _ (cS σ) rfl,hD' _ (fun hqi j bo _ hj hq hne=>by
      obtain ⟨q1,q2⟩:=tBc t j bo hj hq;exact hpast j bo hj (Ne.symm hne) (.inr (.inr ⟨t,q1,q2,(tBc t i ao hi hqi).1⟩)))]
     split
     ·rename_i hqi;rw[kC];simp only[tB] at hqi;obtain ⟨x,hx⟩:=jX.1 hqi;simp only[Dl.app,hx]
     ·rename_i hqi;rw[<-pE δs t (D listed) (cS σ) (cS σ) rfl];simp only[Dl.app];split
      ·rename_i x he;exact absurd (by simp[tB,he]) hqi
      ·rfl
    ·intro t;rw[pF δs t (D (listed.setIfInBounds i true)) _ (cS σ) rfl,hD' _ (fun hqi j bo _ hj hq hne=>by
      refine hpast j bo hj (Ne.symm hne) ?_;rcases tMc t i ao hi hqi with ⟨d,hat,hd1⟩|⟨s,rfl,hs1⟩|⟨b,off,rfl,hb1,hb2⟩
      ·rcases tMc _ j bo hj hq with ⟨d',e,hd'⟩|⟨s',e,hs'⟩|⟨_,_,e,_⟩
       ·have:d'=d:=by cases t<;>simp[Pl.at] at e hat<;>omega
        subst this;exact .inl ⟨d',hd',.inr hd1⟩
       ·subst e;simp[Pl.at] at hat;subst hat;exact .inr (.inl ⟨_,hs',.inl hd1⟩)
       ·subst e;simp[Pl.at] at hat
      ·rcases tMc _ j bo hj hq with ⟨d',e,hd'⟩|⟨s',e,hs'⟩|⟨_,_,e,_⟩
       ·simp[Pl.at] at e;subst e;exact .inl ⟨_,hd',.inl (og hs1)⟩
       ·cases e;exact .inr (.inl ⟨s,hs',.inr hs1⟩)
       ·cases e
      ·rcases tMc _ j bo hj hq with ⟨d',e,hd'⟩|⟨s',e,hs'⟩|⟨b',off',e,h1,h2⟩
       ·simp[Pl.at] at e
       ·cases e
       ·cases e;exact .inr (.inr ⟨b,h1,h2,hb1⟩))]
     split
     ·rename_i hqi;rw[kC];simp only[tM] at hqi;obtain ⟨x,hx⟩:=jX.1 hqi;simp only[Dl.app,hx]
     ·rename_i hqi;rw[<-pF δs t (D listed) (cS σ) (cS σ) rfl];simp only[Dl.app];split
      ·rename_i x he;exact absurd (by simp[tM,he]) hqi
      ·rfl
 have congr: ∀ {S gb τ τ' a w},cS τ=cS τ'->aN F S gb τ a w->aN F S gb τ' a w:=by
  intro S gb τ τ' a w hv h;have he:lk τ'.e=lk τ.e:=by have:=congrArg LS.E hv;exact this.symm
  have hb:aE τ'.bx=aE τ.bx:=by have:=congrArg LS.B hv;exact this.symm
  have hp:aH τ'.pm=aH τ.pm:=by have:=congrArg LS.M hv;exact this.symm
  refine ⟨h.defers,h.size,h.bw,h.ext,h.le,?_,⟨h.hr.agree,?_,?_,?_,?_,?_,?_,?_⟩,?_,?_,?_,h.up,h.glo⟩
  · intro t;rw[he];exact h.env t
  · intro d cs;rw[hb];exact h.hr.box d cs
  · intro d cs;rw[hb];exact h.hr.its d cs
  · intro d d';rw[hb];exact h.hr.inj d d'
  · intro p k;rw[hp];exact h.hr.own p k
  · intro p q k l' b;rw[hp];exact h.hr.ownd p q k l' b
  · intro p k b d;rw[hp,hb];exact h.hr.ownb p k b d
  · intro d off k;rw[hp,hb];exact h.hr.pmb d off k
  · intro d g z;rw[hb];exact h.newb d g z
  · intro p k g;rw[hp];exact h.newo p k g
  · intro d;rw[hb];exact h.dom d
 have main: ∀fuel listed a w,listed.size=ops.size->fuel+(D listed).length=l.length->(∀j,l.length<=j->listed.getD j false=false)->cl listed->(∃S gb τ,aN F S gb τ a w/\cS τ=gU δs (D listed) (cS σ))->wpAny P .any ops Q (fuel+(ops.size - l.length)) listed a w:=by
  have allDone: ∀listed a w,listed.size=ops.size->(∀j,j<l.length->listed.getD j false=true)->(∀j,l.length<=j->listed.getD j false=false)->(∃S gb τ,aN F S gb τ a w/\cS τ=gU δs (D listed) (cS σ))->wpAny P .any ops Q (ops.size - l.length) listed a w:=by
    rintro listed a w hls hall hopen ⟨S,gb,τ,h,hτ⟩;refine hfin listed a w hls hall hopen S gb (σs l.length) j' h' (congr ?_ h) t2;rw[hτ,hview _ (gp _)];congr 1
    simp only[D];exact List.filter_eq_self.2 (fun j hj=>hall j (List.mem_range.1 hj))
  have notReady: ∀listed,listed.size=ops.size->Region.ready .any ops listed=[]-> ∀j,j<ops.size->listed.getD j false=true:=by
    intro listed hls hr j;induction j using Nat.strongRecOn with
    |_ j ih=>
     intro hj;cases hl:listed.getD j false with
     |true=>rfl
     |false=>
      exfalso;have hjs:j<ops.size:=hj;have hmem:j∈Region.ready .any ops listed:=by
       simp only[Region.ready,List.mem_filter,List.mem_range,aL,uh];refine ⟨hjs,?_,?_⟩
       ·have:listed.getD j true=listed.getD j false:=by simp[kX,show j<listed.size by omega]
        rw[this,hl]
       ·have ho:ops[j]?=some ops[j]:=by simp[hjs]
        simp only[ho,Option.map_some,Option.getD_some];rw[Array.all_eq_true_iff_forall_mem];intro e he;simp only[Fa,uh];cases hbi:Region.binds .any e with
        |false=>left;rfl
        |true=>
         right;have hm:e.on∈iT ops[j]:=by
          simp only[iT,nM,List.mem_filter];exact ⟨e,⟨by simpa using he,hbi⟩,rfl⟩
         have:=(hdir j _ ho).1 e.on hm
         exact ih e.on this (by omega)
      rw[hr] at hmem;simp at hmem
  intro fuel;induction fuel with
  |zero=>
    intro listed a w hls hcnt hopen hcl hrel';have hall: ∀j,j<l.length->listed.getD j false=true:=by
     intro j hj;have hlen:(D listed).length=(List.range l.length).length:=by simpa using hcnt
     have:=List.length_filter_eq_length_iff.1 hlen j (List.mem_range.2 hj)
     exact this
    rw[mm];exact allDone listed a w hls hall hopen hrel'
  |succ fuel ih=>
    intro listed a w hls hcnt hopen hcl hrel';have hex: ∃j,j<l.length/\listed.getD j false=false:=by
     refine Classical.byContradiction fun hno=>?_
     have hall: ∀j,j<l.length->listed.getD j false=true:=by
      intro j hj;cases hl:listed.getD j false with
      |true=>rfl
      |false=>exact absurd ⟨j,hj,hl⟩ hno
     have:(D listed).length=(List.range l.length).length:=List.length_filter_eq_length_iff.2 fun j hj=>hall j (List.mem_range.1 hj)
     simp only[List.length_range] at this;omega
    rw[show fuel+1+(ops.size - l.length)=(fuel+(ops.size - l.length))+1 by omega];refine ⟨fun hr=>?_,fun i hi=>?_⟩
    ·obtain ⟨j,hj,hjf⟩:=hex;rw[notReady listed hls hr j (by omega)] at hjf;cases hjf
    simp only[Region.ready,List.mem_filter,List.mem_range,aL,uh] at hi;obtain ⟨his,hif,hib⟩:=hi;have hf:listed.getD i false=false:=by
     have:listed.getD i true=listed.getD i false:=by simp[kX,show i<listed.size by omega]
     rw[<-this];exact hif
    have ho:ops[i]?=some ops[i]:=by simp[his]
    have hd: ∀m∈iT ops[i],listed.getD m false=true:=by
     intro m hm;simp only[ho,Option.map_some,Option.getD_some] at hib;rw[Array.all_eq_true_iff_forall_mem] at hib;simp only[iT,nM,List.mem_filter] at hm;obtain ⟨e,⟨he,hbi⟩,rfl⟩:=hm
     have:=hib e (by simpa using he)
     simpa[hbi] using this
    have hil:i<l.length:=by
     rcases Nat.lt_or_ge i l.length with h|h
     ·exact h
     ·exfalso;obtain ⟨j,hj,hjf⟩:=hex;rw[hclos listed hcl i _ ho hd j (by omega) (htail i h his j hj)] at hjf;cases hjf
    obtain ⟨ao,hi2,hmt⟩:=hop i _ ho hil;obtain ⟨S,gb,τ,h,hτ⟩:=hrel';obtain ⟨hagr,hnext⟩:=hstep listed i ao ops[i] τ hls hcl ho hi2 hf hd hτ;have hwp:=Cc hagr (t1 i ao hi2).1;have hfit':=vP (iW.1 hokG ao (List.mem_of_getElem? hi2)) hwp;have hw1:cg (bM P F.GL) ao (fun τ'=>cS τ'=(δs i).app (cS τ)) τ:=I9 (DJ (K':=fun δ=>cS (δ.ap τ)=(δs i).app (cS τ)) (Cb hfit'.f) hwp);have hcl':cl (listed.setIfInBounds i true):=by
     intro j oj hoj hlj m hm;have keep: ∀m,listed.getD m false=true->(listed.setIfInBounds i true).getD m false=true:=by
      intro m hm;by_cases h1:m=i
      ·subst h1;simp[kX,hls,his]
      ·simp only[kX,Array.getElem?_setIfInBounds_ne (Ne.symm h1)] at hm ⊢;exact hm
     by_cases hji:j=i
     ·subst hji;rw[ho] at hoj;cases hoj;exact keep m (hd m hm)
     ·have:listed.getD j false=true:=by
       simp only[kX,Array.getElem?_setIfInBounds_ne (Ne.symm hji)] at hlj ⊢;exact hlj
      exact keep m (hcl j oj hoj this m hm)
    have hcnt':fuel+(D (listed.setIfInBounds i true)).length=l.length:=by
     have:=uE (show l.length<=listed.size by omega) hil hf
     simp only[D] at hcnt ⊢;omega
    have:=jf h hmt hw1 (K':=wpAny P .any ops Q (fuel+(ops.size - l.length)) (listed.setIfInBounds i true)) (Q:=Q) (fun S' gb' τ' a' w' h' hv'=>
     ih _ a' w' (by simpa using hls) hcnt' (fun j hj=>by have:=hopen j hj;simp only[kX,Array.getElem?_setIfInBounds_ne (show i≠j by omega)] at this ⊢;exact this) hcl' ⟨S',gb',τ',h',by rw[hv'];exact hnext⟩)
    unfold wpOp;rw[ho];simp only[];split
    ·rename_i hc;rw[if_pos hc] at this;exact .inl this
    ·rename_i hc;rw[if_neg hc] at this;exact this
 have rep: ∀j,(Array.replicate ops.size false).getD j false=false:=by
  intro j;simp only[kX,Array.getElem?_replicate];split<;>rfl
 have none:D (Array.replicate ops.size false)=[]:=by
  simp only[D,List.filter_eq_nil_iff,List.mem_range];intro j hj;rw[rep j];simp
 have:=main l.length (Array.replicate ops.size false) a {w with drawn:=w.drawn+1} (by simp) (by rw[none];simp) (fun j _=>rep j) (fun j o ho hl=>by rw[rep j] at hl;cases hl) ⟨S,gb,σ,hrel.drew,by rw[none];rfl⟩
 rw[show l.length+(ops.size - l.length)=ops.size by omega] at this;exact this

theorem AM {P:Program} {GL:List (Nat×List Value)} {N:Nat}:
 ∀(F:Fr),F.GL=GL->F.N=N-> ∀(ops:Array Oper) (us:List (List Nat)) (l:List bE),lZ P F.GL F.N ops ops.toList l=true->Je ops us l=true-> ∀(K:St->Prop) (Q:Exit->Act->World->Prop),(∀S gb σ a w,aN F S gb σ a w->K σ->Q .normal a w)->
  ∀ {S:aS} {gb:Gb} {σ:St} {a:Act} {w:World},aN F S gb σ a w->j5 (bM P F.GL) us l 0 [] K σ->wpAny P .any ops Q ops.size (Array.replicate ops.size false) a {w with drawn:=w.drawn+1}:=by
 intro F hGL hN ops us l hmts hdr K Q hQ S gb σ a w hrel hw;simp only[Je,aL,cY] at hdr;obtain ⟨⟨⟨⟨⟨hanc,hsz⟩,hus⟩,hokG⟩,hpair⟩,htl⟩:=hdr;have hop: ∀(i:Nat) (o:Oper),ops[i]?=some o-> ∃ao,l[i]?=some ao/\mt P F.GL F.N ops o ao=true:=by
  have: ∀(ol:List Oper) (al:List bE),lZ P F.GL F.N ops ol al=true-> ∀(i:Nat) (o:Oper),ol[i]?=some o-> ∃ao,al[i]?=some ao/\mt P F.GL F.N ops o ao=true:=by
   intro ol;induction ol with
   |nil=>intro al _ i o h;simp at h
   |cons x r ih=>
    intro al hm i o h;cases al with
    |nil=>simp[lZ] at hm
    |cons y s=>
     simp only[lZ,aL] at hm;cases i with
     |zero=>simp at h;subst h;exact ⟨y,by simp,hm.1⟩
     |succ i=>simp at h ⊢;exact ih s hm.2 i o h
  intro i o h;exact this _ _ hmts i o (by simpa using h)
 generalize hA:DK ops.toList []=A at hanc hpair htl;have hm:dx l<=l.length:=by unfold dx;split<;>omega
 have hlt:(l.take (dx l)).length=dx l:=by simp;omega
 have hut:(us.take (dx l)).length=dx l:=by simp;omega
 have hgl: ∀j,j<dx l->(l.take (dx l)).getD j .no=l.getD j .no:=by
  intro j hj;simp only[BW,re,if_pos hj]
 have hgu: ∀j,j<dx l->(us.take (dx l)).getD j []=us.getD j []:=by
  intro j hj;simp only[BW,re,if_pos hj]
 refine DL (us:=us.take (dx l)) (l:=l.take (dx l)) (ut:=us.drop (dx l)) (lt:=l.drop (dx l)) (A:=A) (K:=K) (by rw[hlt];omega) hanc (by rw[hlt,hut]) hokG ?_ ?_ ?_ ?_ hrel (by
  rw[IQ,IQ];exact hw)
 ·rw[hlt];refine iW.2 fun j hj=>iW.2 fun i hi=>?_
  have hj':=List.mem_range.1 hj;have hi':=List.mem_range.1 hi
  have:=iW.1 (iW.1 hpair j hj) i hi
  unfold ni at this ⊢;rw[hgl i (by omega),hgl j hj',hgu j hj'];exact this
 ·intro i o ho hi;rw[hlt] at hi;obtain ⟨ao,h1,h2⟩:=hop i o ho;exact ⟨ao,by rw[re,if_pos hi];exact h1,h2⟩
 ·intro i hi his k hk;rw[hlt] at hi hk;have hi2:i=dx l:=by
   have:dx l=l.length\/dx l=l.length - 1:=by unfold dx;split<;>simp
   omega
  subst hi2;simp only[Fa,cY,iW,List.mem_range] at htl;rcases htl with h|h
  ·omega
  ·exact h k hk
 ·intro listed a w hls hall hopen S gb τ j' h' hr hwl;rw[hlt] at hall hopen ⊢;have hcase:dx l=l.length\/(dx l+1=l.length):=by
   have:dx l=l.length\/dx l=l.length - 1:=by unfold dx;split<;>simp
   rcases this with h|h
   ·exact .inl h
   ·rcases Nat.eq_zero_or_pos l.length with h0|h0
    ·left;omega
    ·right;omega
  rcases hcase with hc|hc
  ·have e1:l.drop (dx l)=[]:=by rw[hc];simp
   have e2:us.drop (dx l)=[]:=by rw[hc,<-hus];simp
   rw[e1,e2] at hwl;rw[show ops.size - dx l=0 by omega];refine ⟨?_,hQ S gb τ a w hr hwl⟩;simp only[Region.ready,List.filter_eq_nil_iff,List.mem_range,aL,uh,not_and];intro j hj hf
   have:listed.getD j true=listed.getD j false:=by simp[kX,show j<listed.size by omega]
   rw[this,hall j (by omega)] at hf;cases hf
  ·obtain ⟨o,ho⟩: ∃o,l[dx l]?=some o:=⟨l[dx l],by simp⟩;obtain ⟨u,hu⟩: ∃u,us[dx l]?=some u:=⟨us[dx l],by simp⟩;have e1:l.drop (dx l)=[o]:=by
    rw[rb (by omega),IP (by omega)]
    have:=(tI.1 ho).2
    rw[this]
   have e2:us.drop (dx l)=[u]:=by
    rw[rb (by omega),IP (by omega)]
    have:=(tI.1 hu).2
    rw[this]
   rw[e1,e2] at hwl;obtain ⟨-,hw1⟩:=hwl;have hpl:dx l<ops.size:=by omega
   have hops:ops[dx l]?=some ops[dx l]:=by simp[hpl]
   obtain ⟨ao,h1,hmt⟩:=hop _ _ hops;rw[ho] at h1;cases h1;rw[show ops.size - dx l=0+1 by omega];have hready: ∀lst:Array Bool,lst.size=ops.size->(∀j,j<l.length->lst.getD j false=true)->Region.ready .any ops lst=[]:=by
    intro lst hl hal;simp only[Region.ready,List.filter_eq_nil_iff,List.mem_range,aL,uh,not_and];intro j hj hf
    have:lst.getD j true=lst.getD j false:=by simp[kX,show j<lst.size by omega]
    rw[this,hal j (by omega)] at hf;cases hf
   have hdirs: ∀m∈iT ops[dx l],m<dx l:=by
    intro m hm'
    have:=iW.1 hanc (dx l) (List.mem_range.2 (by simpa using hpl))
    simp only[Array.getElem?_toList,hops,aL,iW] at this;simpa using this.1 m hm'
   have hrd:dx l∈Region.ready .any ops listed:=by
    simp only[Region.ready,List.mem_filter,List.mem_range,aL,uh];refine ⟨hpl,?_,?_⟩
    ·have:listed.getD (dx l) true=listed.getD (dx l) false:=by simp[kX,show dx l<listed.size by omega]
     rw[this,hopen _ (gp _)]
    ·simp only[hops,Option.map_some,Option.getD_some];rw[Array.all_eq_true_iff_forall_mem];intro e he;simp only[Fa,uh];cases hbi:Region.binds .any e with
     |false=>left;rfl
     |true=>
      right;refine hall _ (hdirs e.on ?_);simp only[iT,nM,List.mem_filter];exact ⟨e,⟨by simpa using he,hbi⟩,rfl⟩
   refine ⟨fun hr0=>(by rw[hr0] at hrd;cases hrd),fun i hi=>?_⟩;simp only[Region.ready,List.mem_filter,List.mem_range,aL,uh] at hi;have hi2:i=dx l:=by
    rcases Nat.lt_or_ge i (dx l) with h|h
    ·have hh:=hi.2.1
     have:listed.getD i true=listed.getD i false:=by simp[kX,show i<listed.size by omega]
     rw[this,hall i h] at hh;cases hh
    ·omega
   subst hi2;have hlast:=jf hr hmt hw1 (K':=wpAny P .any ops Q 0 (listed.setIfInBounds (dx l) true)) (Q:=Q) (fun S' gb' τ' a' w' hr' hk'=>by
    refine ⟨hready _ (by simpa using hls) fun j hj=>?_,hQ S' gb' τ' a' w' hr' (eK.1 hk').2⟩;by_cases hjp:j=dx l
    ·subst hjp;simp[kX,hls,hpl]
    ·simp only[kX,Array.getElem?_setIfInBounds_ne (Ne.symm hjp)]
     have:=hall j (by omega)
     simpa only[kX] using this)
   unfold wpOp;rw[hops];simp only[];split
   ·rename_i hc;rw[if_pos hc] at hlast;exact .inl hlast
   ·rename_i hc;rw[if_neg hc] at hlast;exact hlast
end Go.Ai
namespace Go.Ai
open Go.RowKit
variable {P:Program} {F:Fr} {S:aS} {gb:Gb} {σ:St} {a:Act} {w:World} {ops:Array Oper}
inductive AN (P:Program) (w:World) (e:TypeId) (z:Value) (sz:Nat) (us:List Value) (m:Nat):Value->Value->World->Prop
 |grow {base:Option Addr} {n cap:Nat} {olds:List Value}:cap<n+m->olds.length=n*sz->(Builtin.firstCells sz n (.slice base n cap)).run P w.drew= .ok olds.toArray w.drew->
  AN P w e z sz us m (.slice base n cap) (.slice (some ⟨w.heap.size,0,none⟩) (n+m) (grownCap w (n+m) cap e)) (w.drew.alloc (.cells ((olds++us).toArray++Builtin.zeroCells z.cells (grownCap w (n+m) cap e - (n+m))) e))
 |room {g n cap:Nat} {cur:Array Value} {T:TypeId}:n+m<=cap->w.heap[g]?=some (.cells cur T (0,0))->n*sz+us.length<=cur.size->
  AN P w e z sz us m (.slice (some ⟨g,0,none⟩) n cap) (.slice (some ⟨g,0,none⟩) (n+m) cap) (w.setRow g (cur.toList.take (n*sz)++us++cur.toList.drop (n*sz+us.length)).toArray)
theorem AN.run {e:TypeId} {i:TypeInfo} {z:Value} {us:List Value} {m:Nat} {sv u yv:Value} {w':World} (h:AN P w e z i.size us m sv u w') {t ty:TypeId} (ht:P.underlying t=some (.slice e)) (hi:P.info? e=some i) (hz:i.zero=some z)
  (h3: ∀v∈us,v.oneCell'=true) (hy:(Builtin.lenOf yv).run P w= .ok m w) (hf:(Builtin.firstCells i.size m yv).run P w= .ok us.toArray w) (hf':(Builtin.firstCells i.size m yv).run P w.drew= .ok us.toArray w.drew)
  (hlim: ∀b n c,sv= .slice b n c->(n+m)*i.bytes<=iQ/\n+m<=9223372036854775807):(Builtin.append_ #[t,t] ty #[sv,yv]).run P w= .ok u w':=by
 cases h with
 | @grow base n cap olds hcap hl hfo=>
  obtain ⟨l1,l2⟩:=hlim _ _ _ rfl;have hfit:=growslice_fits (need:=n+m) (old:=cap) (bytes:=i.bytes) hcap (by unfold iQ at l1;exact l1);exact i7 (P:=P) (w:=w) (ty:=ty) ht (.inl ht) hi hz hy hf' hfo hcap hfit l2
 | @room g n cap cur T hr hg hs=>
  have hst:=run_storeCells_at P g (n*i.size) T us 0 cur w hg (by simpa using hs) h3;simp only[Ab] at hst;exact i5 (P:=P) (w:=w) (ty:=ty) ht (.inl ht) hi (base:=some ⟨g,0,none⟩) (n:=n) (cap:=cap) (us:=us) hy hf hr (fun b hb=>by
   cases hb;rw[Addr.add_lit,mm];exact hst) (fun hb=>by cases hb)
theorem vS (w:World) (A B:Array Value) (e:TypeId):(w.alloc (.cells A e)).setRow w.heap.size B=w.alloc (.cells B e):=by
 unfold World.setRow World.alloc;simp only;congr 1
 apply Array.ext_getElem?;intro k;simp only[Array.getElem?_modify,Array.getElem?_push];by_cases hk:k=w.heap.size
 ·subst hk;simp
 ·simp[hk,Ne.symm hk]
theorem Cg {α:Type} (A B C D:List α) (n:Nat) (hn:A.length=n) (h:B.length=C.length):(A++B++D).take n++C++(A++B++D).drop (n+C.length)=A++C++D:=by
 subst hn;have h1:(A++B++D).take A.length=A:=by rw[BU,List.take_left]
 have h2:(A++B++D).drop (A.length+C.length)=D:=by
  rw[<-h,show A.length+B.length=(A++B).length by simp,List.drop_left]
 rw[h1,h2]
theorem AN.split {e:TypeId} {z:Value} {sz:Nat} {us zs:List Value} {m:Nat} {sv u:Value} {w2:World} (h:AN P w e z sz us m sv u w2) (hl:zs.length=us.length):
  ∃g n cap c1 T w1,(∃b c,sv= .slice b n c)/\u= .slice (some ⟨g,0,none⟩) (n+m) cap/\AN P w e z sz zs m sv u w1/\w1.heap[g]?=some (.cells c1 T (0,0))/\n*sz+us.length<=c1.size/\
   w2=w1.setRow g (c1.toList.take (n*sz)++us++c1.toList.drop (n*sz+us.length)).toArray/\w1.heap.size=w2.heap.size:=by
 cases h with
 | @grow base n cap olds hcap ho hfo=>
  refine ⟨w.heap.size,n,_,(olds++zs).toArray++Builtin.zeroCells z.cells (grownCap w (n+m) cap e - (n+m)),e,_,⟨_,_,rfl⟩,rfl,.grow (us:=zs) hcap ho hfo,?_,by simp[ho,hl],?_,(by show (w.drew.heap.push _).size=(w.drew.heap.push _).size;rw[Array.size_push,Array.size_push])⟩
  ·show (w.drew.heap.push _)[w.drew.heap.size]?=_;rw[Array.getElem?_push_size]
  have:=vS w.drew ((olds++zs).toArray++Builtin.zeroCells z.cells (grownCap w (n+m) cap e - (n+m))) (((olds++zs).toArray++Builtin.zeroCells z.cells (grownCap w (n+m) cap e - (n+m))).toList.take (n*sz)++us++((olds++zs).toArray++Builtin.zeroCells z.cells (grownCap w (n+m) cap e - (n+m))).toList.drop (n*sz+us.length)).toArray e
  rw[show w.drew.heap.size=w.heap.size from rfl] at this;rw[this];congr 2
  apply Array.ext';simp only[Array.toList_append,List.toList_toArray];exact (Cg olds zs us _ (n*sz) ho hl).symm
 | @room g n cap cur T hr hg hs=>
  refine ⟨g,n,cap,_,T,_,⟨_,_,rfl⟩,rfl,.room (us:=zs) hr hg (by omega),setRow_heap w g cur _ T _ hg,by simp;omega,?_,by simp⟩;rw[setRow_setRow];congr 1
  apply Array.ext';simp only[List.toList_toArray];have h1:(cur.toList.take (n*sz)).length=n*sz:=by simp;omega
  rw[<-hl]
  have:=(Cg (cur.toList.take (n*sz)) zs us (cur.toList.drop (n*sz+zs.length)) (n*sz) h1 hl).symm
  rw[<-hl] at this;exact this

inductive Ol (P:Program) (ops:Array Oper):List Nat->Act->Act->Prop
 |nil {a:Act}:Ol P ops [] a a
 |cons {i:Nat} {is:List Nat} {o:Oper} {v:Value} {a a':Act}:ops[i]?=some o->Yields P ops o v a->Ol P ops is (a.put o.dst v) a'->Ol P ops (i::is) a a'
def yG (ops:Array Oper) (B:Array Bool->Bool):List Nat->Array Bool->Bool
 |[],l=>B l
 |i::r,l=>Region.free .any ops l i&&(Region.ready .any ops l).contains i&&yG ops B r (l.setIfInBounds i true)
theorem Nd {Q:Exit->Act->World->Prop} (hs:Region.noSelect ops=true) (hQ: ∀c a w,¬Q (.panic c) a w) {B:Array Bool->Bool} {fuel:Nat} {w:World}: ∀ {is:List Nat} {listed:Array Bool} {a a':Act},yG ops B is listed=true->Ol P ops is a a'->
  (∀l',B l'=true->wpAny P .any ops Q fuel l' a' w)->wpAny P .any ops Q (fuel+is.length) listed a w
 |[],listed,a,a',hb,hc,h=>by
  cases hc;exact h _ hb
 |i::is,listed,a,a',hb,hc,h=>by
  simp only[yG,aL] at hb;cases hc with
  |cons ho hy hc=>
   exact wpAny_take ho hs hb.1.1 hb.1.2 (fun c a w q=>absurd q (hQ _ _ _)) hy (Nd hs hQ hb.2 hc h)
def Qo (ops:Array Oper) (i j:Nat) (l:Array Bool):Bool:=
 Region.ready .any ops l==[i,j]&&Region.ready .any ops (l.setIfInBounds i true)==[j]&&Region.ready .any ops (l.setIfInBounds j true)==[i]&&Region.ready .any ops ((l.setIfInBounds i true).setIfInBounds j true)==[]&&Region.ready .any ops ((l.setIfInBounds j true).setIfInBounds i true)==[]
def Nf (ops:Array Oper) (j:Nat) (l:Array Bool):Bool:=Region.ready .any ops l==[j]&&Region.ready .any ops (l.setIfInBounds j true)==[]
def vT (m n:Nat):Array Bool:=(List.replicate m true++List.replicate (n - m) false).toArray
def Qp (ops:Array Oper) (m q:Nat):Bool:=
 Region.noSelect ops&&ops.size==m+(4+q)&&Region.ready .any ops (vT m ops.size)==[m]&&yG ops (Qo ops (m+2) (m+3+q)) ((m+1)::List.range' (m+3) q) ((vT m ops.size).setIfInBounds m true)
def Qq (ops:Array Oper) (m q:Nat):Bool:=
 Region.noSelect ops&&ops.size==m+(2+q)&&Region.ready .any ops (vT m ops.size)==[m]&&yG ops (Nf ops (m+1+q)) (List.range' (m+1) q) ((vT m ops.size).setIfInBounds m true)
structure Vg (P:Program) (F:Fr) (ops:Array Oper) (A E T H:Oper) (Ads:List Oper) (p:PA):Prop where
 m:Vf P F.GL F.N A E T p=true
 ads:lZ P F.GL F.N ops Ads p.ad=true
 h:H.guard=none/\dU P F.GL F.N H (.so p.ta p.d)=true
def Tp (ops:Array Oper) (us:List (List Nat)) (l:List bE) (two:Bool):Bool:=
 let A:=DK ops.toList []
 Ce ops.toList A&&us.length==l.length&&l.all IA&&((List.range l.length).all fun j=>(List.range j).all fun i=>ni us l A i j)&&((List.range ops.size).all fun i=>Nat.blt i l.length||(List.range l.length).all fun k=>(A.getD i 0).testBit k)&&
  (if two then Qq ops l.length (ops.size - l.length - 2) else Qp ops l.length (ops.size - l.length - 4))
def eG (ops:Array Oper) (us:List (List Nat)) (l:List bE):Bool:=match l.reverse with
 | .gd _ _ _ (.gd _ _ _ _):: .gd _ _ _ (.gd _ _ _ _)::r=>Tp ops us r.reverse true
 | .gd _ _ _ (.gd _ _ _ _)::r=>Tp ops us r.reverse false
 |_=>Je ops us l
theorem Lo: ∀ {ol:List Oper} {al:List bE},lZ P F.GL F.N ops ol al=true-> ∀(i:Nat) (o:Oper),ol[i]?=some o-> ∃ao,al[i]?=some ao/\mt P F.GL F.N ops o ao=true:=by
 intro ol;induction ol with
 |nil=>intro al _ i o h;simp at h
 |cons x r ih=>
  intro al hm i o h;cases al with
  |nil=>simp[lZ] at hm
  |cons y s=>
   simp only[lZ,aL] at hm;cases i with
   |zero=>simp at h;subst h;exact ⟨y,by simp,hm.1⟩
   |succ i=>simp at h ⊢;exact ih hm.2 i o h
theorem Jh: ∀ {ol:List Oper} {al:List bE},lZ P F.GL F.N ops ol al=true->ol.length=al.length:=by
 intro ol;induction ol with
 |nil=>intro al h;cases al with
  |nil=>rfl
  |cons=>simp[lZ] at h
 |cons x r ih=>intro al h;cases al with
  |nil=>simp[lZ] at h
  |cons y s=>simp only[lZ,aL] at h;simp[ih h.2]
structure jt (P:Program) (GL:List (Nat×List Value)) (N:Nat) (dr:Array Oper->List (List Nat)->List bE->Bool):Prop where
 rd: ∀(F:Fr),F.GL=GL->F.N=N-> ∀(ops:Array Oper) (us:List (List Nat)) (l:List bE),lZ P F.GL F.N ops ops.toList l=true->dr ops us l=true-> ∀(K:St->Prop) (Q:Exit->Act->World->Prop),(∀S gb σ a w,aN F S gb σ a w->K σ->Q .normal a w)->
  ∀ {S:aS} {gb:Gb} {σ:St} {a:Act} {w:World},aN F S gb σ a w->j5 (bM P F.GL) us l 0 [] K σ->wpAny P .any ops Q ops.size (Array.replicate ops.size false) a {w with drawn:=w.drawn+1}
theorem uF {GL:List (Nat×List Value)} {N:Nat}:jt P GL N eG where
 rd:=by
  intro F hGL hN ops us l hmts hdr K Q hQ S gb σ a w hrel hw;have no: ∀ {r:List bE} {x1 x2 x3 y1 y2 y3 z},l.reverse= .gd x1 x2 x3 (.gd y1 y2 y3 z)::r->False:=by
   intro r x1 x2 x3 y1 y2 y3 z e;have e2:l=r.reverse++[.gd x1 x2 x3 (.gd y1 y2 y3 z)]:=by rw[<-List.reverse_reverse l,e];simp
   have hl:=Jh hmts;have hlen:l.length=r.length+1:=by rw[e2];simp
   obtain ⟨o,ho⟩: ∃o,ops.toList[r.length]?=some o:=⟨ops.toList[r.length]'(by omega),by rw[vy]⟩;obtain ⟨ao,h1,h2⟩:=Lo hmts _ _ ho;rw[e2,List.getElem?_append_right (by simp)] at h1;simp at h1;subst h1;simp[mt,dU] at h2
  have:Je ops us l=true:=by
   unfold eG at hdr;split at hdr
   ·rename_i e;exact (no e).elim
   ·rename_i e;exact (no e).elim
   ·exact hdr
  exact AM F hGL hN ops us l hmts this K Q hQ hrel hw
theorem Fx {GL:List (Nat×List Value)} {N:Nat} (hmix:P.follows .mixedOrders=true):cJ P GL N eG where
 mix:=hmix
 rd:=fun F hGL hN id ops us l hmts hdr K Q hQ {S gb σ a w} hrel hw=>wp_region_any hmix (uF.rd F hGL hN ops us l hmts hdr K Q hQ hrel hw)
end Go.Ai
