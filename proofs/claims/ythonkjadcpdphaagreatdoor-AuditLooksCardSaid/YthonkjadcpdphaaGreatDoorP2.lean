/- P2: a part of the proof: the rules, or what functions compute. Conditions: as each theorem says. -/
import Derived.Test.YthonkjadcpdphaaGreatDoorP1
set_option linter.unusedSimpArgs false
set_option linter.unusedVariables false
set_option maxRecDepth 20000
namespace Go.Ai
open Go.Proofs
structure Lb where
 n:List UInt8
 t:List UInt8
 deriving DecidableEq
structure Ru where
 n:List UInt8
 p:Bool
 l:Int
 s:Int
 f:Nat
 w:Int
 k:Int
 deriving DecidableEq
structure Gl where
 n:List UInt8
 t:Nat
 g:Int
 a:Int
 o:Int
 c:Int
 lb:List Lb
 ru:List Ru
 deriving DecidableEq
structure Cf where
 gs:List Gl
 r:Int
 v:Int
 i:Int
 x:Int
 y:Int
def Lb.row (x:Lb):List AV:=[.str x.n,.str x.t]
def Ru.row (x:Ru):List AV:=[.str x.n,.bool x.p,i6 x.l,i6 x.s,u x.f,i6 x.w,i6 x.k]
def Gl.row (x:Gl):List AV:=[.str x.n,.int .u32 x.t,i6 x.g,i6 x.a,i6 x.o,i6 x.c,.sl (x.lb.map Lb.row),.sl (x.ru.map Ru.row)]
def Cf.row (x:Cf):List AV:=[.sl (x.gs.map Gl.row),i6 x.r,i6 x.v,i6 x.i,i6 x.x,i6 x.y]
def distR {α:Type} [DecidableEq α]:List α→Nat
 |[]=>0
 |x::r=>distR r+if x∈r then 0 else 1
theorem distR_le {α:Type} [DecidableEq α]: ∀l:List α,distR l≤l.length
 |[]=>Nat.le_refl _
 |x::r=>by have:=distR_le r;simp only [distR,List.length_cons];split<;>omega
theorem distR_iff {α:Type} [DecidableEq α]: ∀l:List α,distR l=l.length↔l.Nodup
 |[]=>by simp [distR]
 |x::r=>by
  have h1:=distR_le r
  have h2:=distR_iff r
  simp only [distR,List.length_cons,List.nodup_cons]
  by_cases h:x∈r
  ·rw [if_pos h]
   constructor
   ·intro e;omega
   ·intro e;exact absurd h e.1
  ·rw [if_neg h,←h2]
   constructor
   ·intro e;exact ⟨h,by omega⟩
   ·intro e;omega
def uniq (l:List (List UInt8)):Bool:=decide l.Nodup
theorem uniq_dist (l:List (List UInt8)):(((distR l.reverse:Nat):Int)==((l.length:Nat):Int))=uniq l:=by
 unfold uniq
 rw [Bool.eq_iff_iff]
 simp only [beq_iff_eq,decide_eq_true_eq]
 rw [show ((distR l.reverse:Nat):Int)=((l.length:Nat):Int)↔distR l.reverse=l.reverse.length by rw [List.length_reverse];omega,distR_iff]
 unfold List.Nodup
 rw [List.pairwise_reverse]
 constructor
 ·intro h;exact h.imp (fun h=>Ne.symm h)
 ·intro h;exact h.imp (fun h=>Ne.symm h)
def cntV (l:List (List UInt8×Nat)):List (MK×MK):=l.map fun p=>(.s p.1,.i .i64 p.2)
def bump (l:List (List UInt8×Nat)) (n:List UInt8):List (List UInt8×Nat):=match l with
 |[]=>[(n,1)]
 |(m,c)::r=>if n=m then (m,c+1)::r else (m,c)::bump r n
theorem bump_len (n:List UInt8): ∀l,(bump l n).length=l.length+if n∈l.map Prod.fst then 0 else 1
 |[]=>by simp [bump]
 |(m,c)::r=>by
  simp only [bump]
  split
  ·rename_i h;subst h;simp
  ·rename_i h
   simp only [List.length_cons,List.map_cons,List.mem_cons,bump_len n r]
   by_cases h2:n∈r.map Prod.fst
   ·rw [if_pos h2,if_pos (.inr h2)]
   ·rw [if_neg h2,if_neg (fun e=>e.elim h h2)]
theorem bump_mem (n x:List UInt8): ∀l,x∈(bump l n).map Prod.fst↔x=n∨x∈l.map Prod.fst
 |[]=>by simp [bump]
 |(m,c)::r=>by
  simp only [bump]
  split
  ·rename_i h;subst h;simp
  ·rename_i h
   simp only [List.map_cons,List.mem_cons,bump_mem n x r]
   constructor
   ·rintro (h|h|h)
    ·exact .inr (.inl h)
    ·exact .inl h
    ·exact .inr (.inr h)
   ·rintro (h|h|h)
    ·exact .inr (.inl h)
    ·exact .inl h
    ·exact .inr (.inr h)
theorem bump_le (n:List UInt8) (N:Nat): ∀l,(∀p∈l,p.2≤N)→ ∀p∈bump l n,p.2≤N+1
 |[],_,p,hp=>by simp only [bump,List.mem_singleton] at hp;subst hp;simp
 |(m,c)::r,h,p,hp=>by
  simp only [bump] at hp
  have h1:=h (m,c) (by simp)
  simp only at h1
  split at hp
  ·rcases List.mem_cons.1 hp with rfl|hp
   ·simp only;omega
   ·have:=h p (by simp [hp]);omega
  ·rcases List.mem_cons.1 hp with rfl|hp
   ·simp only;omega
   ·exact bump_le n N r (fun q hq=>h q (by simp [hq])) p hp
theorem cnt_find (n:List UInt8): ∀(l:List (List UInt8×Nat)) (i:Nat),
  (mfind (.s n) (cntV l) i=some none∧cntV (bump l n)=cntV l++[(.s n,.i .i64 1)])∨ ∃j c,(n,c)∈l∧mfind (.s n) (cntV l) i=some (some (i+j,.i .i64 (c:Nat)))∧mset (cntV l) j (.i .i64 ((c+1:Nat):Int))=cntV (bump l n)
 |[],i=> .inl ⟨rfl,rfl⟩
 |(m,c)::r,i=>by
  have e:cntV ((m,c)::r)=(.s m,.i .i64 c)::cntV r:=rfl
  rw [e]
  simp only [mfind,MK.same,bump]
  by_cases h:n=m
  ·subst h
   refine .inr ⟨0,c,by simp,?_,?_⟩
   ·simp
   ·rw [if_pos rfl];rfl
  ·have hb:(n==m)=false:=by simpa using h
   rw [hb,if_neg h]
   rcases cnt_find n r (i+1) with ⟨h1,h2⟩|⟨j,c',h0,h1,h2⟩
   ·refine .inl ⟨by simp [h1],?_⟩
    show (MK.s m,MK.i .i64 (c:Int))::cntV (bump r n)=_
    rw [h2];rfl
   ·refine .inr ⟨j+1,c',by simp [h0],?_,?_⟩
    ·simp only [h1];rw [show i+1+j=i+(j+1) by omega]
    ·show mset _ (j+1) _=(MK.s m,MK.i .i64 (c:Int))::cntV (bump r n)
     rw [←h2];rfl
open Go.Proofs
def cntG {α:Type} (mk:α→MK) (l:List (α×Nat)):List (MK×MK):=l.map fun p=>(mk p.1,.i .i64 p.2)
def bumpG {α:Type} [DecidableEq α] (l:List (α×Nat)) (n:α):List (α×Nat):=match l with
 |[]=>[(n,1)]
 |(m,c)::r=>if n=m then (m,c+1)::r else (m,c)::bumpG r n
structure Seen {α:Type} (l:List (α×Nat)) (s:List α):Prop where
 mem: ∀n,n∈l.map Prod.fst↔n∈s
 le: ∀p∈l,1≤p.2∧p.2≤s.length
theorem bumpG_mem {α:Type} [DecidableEq α] (n x:α): ∀l:List (α×Nat),x∈(bumpG l n).map Prod.fst↔x=n∨x∈l.map Prod.fst
 |[]=>by simp [bumpG]
 |(m,c)::r=>by
  simp only [bumpG]
  split
  ·rename_i h;subst h;simp
  ·rename_i h
   simp only [List.map_cons,List.mem_cons,bumpG_mem n x r]
   constructor
   ·rintro (h|h|h)
    ·exact .inr (.inl h)
    ·exact .inl h
    ·exact .inr (.inr h)
   ·rintro (h|h|h)
    ·exact .inr (.inl h)
    ·exact .inl h
    ·exact .inr (.inr h)
theorem bumpG_le {α:Type} [DecidableEq α] (n:α) (N:Nat): ∀l:List (α×Nat),(∀p∈l,1≤p.2∧p.2≤N)→ ∀p∈bumpG l n,1≤p.2∧p.2≤N+1
 |[],_,p,hp=>by simp only [bumpG,List.mem_singleton] at hp;subst hp;simp
 |(m,c)::r,h,p,hp=>by
  simp only [bumpG] at hp
  have h1:=h (m,c) (by simp)
  simp only at h1
  split at hp
  ·rcases List.mem_cons.1 hp with rfl|hp
   ·simp only;omega
   ·have:=h p (by simp [hp]);omega
  ·rcases List.mem_cons.1 hp with rfl|hp
   ·simp only;omega
   ·exact bumpG_le n N r (fun q hq=>h q (by simp [hq])) p hp
theorem Seen.nil {α:Type}:Seen ([]:List (α×Nat)) []:=⟨by simp,by simp⟩
theorem Seen.bump {α:Type} [DecidableEq α] {l:List (α×Nat)} {s:List α} (h:Seen l s) (n:α):Seen (bumpG l n) (s++[n]):=by
 refine ⟨fun x=>?_,fun p hp=>?_⟩
 ·rw [bumpG_mem,h.mem,List.mem_append,List.mem_singleton]
  exact Or.comm
 ·rw [List.length_append]
  exact bumpG_le n s.length l h.le p hp
theorem cntG_find {α:Type} [DecidableEq α] (mk:α→MK) (hs: ∀a b:α,MK.same (mk a) (mk b)=some (decide (a=b))) (n:α): ∀(l:List (α×Nat)) (i:Nat),
  (n∉l.map Prod.fst∧mfind (mk n) (cntG mk l) i=some none∧cntG mk (bumpG l n)=cntG mk l++[(mk n,.i .i64 1)]∧
   mfind (mk n) (cntG mk l++[(mk n,.i .i64 1)]) i=some (some (i+l.length,.i .i64 1)))∨
  ∃j c,(n,c)∈l∧mfind (mk n) (cntG mk l) i=some (some (i+j,.i .i64 (c:Nat)))∧mset (cntG mk l) j (.i .i64 ((c+1:Nat):Int))=cntG mk (bumpG l n)∧
   mfind (mk n) (cntG mk (bumpG l n)) i=some (some (i+j,.i .i64 ((c+1:Nat):Int)))
 |[],i=> .inl ⟨by simp,rfl,rfl,by simp [cntG,mfind,hs]⟩
 |(m,c)::r,i=>by
  have e:cntG mk ((m,c)::r)=(mk m,.i .i64 c)::cntG mk r:=rfl
  rw [e]
  simp only [mfind,hs,bumpG,List.cons_append]
  by_cases h:n=m
  ·subst h
   refine .inr ⟨0,c,by simp,?_,?_,?_⟩
   ·simp
   ·rw [if_pos rfl];rfl
   ·rw [if_pos rfl]
    simp [cntG,mfind,hs]
  ·rw [decide_eq_false h,if_neg h]
   have e2:cntG mk ((m,c)::bumpG r n)=(mk m,.i .i64 c)::cntG mk (bumpG r n):=rfl
   rw [e2]
   simp only [mfind,hs,decide_eq_false h]
   rcases cntG_find mk hs n r (i+1) with ⟨h0,h1,h2,h3⟩|⟨j,c',h0,h1,h2,h3⟩
   ·refine .inl ⟨by simp only [List.map_cons,List.mem_cons];exact fun e=>e.elim h h0,h1,by rw [h2],?_⟩
    simp only [h3,List.length_cons];rw [show i+1+r.length=i+(r.length+1) by omega]
   ·refine .inr ⟨j+1,c',by simp [h0],?_,?_,?_⟩
    ·simp only [h1];rw [show i+1+j=i+(j+1) by omega]
    ·show mset _ (j+1) _=(mk m,MK.i .i64 (c:Int))::cntG mk (bumpG r n)
     rw [←h2];rfl
    ·simp only [h3];rw [show i+1+j=i+(j+1) by omega]
def kS (s:List UInt8):MK:= .s s
def kU (n:Nat):MK:= .i .u64 n
theorem kS_same (a b:List UInt8):MK.same (kS a) (kS b)=some (decide (a=b)):=by
 simp only [kS,MK.same]
 by_cases h:a=b<;>simp [h]
theorem kU_same (a b:Nat):MK.same (kU a) (kU b)=some (decide (a=b)):=by
 have h:((a:Int)==(b:Int))=decide (a=b):=by
  by_cases h:a=b
  ·subst h;simp
  ·rw [decide_eq_false h,beq_eq_false_iff_ne];omega
 simp only [kU,MK.same,if_true,h]
open Go.Proofs

open Go.Proofs

section
variable {x:Nat} (hx:x<18446744073709551616)
include hx
set_option linter.unusedSectionVars false
end
end Go.Ai
set_option linter.unusedSectionVars false
namespace Go.Ai
open Go.Proofs
section
variable {Q:AE→St→Prop} {Y s y1 y0 un v v0:Nat}
end

end Go.Ai
set_option linter.unusedSectionVars false
namespace Go.Ai
open Go.Proofs
section
variable {rq rr:Nat}
end
end Go.Ai
