/- P4: a part of the proof: the rules, or what functions compute. Conditions: as each theorem says. -/
import Derived.Test.YtggemlhclppciaaGreatDoorP3
import Derived.Test.YtggemlhclppciaaGreatDoorLib10
import Derived.Test.YtggemlhclppciaaGreatDoorP1
import Derived.Laws.Externs
set_option linter.unusedSimpArgs false
set_option linter.unusedVariables false
set_option maxRecDepth 20000
namespace Go.Ai
open Go.Proofs
open Go.Proofs

open Go.Proofs

section
variable {x:Nat} (hx:x<18446744073709551616)
include hx
set_option linter.unusedSectionVars false
end
end Go.Ai
set_option linter.unusedSectionVars false
namespace Go.Ai
open Go.Proofs
section
variable {Q:AE→St→Prop} {Y s y1 y0 un v v0:Nat}
end

end Go.Ai
set_option linter.unusedSectionVars false
namespace Go.Ai
open Go.Proofs
section
variable {rq rr:Nat}
end
end Go.Ai
namespace Go.Ai
open Go.Proofs Go.RowKit
open Go.Proofs
abbrev u32 (n:Nat):AV:= .int .u32 n
open Go.Proofs
end Go.Ai
namespace Go.Ai
open Go.Proofs
open Go.Proofs
end Go.Ai
namespace Go.Ai
open Go.Proofs
def byteAv (b:UInt8):AV:= .int .u8 b.toNat
def bufC (k:Nat) (s:List UInt8):List AV:=List.replicate k (.int .u8 0)++s.map byteAv
theorem bufC_len (k:Nat) (s:List UInt8):(bufC k s).length=k+s.length:=by simp [bufC]
theorem bufC_set (j:Nat) (b:UInt8) (s:List UInt8):List.take j (bufC (j+1) s)++byteAv b::List.drop (j+1) (bufC (j+1) s)=bufC j (b::s):=by
 have h1:List.take j (bufC (j+1) s)=List.replicate j (.int .u8 0):=by
  unfold bufC;rw [List.replicate_succ',List.append_assoc,List.take_left' (by simp)]
 have h2:List.drop (j+1) (bufC (j+1) s)=s.map byteAv:=by unfold bufC;rw [List.drop_left' (by simp)]
 rw [h1,h2];rfl
theorem idsL_bytes (s:List UInt8):idsL (s.map byteAv)=[]:=by
 induction s with
 |nil=>rfl
 |cons x r ih=>simp [idsL,byteAv,AV.ids,ih]
theorem idsL_app (a b:List AV):idsL (a++b)=idsL a++idsL b:=by
 induction a with
 |nil=>rfl
 |cons x r ih=>simp [idsL,ih]
theorem bufC_ids (k:Nat) (s:List UInt8):idsL (bufC k s)=[]:=by
 unfold bufC;rw [idsL_app,idsL_bytes,List.append_nil]
 induction k with
 |zero=>rfl
 |succ k ih=>simp [List.replicate_succ,idsL,AV.ids,ih]
theorem bytes_of (s:List UInt8):byteCells (s.map byteAv)=some s:=by
 induction s with
 |nil=>rfl
 |cons x r ih=>simp [byteCells,byteAv,ih]
theorem buf_bytes (k n:Nat) (s:List UInt8) (h:s.length≤n):byteCells (((bufC k s).drop k).take n)=some s:=by
 have:(bufC k s).drop k=s.map byteAv:=by unfold bufC;rw [List.drop_left' (by simp)]
 rw [this,List.take_of_length_le (by simpa using h),bytes_of]
open Go.Proofs
end Go.Ai
