/- P7: a part of the proof: the rules, or what functions compute. Conditions: as each theorem says. -/
import Derived.Test.YtpaipepdakekbaaGreatDoorP5
import Derived.Test.YtpaipepdakekbaaGreatDoorP6
set_option linter.unusedSimpArgs false
set_option linter.unusedVariables false
set_option maxRecDepth 20000
namespace Go.Ai
open Go.Proofs
abbrev u32 (n:Nat):AV:= .int .u32 n
abbrev cnt (g n:Nat):AV:= .agg [u g,u n]

open Go.Proofs
end Go.Ai
namespace Go.Ai
open Go.Proofs
open Go.Proofs
end Go.Ai
namespace Go.Ai
open Go.Proofs
open Go.Proofs
def readN (s:List UInt8):Nat×Nat:=if okDec s then (if undec s<340282366920938463463374607431768211456 then (undec s,0) else (0,3)) else (0,5)
theorem undec_take (s:List UInt8) (i:Nat) (h:i<s.length):undec (s.take (i+1))=10*undec (s.take i)+((s[i]).toNat - 48):=by
 rw [List.take_succ_eq_append_getElem h,undec_snoc]
theorem all_take (s:List UInt8) (i:Nat) (h:i<s.length) (hd:isDig s[i]=true) (ha:(s.take i).all isDig=true):(s.take (i+1)).all isDig=true:=by
 rw [List.take_succ_eq_append_getElem h,List.all_append,ha];simpa using hd
theorem readN_bad {s:List UInt8} (h:okDec s=false):readN s=(0,5):=by unfold readN;rw [h];rfl
theorem all_bad {s:List UInt8} {i:Nat} (h:i<s.length) (hd:isDig s[i]=false):okDec s=false:=by
 unfold okDec
 have:s.all isDig=false:=by
  rw [Bool.eq_false_iff];intro h2
  rw [List.all_eq_true] at h2
  have:=h2 s[i] (List.getElem_mem h)
  rw [hd] at this;cases this
 rw [this];simp
end Go.Ai
