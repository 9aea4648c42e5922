/- P5: a part of the proof: the rules, or what functions compute. Conditions: as each theorem says. -/
import Derived.Test.YtggemlhclppciaaGreatDoorP4
import Derived.Test.YtggemlhclppciaaGreatDoorP1
import Derived.Test.YtggemlhclppciaaGreatDoorP2
import Derived.Lib.Join
import Derived.Lib.ItoaNum
import Derived.Lib.Bytealg
import Derived.Test.YtggemlhclppciaaGreatDoorP3
set_option linter.unusedSimpArgs false
set_option linter.unusedVariables false
set_option maxRecDepth 20000
namespace Go.Ai
open Go.Proofs
open Go.Proofs
end Go.Ai
namespace Go.Ai
open Go.Proofs
structure Ky where
 g:List UInt8
 r:List UInt8
 p:Bool
 e:Nat
 f:Bool
 deriving DecidableEq
structure Ms where
 g:List UInt8
 p:Bool
 ks:List Ky
 deriving DecidableEq
def Ky.row (k:Ky):List AV:=[.str k.g,.str k.r,.bool k.p,u k.e,.bool k.f]
def Ms.row (m:Ms):List AV:=[.str m.g,.bool m.p,.sl (m.ks.map Ky.row)]
def goes (m:Ms) (k:Ky):Bool:=m.g==k.g&&m.p==k.p&&decide (m.ks.length<8)
open Go.Proofs
end Go.Ai
namespace Go.Ai
theorem decDigits_eq (n:Nat):Lib.decDigits n=dec n:=by
 induction n using Nat.strongRecOn with
 |_ n ih=>
  by_cases h:n<10
  ·rw [Lib.decDigits,dif_pos h,dec_lt h]
  ·rw [Lib.decDigits,dif_neg h,dec_ge h,ih _ (by omega)]
open Go.Proofs
def fl (b:Bool):Int:=if b=true then 1 else 0
end Go.Ai
namespace Go.Ai
open Go.Proofs Go.RowKit
end Go.Ai
namespace Go.Ai
open Go.Proofs Go.RowKit
end Go.Ai
namespace Go.Ai
open Go.Proofs Go.Shelf Go.RowKit Go.Sort Go.Lib
set_option maxHeartbeats 6400000 in
set_option maxRecDepth 100000 in
theorem fmtInt_calls (u:Nat) (hu1:100≤u) (hu63:u<9223372036854775808) (w:World) (htab: ∀q,q<20→w.cell? ⟨2,q,none⟩=some (.int .u64 ((10^q:Nat):Int))):
  Calls Tryz.prog 174 #[.int .i64 u,.int .i64 10] w fun e w'=>e= .returned (.string ⟨(Lib.decDigits u).toArray⟩)∧Below w.heap.size w w':=by
 have hu64:u<18446744073709551616:=by omega
 have hnd20:Lib.nDigits u≤20:=by have:=Lib.numDigits_eq u (by omega) hu64;split at this<;>omega
 have hal:Tryz.prog.arrayLen 206=24:=by kernel_rfl
 have hsl: ∀W,(Instr.sliceAt 206 (.pointer (some ⟨w.heap.size,0,none⟩)) (some (.int .i64 1)) (some (.int .i64 (1+(Lib.nDigits u:Int)))) none).run Tryz.prog W= .ok (.slice (some ⟨w.heap.size,1,none⟩) (Lib.nDigits u) 23) W:=fun W=>by
  rw [run_sliceAt_array_lh W 206 ⟨w.heap.size,0,none⟩ (by kernel_rfl) .i64 .i64 1 (1+(Lib.nDigits u:Int)) (by omega) (by omega) (by rw [hal];omega)]
  go_simp
  omega
 have hH0:=Lib.holds_zero w 206 (Lib.nDigits u) (by omega)
 have hfmt:=Any.internal_strconv_formatBase10 laysFmt w.heap.size 1 23 u (Array.replicate (Lib.nDigits u) 0) (w.alloc (.cells Lib.zeros24 206)) hH0 (by rw [Array.size_replicate];exact Lib.lt_pow_nDigits u) hu64 (by rw [Array.size_replicate];omega)
 rw [Array.size_replicate] at hfmt
 have HH0:=Lib.hid hH0
 clear hH0 hal
 have hnd:Calls Tryz.prog 166 #[.int .u64 u] (w.alloc (.cells Lib.zeros24 206)) fun e w'=>e= .returned (.int .i64 (Lib.nDigits u))∧w'=(w.alloc (.cells Lib.zeros24 206)):=
  numDigits_cells laysDig u (by omega) hu64 _ (fun q hq=>by
   have h1:=htab q hq
   have h2:=World.block_lt_of_cell? w _ h1
   exact (World.cell?_alloc_lt w _ _ h2).trans h1)
 go_enter Tryz.func174,Tryz.ntmps174
 go_wp2_with (first
  |(go_at_call 166;refine hnd.mono ?_;rintro e w' ⟨rfl,rfl⟩))
 go_at_call 167
 refine hfmt.mono ?_
 rintro e w' ⟨rfl,k,v',dk,rfl,hF⟩
 have hcv:(convert 67 9 (.slice (some ⟨w.heap.size,1,none⟩) (Lib.nDigits u) 23)).run Tryz.prog ((putRow (fun (b:UInt8)=>Value.int .u8 (b.toNat:Int)) (w.alloc (.cells Lib.zeros24 206)) w.heap.size 1 dk).drewN k)= .ok (.string ⟨(Lib.decDigits u).toArray⟩) ((putRow (fun (b:UInt8)=>Value.int .u8 (b.toNat:Int)) (w.alloc (.cells Lib.zeros24 206)) w.heap.size 1 dk).drewN k):=by
  have h:=run_convert_bytes_back (P:=Tryz.prog) ((putRow (fun (b:UInt8)=>Value.int .u8 (b.toNat:Int)) (w.alloc (.cells Lib.zeros24 206)) w.heap.size 1 dk).drewN k) 67 9 5 ⟨w.heap.size,1,none⟩ 23 (Lib.decDigits u) Tryz.underlying67 Tryz.underlying5 Tryz.underlying9 (fun j hj=>by
   rw [Lib.row_is_numeral hF j hj,Lib.add_plain,World.cell?_drewN]
   exact cell?_putRow (fun (b:UInt8)=>Value.int .u8 (b.toNat:Int)) _ w.heap.size 1 _ dk HH0.out (by rw [hF.size,Array.size_replicate]) j (by rw [hF.size];rw [Lib.decDigits_length] at hj;exact hj))
  rw [Lib.decDigits_length] at h
  exact h
 go_wp2
 go_ret
 refine ⟨rfl,?_⟩
 rw [alloc_eq_grow]
 obtain ⟨os',_,eg⟩:=putRow_grow_new (fun (b:UInt8)=>Value.int .u8 (b.toNat:Int)) w #[.cells Lib.zeros24 206] w.heap.size 1 dk (Nat.le_refl _)
 rw [eg]
 exact below_grow w os' k
theorem ifmtI_spec (n:Nat) (h:n<9223372036854775808):Sp Tryz.prog gl 174 [i6 n,i6 10] (.str (dec n)):=by
 rw [←decDigits_eq]
 by_cases g:n<100
 ·refine s174 rfl rfl ?_
  have S:=small_spec n g
  generalize Lib.decDigits n=R at *
  have t1:IntKind.i64.wrap (n:Int)=n:=by rw [wrap_i64]<;>omega
  have g':(n:Int)<100:=by omega
  have g0:(0:Int)≤n:=by omega
  simp -implicitDefEqProofs [c174,t1,g,g',g0]
  refine onC_mk _ S ?_
  simp -implicitDefEqProofs
 ·refine shelf_specG Tryz.func174 (by kernel_rfl) (by kernel_rfl) ?_
  intro S gb w vs hvs hag hgl
  simp only [PRlist,PR] at hvs
  obtain ⟨_,_,rfl,rfl,_,_,rfl,rfl,rfl⟩:=hvs
  exact (fmtInt_calls n (by omega) h w (tab_cells hgl)).mono fun e w' ⟨he,hw⟩=>⟨_,he,hw,by simp [PR]⟩
theorem fmtI_spec (n:Nat) (h:n<9223372036854775808):Sp Tryz.prog gl 132 [i6 n,i6 10] (.str (dec n)):=by
 refine s132 rfl rfl ?_
 have S:=ifmtI_spec n h
 generalize dec n=R at *
 simp -implicitDefEqProofs [c132]
 refine onC_mk _ S ?_
 simp -implicitDefEqProofs
theorem iitoa_spec (n:Nat) (h:n<9223372036854775808):Sp Tryz.prog gl 173 [i6 n] (.str (dec n)):=by
 refine s173 rfl rfl ?_
 have S:=ifmtI_spec n h
 generalize dec n=R at *
 simp -implicitDefEqProofs [c173]
 refine onC_mk _ S ?_
 simp -implicitDefEqProofs
theorem itoa_spec (n:Nat) (h:n<9223372036854775808):Sp Tryz.prog gl 129 [i6 n] (.str (dec n)):=by
 refine s129 rfl rfl ?_
 have S:=iitoa_spec n h
 generalize dec n=R at *
 simp -implicitDefEqProofs [c129]
 refine onC_mk _ S ?_
 simp -implicitDefEqProofs
open Go.Proofs
def encN (r:Nat):List UInt8:=
 if r<128 then [UInt8.ofNat r]
 else if r<2048 then [UInt8.ofNat (192+r / 64),UInt8.ofNat (128+r%64)]
 else if r<65536 then [UInt8.ofNat (224+r / 4096),UInt8.ofNat (128+r / 64%64),UInt8.ofNat (128+r%64)]
 else [UInt8.ofNat (240+r / 262144),UInt8.ofNat (128+r / 4096%64),UInt8.ofNat (128+r / 64%64),UInt8.ofNat (128+r%64)]
def encR (r:Int):List UInt8:=if r<0 then [255] else encN r.toNat
def textR:List Int→List UInt8
 |[]=>[]
 |r::l=>encR r++textR l
theorem encN_len (r:Nat):(encN r).length≤4∧1≤(encN r).length:=by
 unfold encN
 split
 ·simp
 ·split
  ·simp
  ·split<;>simp
open Go.Proofs
theorem cont_in {s:List UInt8} {i:Nat} (h:cont s i=true):i<s.length:=(cont_iff.1 h).1
theorem isRune_le {l r:Nat} (h:isRune l r=true):l≤r∧r≤1114111∧ ¬(55296≤r∧r<57344):=by
 unfold isRune at h
 exact of_decide_eq_true h
def okR (r:Int):Prop:=r= -1∨(0≤r∧r≤1114111∧ ¬(55296≤r∧r<57344))
theorem stepF_okR (s:List UInt8) (i n r0 l:Nat):okR (stepF s i n r0 l).1:=by
 unfold stepF okR
 split
 ·rename_i h
  rw [Bool.and_eq_true] at h
  have:=isRune_le h.2
  right
  simp only
  omega
 ·left;rfl
theorem stepR_okR (s:List UInt8) (i:Nat):okR (stepR s i).1:=by
 unfold stepR
 simp only
 split
 ·right;simp only;omega
 ·split
  ·exact stepF_okR ..
  ·split
   ·exact stepF_okR ..
   ·split
    ·exact stepF_okR ..
    ·left;rfl
theorem byt_zero (b:UInt8) (t:List UInt8):byt (b::t) 0=b.toNat:=rfl
theorem byt_of (n:Nat) (h:n<256) (t:List UInt8):byt (UInt8.ofNat n::t) 0=n:=by
 rw [byt_zero,UInt8.toNat_ofNat_of_lt' (by simpa using h)]
theorem dec_enc (r:Nat) (h1:r≤1114111) (h2: ¬(55296≤r∧r<57344)) (t:List UInt8):stepR (encN r++t) 0=((r:Int),(encN r).length):=by
 unfold encN
 by_cases c1:r<128
 ·rw [if_pos c1]
  simp only [List.cons_append,List.nil_append]
  unfold stepR
  simp only [byt_of r (by omega) t]
  rw [if_pos c1]
  rfl
 ·rw [if_neg c1]
  by_cases c2:r<2048
  ·rw [if_pos c2]
   simp only [List.cons_append,List.nil_append]
   unfold stepR
   simp only [byt_of (192+r / 64) (by omega) _]
   rw [if_neg (by omega),if_pos (by omega),stepF1]
   simp only [Nat.zero_add,cont,show ∀(b:UInt8) (t:List UInt8),byt (b::t) 1=byt t 0 from fun b t=>rfl,byt_of (128+r%64) (by omega) t]
   rw [if_pos (by simp [isRune];omega)]
   simp only [List.length_cons,List.length_nil,Prod.mk.injEq]
   exact ⟨by omega,trivial⟩
  ·rw [if_neg c2]
   by_cases c3:r<65536
   ·rw [if_pos c3]
    simp only [List.cons_append,List.nil_append]
    unfold stepR
    simp only [byt_of (224+r / 4096) (by omega) _]
    rw [if_neg (by omega),if_neg (by omega),if_pos (by omega),stepF2]
    simp only [Nat.zero_add,cont,show ∀(b:UInt8) (t:List UInt8),byt (b::t) 1=byt t 0 from fun b t=>rfl,show ∀(b c:UInt8) (t:List UInt8),byt (b::c::t) 2=byt t 0 from fun b c t=>rfl,byt_of (128+r / 64%64) (by omega) _,byt_of (128+r%64) (by omega) t]
    rw [if_pos (by simp [isRune];omega)]
    simp only [List.length_cons,List.length_nil,Prod.mk.injEq]
    exact ⟨by omega,trivial⟩
   ·rw [if_neg c3]
    simp only [List.cons_append,List.nil_append]
    unfold stepR
    simp only [byt_of (240+r / 262144) (by omega) _]
    rw [if_neg (by omega),if_neg (by omega),if_neg (by omega),if_pos (by omega),stepF3]
    simp only [Nat.zero_add,cont,show ∀(b:UInt8) (t:List UInt8),byt (b::t) 1=byt t 0 from fun b t=>rfl,show ∀(b c:UInt8) (t:List UInt8),byt (b::c::t) 2=byt t 0 from fun b c t=>rfl,show ∀(b c e:UInt8) (t:List UInt8),byt (b::c::e::t) 3=byt t 0 from fun b c e t=>rfl,byt_of (128+r / 4096%64) (by omega) _,byt_of (128+r / 64%64) (by omega) _,byt_of (128+r%64) (by omega) t]
    rw [if_pos (by simp [isRune];omega)]
    simp only [List.length_cons,List.length_nil,Prod.mk.injEq]
    exact ⟨by omega,trivial⟩
open Go.Proofs
theorem cont_ext {a b:List UInt8} {i j:Nat} (h:byt a i=byt b j):cont a i=cont b j:=by unfold cont;rw [h]
theorem rv_ext {a b:List UInt8} {i j:Nat} (r0:Nat): ∀n,(∀q,1≤q→q≤n→byt a (i+q)=byt b (j+q))→rv a i r0 n=rv b j r0 n
 |0,_=>rfl
 |n+1,h=>by
  have e:=rv_ext r0 n (fun q h1 h2=>h q h1 (by omega))
  have f:=h (n+1) (by omega) (Nat.le_refl _)
  show 64*rv a i r0 n+(byt a (i+(n+1)) - 128)=64*rv b j r0 n+(byt b (j+(n+1)) - 128)
  rw [e,f]
theorem conts_ext {a b:List UInt8} {i j:Nat}: ∀n,(∀q,1≤q→q≤n→byt a (i+q)=byt b (j+q))→conts a i n=conts b j n
 |0,_=>rfl
 |n+1,h=>by
  have e:=conts_ext n (fun q h1 h2=>h q h1 (by omega))
  have f:=cont_ext (h (n+1) (by omega) (Nat.le_refl _))
  show (conts a i n&&cont a (i+(n+1)))=(conts b j n&&cont b (j+(n+1)))
  rw [e,f]
theorem stepR_ext {a b:List UInt8} {i j:Nat} (h: ∀q,byt a (i+q)=byt b (j+q)):stepR a i=stepR b j:=by
 have e:=h 0
 rw [Nat.add_zero,Nat.add_zero] at e
 have f: ∀n r0 l,stepF a i n r0 l=stepF b j n r0 l:=fun n r0 l=>by
  unfold stepF
  rw [conts_ext (a:=a) (b:=b) (i:=i) (j:=j) n (fun q _ _=>h q),rv_ext (a:=a) (b:=b) (i:=i) (j:=j) r0 n (fun q _ _=>h q)]
 unfold stepR
 simp only [e,f]
theorem byt_app (a b:List UInt8) (q:Nat):byt (a++b) (a.length+q)=byt b q:=by
 unfold byt
 rw [List.getElem?_append_right (by omega),show a.length+q - a.length=q by omega]
theorem runesL_app (a b:List UInt8): ∀(n q:Nat),b.length - q≤n→runesL (a++b) (a.length+q)=runesL b q
 |n,q,h=>by
  by_cases g:q<b.length
  ·have g2:a.length+q<(a++b).length:=by rw [List.length_append];omega
   have e:stepR (a++b) (a.length+q)=stepR b q:=stepR_ext (fun z=>by rw [Nat.add_assoc];exact byt_app a b (q+z))
   have p:=stepR_pos b q
   rw [runesL_in g,runesL_in g2,e,Nat.add_assoc]
   cases n with
   |zero=>omega
   |succ n=>rw [runesL_app a b n (q+(stepR b q).2) (by omega)]
  ·rw [runesL_out g,runesL_out (by rw [List.length_append];omega)]
theorem encR_step {r:Int} (h:okR r) (t:List UInt8):stepR (encR r++t) 0=(r,(encR r).length):=by
 rcases h with rfl|⟨h1,h2,h3⟩
 ·have e:encR (-1)=[255]:=rfl
  rw [e]
  simp only [List.cons_append,List.nil_append]
  unfold stepR
  simp only [show byt (255::t) 0=255 from rfl]
  rw [if_neg (by omega),if_neg (by omega),if_neg (by omega),if_neg (by omega)]
  rfl
 ·have e:encR r=encN r.toNat:=if_neg (by omega)
  have hz:((r.toNat:Nat):Int)=r:=by omega
  rw [e,dec_enc r.toNat (by omega) (by omega) t,hz]
theorem encR_pos (r:Int):1≤(encR r).length:=by
 unfold encR
 split
 ·simp
 ·exact (encN_len _).2
theorem runesL_textR: ∀l:List Int,(∀r∈l,okR r)→runesL (textR l) 0=l
 |[],_=>by rw [textR,runesL_out (by simp)]
 |r::l,h=>by
  have p:=encR_pos r
  rw [textR,runesL_in (by rw [List.length_append];omega),encR_step (h r (by simp))]
  simp only
  rw [Nat.zero_add,show (encR r).length=(encR r).length+0 from rfl,runesL_app (encR r) (textR l) (textR l).length 0 (by omega),runesL_textR l (fun x hx=>h x (by simp [hx]))]
end Go.Ai
