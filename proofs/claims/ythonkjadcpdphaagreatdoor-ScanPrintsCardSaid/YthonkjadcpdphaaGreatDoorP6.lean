/- P6: a part of the proof: the rules, or what functions compute. Conditions: as each theorem says. -/
import Derived.Test.YthonkjadcpdphaaGreatDoorP5
import Derived.Test.YthonkjadcpdphaaGreatDoorP1
set_option linter.unusedSimpArgs false
set_option linter.unusedVariables false
set_option maxRecDepth 20000
namespace Go.Ai
open Go.Proofs Go.RowKit
end Go.Ai
namespace Go.Ai
open Go.Proofs Go.RowKit
theorem digits13_spec (n:Nat) (h:n<18446744073709551616):Sp Tryz.prog gl 60 [u n] (.str (dec n)):=by
 refine s60 rfl rfl ?_
 have B:=bits_spec n (by omega)
 have D:=digits_spec (bitsOf n 128) (by simp [bitsOf])
 rw [bitsOf_val128 n (by omega)] at D
 rw [show wide n= .agg [u 0,u n] by unfold wide;rw [Nat.div_eq_of_lt h,Nat.mod_eq_of_lt h]] at B
 unfold bl at B D
 generalize dec n=out at *
 generalize List.map (fun b=>[AV.bool b]) (bitsOf n 128)=bs at *
 simp -implicitDefEqProofs [c60]
 refine onC_mk _ B ?_
 simp -implicitDefEqProofs
 refine onC_mk _ D ?_
 simp -implicitDefEqProofs
end Go.Ai
namespace Go.Ai
open Go.Proofs Go.Shelf Go.RowKit Go.Sort Go.Lib
set_option maxHeartbeats 6400000 in
set_option maxRecDepth 100000 in
theorem fmtInt_calls (u:Nat) (hu1:100≤u) (hu63:u<9223372036854775808) (w:World) (htab: ∀q,q<20→w.cell? ⟨2,q,none⟩=some (.int .u64 ((10^q:Nat):Int))):
  Calls Tryz.prog 192 #[.int .i64 u,.int .i64 10] w fun e w'=>e= .returned (.string ⟨(Lib.decDigits u).toArray⟩)∧Below w.heap.size w w':=by
 have hu64:u<18446744073709551616:=by omega
 have hnd20:Lib.nDigits u≤20:=by have:=Lib.numDigits_eq u (by omega) hu64;split at this<;>omega
 have hal:Tryz.prog.arrayLen 233=24:=by kernel_rfl
 have hsl: ∀W,(Instr.sliceAt 233 (.pointer (some ⟨w.heap.size,0,none⟩)) (some (.int .i64 1)) (some (.int .i64 (1+(Lib.nDigits u:Int)))) none).run Tryz.prog W= .ok (.slice (some ⟨w.heap.size,1,none⟩) (Lib.nDigits u) 23) W:=fun W=>by
  rw [run_sliceAt_array_lh W 233 ⟨w.heap.size,0,none⟩ (by kernel_rfl) .i64 .i64 1 (1+(Lib.nDigits u:Int)) (by omega) (by omega) (by rw [hal];omega)]
  go_simp
  omega
 have hH0:=Lib.holds_zero w 233 (Lib.nDigits u) (by omega)
 have hfmt:=Any.internal_strconv_formatBase10 laysFmt w.heap.size 1 23 u (Array.replicate (Lib.nDigits u) 0) (w.alloc (.cells Lib.zeros24 233)) hH0 (by rw [Array.size_replicate];exact Lib.lt_pow_nDigits u) hu64 (by rw [Array.size_replicate];omega)
 rw [Array.size_replicate] at hfmt
 have HH0:=Lib.hid hH0
 clear hH0 hal
 have hnd:Calls Tryz.prog 188 #[.int .u64 u] (w.alloc (.cells Lib.zeros24 233)) fun e w'=>e= .returned (.int .i64 (Lib.nDigits u))∧w'=(w.alloc (.cells Lib.zeros24 233)):=
  numDigits_cells laysDig u (by omega) hu64 _ (fun q hq=>by
   have h1:=htab q hq
   have h2:=World.block_lt_of_cell? w _ h1
   exact (World.cell?_alloc_lt w _ _ h2).trans h1)
 go_enter Tryz.func192,Tryz.ntmps192
 go_wp2_with (first
  |(go_at_call 188;refine hnd.mono ?_;rintro e w' ⟨rfl,rfl⟩))
 go_at_call 189
 refine hfmt.mono ?_
 rintro e w' ⟨rfl,k,v',dk,rfl,hF⟩
 have hcv:(convert 47 9 (.slice (some ⟨w.heap.size,1,none⟩) (Lib.nDigits u) 23)).run Tryz.prog ((putRow (fun (b:UInt8)=>Value.int .u8 (b.toNat:Int)) (w.alloc (.cells Lib.zeros24 233)) w.heap.size 1 dk).drewN k)= .ok (.string ⟨(Lib.decDigits u).toArray⟩) ((putRow (fun (b:UInt8)=>Value.int .u8 (b.toNat:Int)) (w.alloc (.cells Lib.zeros24 233)) w.heap.size 1 dk).drewN k):=by
  have h:=run_convert_bytes_back (P:=Tryz.prog) ((putRow (fun (b:UInt8)=>Value.int .u8 (b.toNat:Int)) (w.alloc (.cells Lib.zeros24 233)) w.heap.size 1 dk).drewN k) 47 9 5 ⟨w.heap.size,1,none⟩ 23 (Lib.decDigits u) Tryz.underlying47 Tryz.underlying5 Tryz.underlying9 (fun j hj=>by
   rw [Lib.row_is_numeral hF j hj,Lib.add_plain,World.cell?_drewN]
   exact cell?_putRow (fun (b:UInt8)=>Value.int .u8 (b.toNat:Int)) _ w.heap.size 1 _ dk HH0.out (by rw [hF.size,Array.size_replicate]) j (by rw [hF.size];rw [Lib.decDigits_length] at hj;exact hj))
  rw [Lib.decDigits_length] at h
  exact h
 go_wp2
 go_ret
 refine ⟨rfl,?_⟩
 rw [alloc_eq_grow]
 obtain ⟨os',_,eg⟩:=putRow_grow_new (fun (b:UInt8)=>Value.int .u8 (b.toNat:Int)) w #[.cells Lib.zeros24 233] w.heap.size 1 dk (Nat.le_refl _)
 rw [eg]
 exact below_grow w os' k
theorem ifmtI_spec (n:Nat) (h:n<9223372036854775808):Sp Tryz.prog gl 192 [i6 n,i6 10] (.str (dec n)):=by
 rw [←decDigits_eq]
 by_cases g:n<100
 ·refine s192 rfl rfl ?_
  have S:=small_spec n g
  generalize Lib.decDigits n=R at *
  have t1:IntKind.i64.wrap (n:Int)=n:=by rw [wrap_i64]<;>omega
  have g':(n:Int)<100:=by omega
  have g0:(0:Int)≤n:=by omega
  simp -implicitDefEqProofs [c192,t1,g,g',g0]
  refine onC_mk _ S ?_
  simp -implicitDefEqProofs
 ·refine shelf_specG Tryz.func192 (by kernel_rfl) (by kernel_rfl) ?_
  intro S gb w vs hvs hag hgl
  simp only [PRlist,PR] at hvs
  obtain ⟨_,_,rfl,rfl,_,_,rfl,rfl,rfl⟩:=hvs
  exact (fmtInt_calls n (by omega) h w (tab_cells hgl)).mono fun e w' ⟨he,hw⟩=>⟨_,he,hw,by simp [PR]⟩
theorem fmtI_spec (n:Nat) (h:n<9223372036854775808):Sp Tryz.prog gl 137 [i6 n,i6 10] (.str (dec n)):=by
 refine s137 rfl rfl ?_
 have S:=ifmtI_spec n h
 generalize dec n=R at *
 simp -implicitDefEqProofs [c137]
 refine onC_mk _ S ?_
 simp -implicitDefEqProofs
theorem iitoa_spec (n:Nat) (h:n<9223372036854775808):Sp Tryz.prog gl 191 [i6 n] (.str (dec n)):=by
 refine s191 rfl rfl ?_
 have S:=ifmtI_spec n h
 generalize dec n=R at *
 simp -implicitDefEqProofs [c191]
 refine onC_mk _ S ?_
 simp -implicitDefEqProofs
theorem itoa_spec (n:Nat) (h:n<9223372036854775808):Sp Tryz.prog gl 134 [i6 n] (.str (dec n)):=by
 refine s134 rfl rfl ?_
 have S:=iitoa_spec n h
 generalize dec n=R at *
 simp -implicitDefEqProofs [c134]
 refine onC_mk _ S ?_
 simp -implicitDefEqProofs
open Go.Proofs
def encN (r:Nat):List UInt8:=
 if r<128 then [UInt8.ofNat r]
 else if r<2048 then [UInt8.ofNat (192+r / 64),UInt8.ofNat (128+r%64)]
 else if r<65536 then [UInt8.ofNat (224+r / 4096),UInt8.ofNat (128+r / 64%64),UInt8.ofNat (128+r%64)]
 else [UInt8.ofNat (240+r / 262144),UInt8.ofNat (128+r / 4096%64),UInt8.ofNat (128+r / 64%64),UInt8.ofNat (128+r%64)]
theorem u8_of (z:Int) (n:Nat) (h:z=n) (hn:n<256):UInt8.ofNat (IntKind.u8.wrap z).toNat=UInt8.ofNat n:=by
 subst h
 rw [wrap_u8 (by omega) (by omega),Int.toNat_natCast]
theorem tmod64 (z:Int) (h:0≤z):z.tmod 64=z%64:=Int.tmod_eq_emod_of_nonneg h
theorem rbytes_spec (r:Nat) (h:r≤1114111):Sp Tryz.prog gl 111 [i3 r] (.str (encN r)):=by
 refine s111 rfl rfl ?_
 unfold encN
 have w8: ∀z:Nat,z<256→IntKind.u8.wrap (z:Int)=z:=fun z hz=>by rw [wrap_u8]<;>omega
 have q1:IntKind.i32.wrap ((r:Int) / 64)=(r:Int) / 64:=by rw [wrap_i32']<;>omega
 have q2:IntKind.i32.wrap ((r:Int) / 4096)=(r:Int) / 4096:=by rw [wrap_i32']<;>omega
 have q3:IntKind.i32.wrap ((r:Int) / 262144)=(r:Int) / 262144:=by rw [wrap_i32']<;>omega
 have m0:(r:Int).tmod 64=(r:Int)%64:=tmod64 _ (by omega)
 have m1:((r:Int) / 64).tmod 64=(r:Int) / 64%64:=tmod64 _ (by omega)
 have m2:((r:Int) / 4096).tmod 64=(r:Int) / 4096%64:=tmod64 _ (by omega)
 have e0:UInt8.ofNat (IntKind.u8.wrap (IntKind.i32.wrap (128+(r:Int)%64))).toNat=UInt8.ofNat (128+r%64):=u8_of _ _ (by rw [wrap_i32']<;>omega) (by omega)
 have e1:UInt8.ofNat (IntKind.u8.wrap (IntKind.i32.wrap (128+(r:Int) / 64%64))).toNat=UInt8.ofNat (128+r / 64%64):=u8_of _ _ (by rw [wrap_i32']<;>omega) (by omega)
 have e2:UInt8.ofNat (IntKind.u8.wrap (IntKind.i32.wrap (128+(r:Int) / 4096%64))).toNat=UInt8.ofNat (128+r / 4096%64):=u8_of _ _ (by rw [wrap_i32']<;>omega) (by omega)
 have l1:r<2048→UInt8.ofNat (IntKind.u8.wrap (IntKind.i32.wrap (192+(r:Int) / 64))).toNat=UInt8.ofNat (192+r / 64):=fun hr=>u8_of _ _ (by rw [wrap_i32']<;>omega) (by omega)
 have l2:r<65536→UInt8.ofNat (IntKind.u8.wrap (IntKind.i32.wrap (224+(r:Int) / 4096))).toNat=UInt8.ofNat (224+r / 4096):=fun hr=>u8_of _ _ (by rw [wrap_i32']<;>omega) (by omega)
 have l3:UInt8.ofNat (IntKind.u8.wrap (IntKind.i32.wrap (240+(r:Int) / 262144))).toNat=UInt8.ofNat (240+r / 262144):=u8_of _ _ (by rw [wrap_i32']<;>omega) (by omega)
 generalize UInt8.ofNat (128+r%64)=B0 at *
 generalize UInt8.ofNat (128+r / 64%64)=B1 at *
 generalize UInt8.ofNat (128+r / 4096%64)=B2 at *
 generalize UInt8.ofNat (192+r / 64)=C1 at *
 generalize UInt8.ofNat (224+r / 4096)=C2 at *
 generalize UInt8.ofNat (240+r / 262144)=C3 at *
 by_cases c1:r<128
 ·have c1':(r:Int)<128:=by omega
  simp -implicitDefEqProofs [c111,c1,c1',w8 r (by omega)]
 ·have c1': ¬(r:Int)<128:=by omega
  by_cases c2:r<2048
  ·have c2':(r:Int)<2048:=by omega
   simp -implicitDefEqProofs [c111,c1,c1',c2,c2',q1,m0,e0,l1 c2]
  ·have c2': ¬(r:Int)<2048:=by omega
   by_cases c3:r<65536
   ·have c3':(r:Int)<65536:=by omega
    simp -implicitDefEqProofs [c111,c1,c1',c2,c2',c3,c3',q1,q2,m0,m1,e0,e1,l2 c3]
   ·have c3': ¬(r:Int)<65536:=by omega
    simp -implicitDefEqProofs [c111,c1,c1',c2,c2',c3,c3',q1,q2,q3,m0,m1,m2,e0,e1,e2,l3]
def encR (r:Int):List UInt8:=if r<0 then [255] else encN r.toNat
def textR:List Int→List UInt8
 |[]=>[]
 |r::l=>encR r++textR l
theorem textR_append: ∀a b:List Int,textR (a++b)=textR a++textR b
 |[],b=>rfl
 |r::l,b=>by rw [List.cons_append,textR,textR,textR_append l b,List.append_assoc]
theorem encN_len (r:Nat):(encN r).length≤4∧1≤(encN r).length:=by
 unfold encN
 split
 ·simp
 ·split
  ·simp
  ·split<;>simp
theorem encR_len (r:Int):(encR r).length≤4:=by
 unfold encR
 split
 ·simp
 ·exact (encN_len _).1
theorem textR_len: ∀l:List Int,(textR l).length≤4*l.length
 |[]=>by simp [textR]
 |r::l=>by
  have h1:=textR_len l
  have h2:=encR_len r
  rw [textR,List.length_append,List.length_cons]
  omega
theorem runeRows_at (l:List Int) (i:Nat) (h:i<l.length): ∀h2,(runeRows l)[i]'h2=[i3 l[i]]:=fun _=>by simp [runeRows]
open Go.Proofs
theorem drop_byt {s:List UInt8} {i:Nat} (h:i<s.length):s.drop i=UInt8.ofNat (byt s i)::s.drop (i+1):=by
 rw [List.drop_eq_getElem_cons h,byt_at h,UInt8.ofNat_toNat]
theorem cont_in {s:List UInt8} {i:Nat} (h:cont s i=true):i<s.length:=(cont_iff.1 h).1
theorem cont_ge {s:List UInt8} {i:Nat} (h:cont s i=true):128≤byt s i∧byt s i≤191:=by
 unfold cont at h
 exact of_decide_eq_true h
theorem isRune_le {l r:Nat} (h:isRune l r=true):l≤r∧r≤1114111∧ ¬(55296≤r∧r<57344):=by
 unfold isRune at h
 exact of_decide_eq_true h
theorem enc_step (s:List UInt8) (i:Nat) (h:i<s.length) (hr:(stepR s i).1≠ -1):encN (stepR s i).1.toNat=(s.drop i).take (stepR s i).2:=by
 have b0:=byt_lt s i
 unfold stepR at hr ⊢
 simp only at hr ⊢
 by_cases c1:byt s i<128
 ·rw [if_pos c1]
  simp only [Int.toNat_natCast]
  rw [drop_byt h]
  unfold encN
  rw [if_pos c1]
  rfl
 ·rw [if_neg c1] at hr ⊢
  by_cases c2:192≤byt s i∧byt s i<224
  ·rw [if_pos c2] at hr ⊢
   rw [stepF1] at hr ⊢
   split at hr
   ·rename_i hc
    rw [if_pos hc]
    rw [Bool.and_eq_true] at hc
    have k1:=cont_ge hc.1
    have m1:=cont_in hc.1
    have q:=isRune_le hc.2
    simp only [Int.toNat_natCast]
    rw [drop_byt h,drop_byt m1]
    generalize byt s i=x at *
    generalize byt s (i+1)=y at *
    unfold encN
    rw [if_neg (by omega),if_pos (by omega),show 192+(64*(x - 192)+(y - 128)) / 64=x by omega,show 128+(64*(x - 192)+(y - 128))%64=y by omega]
    rfl
   ·exact absurd rfl hr
  ·rw [if_neg c2] at hr ⊢
   by_cases c3:224≤byt s i∧byt s i<240
   ·rw [if_pos c3] at hr ⊢
    rw [stepF2] at hr ⊢
    split at hr
    ·rename_i hc
     rw [if_pos hc]
     rw [Bool.and_eq_true,Bool.and_eq_true] at hc
     have k1:=cont_ge hc.1.1
     have m1:=cont_in hc.1.1
     have k2:=cont_ge hc.1.2
     have m2:=cont_in hc.1.2
     have q:=isRune_le hc.2
     simp only [Int.toNat_natCast]
     rw [drop_byt h,drop_byt m1,drop_byt m2]
     generalize byt s i=x at *
     generalize byt s (i+1)=y at *
     generalize byt s (i+2)=z at *
     unfold encN
     rw [if_neg (by omega),if_neg (by omega),if_pos (by omega),show 224+(64*(64*(x - 224)+(y - 128))+(z - 128)) / 4096=x by omega,show 128+(64*(64*(x - 224)+(y - 128))+(z - 128)) / 64%64=y by omega,show 128+(64*(64*(x - 224)+(y - 128))+(z - 128))%64=z by omega]
     rfl
    ·exact absurd rfl hr
   ·rw [if_neg c3] at hr ⊢
    by_cases c4:240≤byt s i∧byt s i<248
    ·rw [if_pos c4] at hr ⊢
     rw [stepF3] at hr ⊢
     split at hr
     ·rename_i hc
      rw [if_pos hc]
      rw [Bool.and_eq_true,Bool.and_eq_true,Bool.and_eq_true] at hc
      have k1:=cont_ge hc.1.1.1
      have m1:=cont_in hc.1.1.1
      have k2:=cont_ge hc.1.1.2
      have m2:=cont_in hc.1.1.2
      have k3:=cont_ge hc.1.2
      have m3:=cont_in hc.1.2
      have q:=isRune_le hc.2
      simp only [Int.toNat_natCast]
      rw [drop_byt h,drop_byt m1,drop_byt m2,drop_byt m3]
      generalize byt s i=x at *
      generalize byt s (i+1)=y at *
      generalize byt s (i+2)=z at *
      generalize byt s (i+3)=v at *
      unfold encN
      rw [if_neg (by omega),if_neg (by omega),if_neg (by omega),show 240+(64*(64*(64*(x - 240)+(y - 128))+(z - 128))+(v - 128)) / 262144=x by omega,show 128+(64*(64*(64*(x - 240)+(y - 128))+(z - 128))+(v - 128)) / 4096%64=y by omega,show 128+(64*(64*(64*(x - 240)+(y - 128))+(z - 128))+(v - 128)) / 64%64=z by omega,show 128+(64*(64*(64*(x - 240)+(y - 128))+(z - 128))+(v - 128))%64=v by omega]
      rfl
     ·exact absurd rfl hr
    ·rw [if_neg c4] at hr
     exact absurd rfl hr
def okR (r:Int):Prop:=r= -1∨(0≤r∧r≤1114111∧ ¬(55296≤r∧r<57344))
theorem stepF_okR (s:List UInt8) (i n r0 l:Nat):okR (stepF s i n r0 l).1:=by
 unfold stepF okR
 split
 ·rename_i h
  rw [Bool.and_eq_true] at h
  have:=isRune_le h.2
  right
  simp only
  omega
 ·left;rfl
theorem stepR_okR (s:List UInt8) (i:Nat):okR (stepR s i).1:=by
 unfold stepR
 simp only
 split
 ·right;simp only;omega
 ·split
  ·exact stepF_okR ..
  ·split
   ·exact stepF_okR ..
   ·split
    ·exact stepF_okR ..
    ·left;rfl
theorem runesL_okR (s:List UInt8): ∀(n i:Nat),s.length - i≤n→ ∀r∈runesL s i,okR r
 |0,i,h,r,hr=>by rw [runesL_out (by omega)] at hr;cases hr
 |n+1,i,h,r,hr=>by
  by_cases hi:i<s.length
  ·rw [runesL_in hi] at hr
   rcases List.mem_cons.1 hr with rfl|hr
   ·exact stepR_okR s i
   ·have:=stepR_pos s i
    exact runesL_okR s n _ (by omega) r hr
  ·rw [runesL_out hi] at hr;cases hr
theorem byt_zero (b:UInt8) (t:List UInt8):byt (b::t) 0=b.toNat:=rfl
theorem byt_of (n:Nat) (h:n<256) (t:List UInt8):byt (UInt8.ofNat n::t) 0=n:=by
 rw [byt_zero,UInt8.toNat_ofNat_of_lt' (by simpa using h)]
theorem dec_enc (r:Nat) (h1:r≤1114111) (h2: ¬(55296≤r∧r<57344)) (t:List UInt8):stepR (encN r++t) 0=((r:Int),(encN r).length):=by
 unfold encN
 by_cases c1:r<128
 ·rw [if_pos c1]
  simp only [List.cons_append,List.nil_append]
  unfold stepR
  simp only [byt_of r (by omega) t]
  rw [if_pos c1]
  rfl
 ·rw [if_neg c1]
  by_cases c2:r<2048
  ·rw [if_pos c2]
   simp only [List.cons_append,List.nil_append]
   unfold stepR
   simp only [byt_of (192+r / 64) (by omega) _]
   rw [if_neg (by omega),if_pos (by omega),stepF1]
   simp only [Nat.zero_add,cont,show ∀(b:UInt8) (t:List UInt8),byt (b::t) 1=byt t 0 from fun b t=>rfl,byt_of (128+r%64) (by omega) t]
   rw [if_pos (by simp [isRune];omega)]
   simp only [List.length_cons,List.length_nil,Prod.mk.injEq]
   exact ⟨by omega,trivial⟩
  ·rw [if_neg c2]
   by_cases c3:r<65536
   ·rw [if_pos c3]
    simp only [List.cons_append,List.nil_append]
    unfold stepR
    simp only [byt_of (224+r / 4096) (by omega) _]
    rw [if_neg (by omega),if_neg (by omega),if_pos (by omega),stepF2]
    simp only [Nat.zero_add,cont,show ∀(b:UInt8) (t:List UInt8),byt (b::t) 1=byt t 0 from fun b t=>rfl,show ∀(b c:UInt8) (t:List UInt8),byt (b::c::t) 2=byt t 0 from fun b c t=>rfl,byt_of (128+r / 64%64) (by omega) _,byt_of (128+r%64) (by omega) t]
    rw [if_pos (by simp [isRune];omega)]
    simp only [List.length_cons,List.length_nil,Prod.mk.injEq]
    exact ⟨by omega,trivial⟩
   ·rw [if_neg c3]
    simp only [List.cons_append,List.nil_append]
    unfold stepR
    simp only [byt_of (240+r / 262144) (by omega) _]
    rw [if_neg (by omega),if_neg (by omega),if_neg (by omega),if_pos (by omega),stepF3]
    simp only [Nat.zero_add,cont,show ∀(b:UInt8) (t:List UInt8),byt (b::t) 1=byt t 0 from fun b t=>rfl,show ∀(b c:UInt8) (t:List UInt8),byt (b::c::t) 2=byt t 0 from fun b c t=>rfl,show ∀(b c e:UInt8) (t:List UInt8),byt (b::c::e::t) 3=byt t 0 from fun b c e t=>rfl,byt_of (128+r / 4096%64) (by omega) _,byt_of (128+r / 64%64) (by omega) _,byt_of (128+r%64) (by omega) t]
    rw [if_pos (by simp [isRune];omega)]
    simp only [List.length_cons,List.length_nil,Prod.mk.injEq]
    exact ⟨by omega,trivial⟩
open Go.Proofs
theorem cont_ext {a b:List UInt8} {i j:Nat} (h:byt a i=byt b j):cont a i=cont b j:=by unfold cont;rw [h]
theorem rv_ext {a b:List UInt8} {i j:Nat} (r0:Nat): ∀n,(∀q,1≤q→q≤n→byt a (i+q)=byt b (j+q))→rv a i r0 n=rv b j r0 n
 |0,_=>rfl
 |n+1,h=>by
  have e:=rv_ext r0 n (fun q h1 h2=>h q h1 (by omega))
  have f:=h (n+1) (by omega) (Nat.le_refl _)
  show 64*rv a i r0 n+(byt a (i+(n+1)) - 128)=64*rv b j r0 n+(byt b (j+(n+1)) - 128)
  rw [e,f]
theorem conts_ext {a b:List UInt8} {i j:Nat}: ∀n,(∀q,1≤q→q≤n→byt a (i+q)=byt b (j+q))→conts a i n=conts b j n
 |0,_=>rfl
 |n+1,h=>by
  have e:=conts_ext n (fun q h1 h2=>h q h1 (by omega))
  have f:=cont_ext (h (n+1) (by omega) (Nat.le_refl _))
  show (conts a i n&&cont a (i+(n+1)))=(conts b j n&&cont b (j+(n+1)))
  rw [e,f]
theorem conts_false {a:List UInt8} {i:Nat} (q:Nat) (h1:1≤q) (h2:cont a (i+q)=false): ∀n,q≤n→conts a i n=false
 |0,h=>by omega
 |n+1,h=>by
  rw [conts]
  by_cases c:q=n+1
  ·rw [←c,h2,Bool.and_false]
  ·rw [conts_false q h1 h2 n (by omega),Bool.false_and]
theorem stepF_to {a b:List UInt8} {i j m:Nat} (h: ∀q,q≤m→byt a (i+q)=byt b (j+q)) (hm:1≤m) (h0:byt b (j+m)<128) (n r0 l:Nat):stepF a i n r0 l=stepF b j n r0 l:=by
 unfold stepF
 by_cases c:n<m
 ·rw [conts_ext (a:=a) (b:=b) (i:=i) (j:=j) n (fun q _ h2=>h q (by omega)),rv_ext (a:=a) (b:=b) (i:=i) (j:=j) r0 n (fun q _ h2=>h q (by omega))]
 ·have c1:cont b (j+m)=false:=by unfold cont;exact decide_eq_false (by omega)
  have c2:cont a (i+m)=false:=by rw [cont_ext (h m (Nat.le_refl _))];exact c1
  rw [conts_false m hm c2 n (by omega),conts_false m hm c1 n (by omega)]
  rfl
theorem stepR_to {a b:List UInt8} {i j m:Nat} (h: ∀q,q≤m→byt a (i+q)=byt b (j+q)) (h0:byt b (j+m)<128):stepR a i=stepR b j:=by
 have e:=h 0 (Nat.zero_le _)
 rw [Nat.add_zero,Nat.add_zero] at e
 unfold stepR
 simp only [e]
 by_cases c:m=0
 ·subst c
  rw [Nat.add_zero] at h0
  rw [if_pos h0,if_pos h0]
 ·simp only [stepF_to h (by omega) h0]
theorem stepR_ext {a b:List UInt8} {i j:Nat} (h: ∀q,byt a (i+q)=byt b (j+q)):stepR a i=stepR b j:=by
 have e:=h 0
 rw [Nat.add_zero,Nat.add_zero] at e
 have f: ∀n r0 l,stepF a i n r0 l=stepF b j n r0 l:=fun n r0 l=>by
  unfold stepF
  rw [conts_ext (a:=a) (b:=b) (i:=i) (j:=j) n (fun q _ _=>h q),rv_ext (a:=a) (b:=b) (i:=i) (j:=j) r0 n (fun q _ _=>h q)]
 unfold stepR
 simp only [e,f]
theorem byt_app (a b:List UInt8) (q:Nat):byt (a++b) (a.length+q)=byt b q:=by
 unfold byt
 rw [List.getElem?_append_right (by omega),show a.length+q - a.length=q by omega]
theorem runesL_app (a b:List UInt8): ∀(n q:Nat),b.length - q≤n→runesL (a++b) (a.length+q)=runesL b q
 |n,q,h=>by
  by_cases g:q<b.length
  ·have g2:a.length+q<(a++b).length:=by rw [List.length_append];omega
   have e:stepR (a++b) (a.length+q)=stepR b q:=stepR_ext (fun z=>by rw [Nat.add_assoc];exact byt_app a b (q+z))
   have p:=stepR_pos b q
   rw [runesL_in g,runesL_in g2,e,Nat.add_assoc]
   cases n with
   |zero=>omega
   |succ n=>rw [runesL_app a b n (q+(stepR b q).2) (by omega)]
  ·rw [runesL_out g,runesL_out (by rw [List.length_append];omega)]
theorem encR_step {r:Int} (h:okR r) (t:List UInt8):stepR (encR r++t) 0=(r,(encR r).length):=by
 rcases h with rfl|⟨h1,h2,h3⟩
 ·have e:encR (-1)=[255]:=rfl
  rw [e]
  simp only [List.cons_append,List.nil_append]
  unfold stepR
  simp only [show byt (255::t) 0=255 from rfl]
  rw [if_neg (by omega),if_neg (by omega),if_neg (by omega),if_neg (by omega)]
  rfl
 ·have e:encR r=encN r.toNat:=if_neg (by omega)
  have hz:((r.toNat:Nat):Int)=r:=by omega
  rw [e,dec_enc r.toNat (by omega) (by omega) t,hz]
theorem encR_pos (r:Int):1≤(encR r).length:=by
 unfold encR
 split
 ·simp
 ·exact (encN_len _).2
theorem runesL_textR: ∀l:List Int,(∀r∈l,okR r)→runesL (textR l) 0=l
 |[],_=>by rw [textR,runesL_out (by simp)]
 |r::l,h=>by
  have p:=encR_pos r
  rw [textR,runesL_in (by rw [List.length_append];omega),encR_step (h r (by simp))]
  simp only
  rw [Nat.zero_add,show (encR r).length=(encR r).length+0 from rfl,runesL_app (encR r) (textR l) (textR l).length 0 (by omega),runesL_textR l (fun x hx=>h x (by simp [hx]))]
def Wk (s:List UInt8):Nat→List Int→Nat→Prop
 |i,[],j=>i=j
 |i,r::m,j=>i<s.length∧(stepR s i).1=r∧Wk s (i+(stepR s i).2) m j
theorem Wk_snoc (s:List UInt8): ∀(m:List Int) (i j:Nat),Wk s i m j→j<s.length→Wk s i (m++[(stepR s j).1]) (j+(stepR s j).2)
 |[],i,j,h,hj=>by
  cases h
  exact ⟨hj,rfl,rfl⟩
 |r::m,i,j,h,hj=>⟨h.1,h.2.1,Wk_snoc s m _ j h.2.2 hj⟩
theorem Wk_le (s:List UInt8): ∀(m:List Int) (i j:Nat),Wk s i m j→i≤j
 |[],i,j,h=>Nat.le_of_eq h
 |r::m,i,j,h=>by
  have:=Wk_le s m _ j h.2.2
  omega
theorem byt_take {s:List UInt8} {j q:Nat} (h:q<j):byt (s.take j) q=byt s q:=by
 unfold byt
 rw [List.getElem?_take,if_pos h]
theorem byt_drop (s:List UInt8) (i q:Nat):byt (s.drop i) q=byt s (i+q):=by
 unfold byt
 rw [List.getElem?_drop]
theorem Wk_sub (s:List UInt8) (i0 e:Nat) (he:e<s.length) (h0:byt s e<128): ∀(m:List Int) (i:Nat),i0≤i→Wk s i m (e+1)→runesL ((s.take (e+1)).drop i0) (i - i0)=m
 |[],i,hi,h=>by
  rw [runesL_out]
  have:i=e+1:=h
  rw [List.length_drop,List.length_take]
  omega
 |r::m,i,hi,h=>by
  have hle:=Wk_le s m _ _ h.2.2
  have hp:=stepR_pos s i
  have g:i - i0<((s.take (e+1)).drop i0).length:=by rw [List.length_drop,List.length_take];omega
  have es:stepR ((s.take (e+1)).drop i0) (i - i0)=stepR s i:=by
   refine stepR_to (m:=e - i) (fun q hq=>?_) ?_
   ·rw [byt_drop,byt_take (by omega),show i0+(i - i0+q)=i+q by omega]
   ·rw [show i+(e - i)=e by omega];exact h0
  rw [runesL_in g,es,h.2.1,show i - i0+(stepR s i).2=(i+(stepR s i).2) - i0 by omega,Wk_sub s i0 e he h0 m _ (by omega) h.2.2]
theorem Wk_text (s:List UInt8): ∀(m:List Int) (i j:Nat),j≤s.length→Wk s i m j→(∀r∈m,r≠ -1)→(s.take j).drop i=textR m
 |[],i,j,hj,h,_=>by
  have:i=j:=h
  subst this
  rw [textR,List.drop_eq_nil_of_le (by rw [List.length_take];omega)]
 |r::m,i,j,hj,h,hr=>by
  have hle:=Wk_le s m _ _ h.2.2
  have ih:=Wk_text s m _ j hj h.2.2 (fun x hx=>hr x (by simp [hx]))
  have h1:=h.2.1
  have hne:(stepR s i).1≠ -1:=by rw [h1];exact hr r (by simp)
  have en:=enc_step s i h.1 hne
  have ok:=stepR_okR s i
  have er:encR r=encN (stepR s i).1.toNat:=by
   rw [←h1]
   unfold encR
   rw [if_neg]
   rcases ok with h|h
   ·exact absurd h hne
   ·omega
  rw [textR,er,en,←ih]
  have:(s.take j).drop i=((s.drop i).take (stepR s i).2)++(s.take j).drop (i+(stepR s i).2):=by
   rw [←List.drop_drop,List.drop_take,show List.take (stepR s i).2 (List.drop i s)=List.take (stepR s i).2 (List.take (j - i) (List.drop i s)) by rw [List.take_take,Nat.min_eq_left (by omega)],List.take_append_drop]
  exact this
end Go.Ai
