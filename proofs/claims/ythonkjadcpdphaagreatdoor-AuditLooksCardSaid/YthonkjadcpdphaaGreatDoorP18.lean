/- P18: a part of the proof: the rules, or what functions compute. Conditions: as each theorem says. -/
import Derived.Test.YthonkjadcpdphaaGreatDoorP17
import Derived.Lib.Bytealg
import Derived.Test.YthonkjadcpdphaaGreatDoorP6
import Derived.Test.YthonkjadcpdphaaGreatDoorP1
import Derived.Test.YthonkjadcpdphaaGreatDoorAiShelf
import Derived.Test.YthonkjadcpdphaaGreatDoorAiShelf2
import Derived.Test.YthonkjadcpdphaaGreatDoorP9
set_option linter.unusedSimpArgs false
set_option linter.unusedVariables false
set_option maxRecDepth 20000
namespace Go.Ai
open Go.Proofs
end Go.Ai
namespace Go.Ai
open Go.Proofs Go.Shelf
theorem extraJ:Builder.Extra Tryz.prog ren_laysJoin where
 sizeBuilder:=by kernel_rfl
 liesBuilder:=by kernel_rfl
 t5:=Tryz.underlying5
 a5:=Tryz.isAgg5
 z5:=Tryz.sizeOf5
 v5:=Tryz.zeroValue5
 infoByte:=by kernel_rfl
 cellsByte:=by kernel_rfl
 sizeByte:=by kernel_rfl
 neB5:=by decide
theorem join_spec (xs:List (List UInt8)) (sep:List UInt8) (hN:xs.length≤140737488355328) (hlen:(Lib.join xs sep).length≤140737488355328):Sp Tryz.prog gl 155 [.sl (strRows xs),.str sep] (.str (Lib.join xs sep)):=
 join_shelf laysJoin extraJ (by kernel_rfl) (by kernel_rfl) xs sep hN hlen
end Go.Ai
namespace Go.Ai
open Go.Proofs Go.RowKit
theorem either_spec (b:Bool) (x y:List UInt8):Sp Tryz.prog gl 156 [.bool b,.str x,.str y] (.str (if b=true then x else y)):=by
 refine s156 rfl rfl ?_
 cases b
 ·simp [c156]
 ·simp [c156]
end Go.Ai
namespace Go.Ai
open Go.Proofs Go.Shelf Go.RowKit Go.Sort Go.Lib
theorem holds_zero0 (w:World) (T:TypeId) (nd:Nat) (hs:nd≤24):Holds (fun (b:UInt8)=>Value.int .u8 (b.toNat:Int)) (w.alloc (.cells Lib.zeros24 T)) w.heap.size 0 (Array.replicate nd (0:UInt8)):=fun j hj=>by
 have hj':j<nd:=by simpa using hj
 refine ⟨?_,World.frozen?_alloc_new _ _ _ _⟩
 rw [World.cell?_alloc_new,zeros24_at _ (by omega),getElem!_pos _ j hj]
 simp
theorem below_grow (w:World) (os:Array Obj) (k:Nat):Below w.heap.size w ((grow w os).drewN k):=by
 refine ⟨rfl,rfl,rfl,?_,fun i hi=>?_⟩
 ·show w.heap.size≤(w.heap++os).size
  simp
 ·show (w.heap++os)[i]?=w.heap[i]?
  exact Array.getElem?_append_left hi
set_option maxHeartbeats 6400000 in
set_option maxRecDepth 100000 in
theorem fmtUint_calls (u:Nat) (hu1:100≤u) (hu64:u<18446744073709551616) (w:World) (htab: ∀q,q<20→w.cell? ⟨2,q,none⟩=some (.int .u64 ((10^q:Nat):Int))):
  Calls Tryz.prog 131 #[.int .u64 u,.int .i64 10] w fun e w'=>e= .returned (.string ⟨(Lib.decDigits u).toArray⟩)∧Below w.heap.size w w':=by
 have hnd20:Lib.nDigits u≤20:=by have:=Lib.numDigits_eq u (by omega) hu64;split at this<;>omega
 have hal:Tryz.prog.arrayLen 233=24:=by kernel_rfl
 have hsl: ∀W,(Instr.sliceAt 233 (.pointer (some ⟨w.heap.size,0,none⟩)) none (some (.int .i64 (Lib.nDigits u:Int))) none).run Tryz.prog W= .ok (.slice (some ⟨w.heap.size,0,none⟩) (Lib.nDigits u) 24) W:=fun W=>by
  rw [run_sliceAt_array_h W 233 ⟨w.heap.size,0,none⟩ (by kernel_rfl) .i64 (Lib.nDigits u:Int) (by omega) (by rw [hal];omega)]
  go_simp
 have hH0:=holds_zero0 w 233 (Lib.nDigits u) (by omega)
 have hfmt:=Any.internal_strconv_formatBase10 laysFmt w.heap.size 0 24 u (Array.replicate (Lib.nDigits u) 0) (w.alloc (.cells Lib.zeros24 233)) hH0 (by rw [Array.size_replicate];exact Lib.lt_pow_nDigits u) hu64 (by rw [Array.size_replicate];omega)
 rw [Array.size_replicate] at hfmt
 have HH0:=Lib.hid hH0
 clear hH0 hal
 have hnd:Calls Tryz.prog 188 #[.int .u64 u] (w.alloc (.cells Lib.zeros24 233)) fun e w'=>e= .returned (.int .i64 (Lib.nDigits u))∧w'=(w.alloc (.cells Lib.zeros24 233)):=
  numDigits_cells laysDig u (by omega) hu64 _ (fun q hq=>by
   have h1:=htab q hq
   have h2:=World.block_lt_of_cell? w _ h1
   exact (World.cell?_alloc_lt w _ _ h2).trans h1)
 go_enter Tryz.func131,Tryz.ntmps131
 go_wp2_with (first
  |(go_at_call 188;refine hnd.mono ?_;rintro e w' ⟨rfl,rfl⟩))
 go_at_call 189
 refine hfmt.mono ?_
 rintro e w' ⟨rfl,k,v',dk,rfl,hF⟩
 have hcv:(convert 47 9 (.slice (some ⟨w.heap.size,0,none⟩) (Lib.nDigits u) 24)).run Tryz.prog ((putRow (fun (b:UInt8)=>Value.int .u8 (b.toNat:Int)) (w.alloc (.cells Lib.zeros24 233)) w.heap.size 0 dk).drewN k)= .ok (.string ⟨(Lib.decDigits u).toArray⟩) ((putRow (fun (b:UInt8)=>Value.int .u8 (b.toNat:Int)) (w.alloc (.cells Lib.zeros24 233)) w.heap.size 0 dk).drewN k):=by
  have h:=run_convert_bytes_back (P:=Tryz.prog) ((putRow (fun (b:UInt8)=>Value.int .u8 (b.toNat:Int)) (w.alloc (.cells Lib.zeros24 233)) w.heap.size 0 dk).drewN k) 47 9 5 ⟨w.heap.size,0,none⟩ 24 (Lib.decDigits u) Tryz.underlying47 Tryz.underlying5 Tryz.underlying9 (fun j hj=>by
   rw [Lib.row_is_numeral hF j hj,Lib.add_plain,World.cell?_drewN]
   exact cell?_putRow (fun (b:UInt8)=>Value.int .u8 (b.toNat:Int)) _ w.heap.size 0 _ dk HH0.out (by rw [hF.size,Array.size_replicate]) j (by rw [hF.size];rw [Lib.decDigits_length] at hj;exact hj))
  rw [Lib.decDigits_length] at h
  exact h
 go_wp2
 go_ret
 refine ⟨rfl,?_⟩
 rw [alloc_eq_grow]
 obtain ⟨os',_,eg⟩:=putRow_grow_new (fun (b:UInt8)=>Value.int .u8 (b.toNat:Int)) w #[.cells Lib.zeros24 233] w.heap.size 0 dk (Nat.le_refl _)
 rw [eg]
 exact below_grow w os' k

theorem small_spec (n:Nat) (h:n<100):Sp Tryz.prog gl 187 [i6 n] (.str (Lib.decDigits n)):=by
 refine shelf_spec Tryz.func187 (by kernel_rfl) (by kernel_rfl) ?_
 intro S gb w vs hvs hag
 simp only [PRlist,PR] at hvs
 obtain ⟨_,_,rfl,rfl,rfl⟩:=hvs
 exact (Any.internal_strconv_small laysSmall n h w).mono fun e w' ⟨he,hw⟩=>⟨_,he,hw▸Below.refl _ _,by simp [PR]⟩
theorem tab_gl:List.lookup 2 gl=some ((List.range 20).map fun q=>Value.int .u64 ((10^q:Nat):Int)):=by kernel_rfl
theorem tab_cells {w:World} (h: ∀i us,List.lookup i gl=some us→ ∀(o:Nat) (u:Value),us[o]?=some u→w.cell? ⟨i,o,none⟩=some u) (q:Nat) (hq:q<20):w.cell? ⟨2,q,none⟩=some (.int .u64 ((10^q:Nat):Int)):=
 h 2 _ tab_gl q _ (by simp [hq])
theorem ifmt_spec (n:Nat) (h:n<18446744073709551616):Sp Tryz.prog gl 131 [u n,i6 10] (.str (Lib.decDigits n)):=by
 by_cases g:n<100
 ·refine s131 rfl rfl ?_
  have S:=small_spec n g
  generalize Lib.decDigits n=R at *
  have t1:IntKind.i64.wrap (n:Int)=n:=by rw [wrap_i64]<;>omega
  have g':(n:Int)<100:=by omega
  simp -implicitDefEqProofs [c131,t1,g,g']
  refine onC_mk _ S ?_
  simp -implicitDefEqProofs
 ·refine shelf_specG Tryz.func131 (by kernel_rfl) (by kernel_rfl) ?_
  intro S gb w vs hvs hag hgl
  simp only [PRlist,PR] at hvs
  obtain ⟨_,_,rfl,rfl,_,_,rfl,rfl,rfl⟩:=hvs
  exact (fmtUint_calls n (by omega) h w (tab_cells hgl)).mono fun e w' ⟨he,hw⟩=>⟨_,he,hw,by simp [PR]⟩
theorem fmt_spec (n:Nat) (h:n<18446744073709551616):Sp Tryz.prog gl 74 [u n,i6 10] (.str (Lib.decDigits n)):=by
 refine s74 rfl rfl ?_
 have S:=ifmt_spec n h
 generalize Lib.decDigits n=R at *
 simp -implicitDefEqProofs [c74]
 refine onC_mk _ S ?_
 simp -implicitDefEqProofs
end Go.Ai
namespace Go.Ai
open Go.Proofs Go.RowKit
theorem ite_le {α:Type} {a b:Nat} {x y:α} (h:a≤b):(if a≤b then x else y)=x:=if_pos h
theorem join5 (a b c d e:List UInt8):Lib.join [a,b,c,d,e] [47]=jn [a,b,c,d,e]:=by
 rw [Lib.join_cons,jn5]
 simp [Lib.joinTail]
theorem kprint_spec (k:Ky) (hg:k.g.length≤4000) (hr:k.r.length≤4000):Sp Tryz.prog gl 92 [.agg k.row] (.str (printK k)):=by
 refine s92 rfl rfl ?_
 have R:=kright_spec k (by omega) (by omega)
 cases h:rightK k
 ·rw [h] at R
  have e:printK k=[63]:=by unfold printK;rw [h];rfl
  rw [e]
  rw [krow] at R ⊢
  clear e h
  obtain ⟨g,r,p,e,f⟩:=k
  simp only at *
  simp -implicitDefEqProofs [c92]
  refine onC_mk _ R ?_
  simp -implicitDefEqProofs
 ·rw [h] at R
  have E1:=either_spec k.p [112,97,103,101] [116,105,99,107,101,116]
  have E2:=either_spec k.f [114,101,115,111,108,118,101] [102,105,114,101]
  have F:=fmt_spec k.e (by have:=right_e h;omega)
  rw [decDigits_eq] at F
  have hd:=dec_len 19 k.e (by have:=right_e h;omega)
  have e:printK k=Lib.join [k.g,k.r,pageW k.p,dec k.e,fireW k.f] [47]:=by unfold printK;rw [if_pos h,join5]
  have hlen:=print_len ⟨[],[],k.p,k.e,k.f⟩ (by simp) (by simp)
  have J:=join_spec [k.g,k.r,pageW k.p,dec k.e,fireW k.f] [47] (by simp) (by
   rw [join5,jn5]
   have hp:(pageW k.p).length≤6:=by cases k.p<;>decide
   have hf:(fireW k.f).length≤7:=by cases k.f<;>decide
   simp only [List.length_append,List.length_cons]
   omega)
  rw [e]
  rw [show (if k.p=true then [112,97,103,101] else [116,105,99,107,101,116])=pageW k.p from rfl] at E1
  rw [show (if k.f=true then [114,101,115,111,108,118,101] else [102,105,114,101])=fireW k.f from rfl] at E2
  clear e h hd hlen
  rw [krow] at R ⊢
  obtain ⟨g,r,p,e,f⟩:=k
  simp only at *
  generalize Lib.join [g,r,pageW p,dec e,fireW f] [47]=out at *
  simp only [strRows,List.map_cons,List.map_nil] at J
  generalize dec e=de at *
  generalize pageW p=pw at *
  generalize fireW f=fw at *
  simp -implicitDefEqProofs [c92]
  refine onC_mk _ R ?_
  simp -implicitDefEqProofs
  refine onC_mk _ E1 ?_
  simp -implicitDefEqProofs
  refine onC_mk _ F ?_
  simp -implicitDefEqProofs
  refine onC_mk _ E2 ?_
  simp -implicitDefEqProofs
  refine onC_mk _ J ?_
  simp -implicitDefEqProofs
theorem digits13_spec (n:Nat) (h:n<18446744073709551616):Sp Tryz.prog gl 60 [u n] (.str (dec n)):=by
 refine s60 rfl rfl ?_
 have B:=bits_spec n (by omega)
 have D:=digits_spec (bitsOf n 128) (by simp [bitsOf])
 rw [bitsOf_val128 n (by omega)] at D
 rw [show wide n= .agg [u 0,u n] by unfold wide;rw [Nat.div_eq_of_lt h,Nat.mod_eq_of_lt h]] at B
 unfold bl at B D
 generalize dec n=out at *
 generalize List.map (fun b=>[AV.bool b]) (bitsOf n 128)=bs at *
 simp -implicitDefEqProofs [c60]
 refine onC_mk _ B ?_
 simp -implicitDefEqProofs
 refine onC_mk _ D ?_
 simp -implicitDefEqProofs
theorem rprint_spec (k:Ky) (hg:k.g.length≤4000) (hr:k.r.length≤4000):Sp Tryz.prog gl 47 [.agg k.row] (.str (printK k)):=by
 refine s47 rfl rfl ?_
 have R:=rkright_spec k (by omega) (by omega)
 cases h:rightK k
 ·rw [h] at R
  have e:printK k=[63]:=by unfold printK;rw [h];rfl
  rw [e]
  rw [krow] at R ⊢
  clear e h
  obtain ⟨g,r,p,e,f⟩:=k
  simp only at *
  simp -implicitDefEqProofs [c47]
  refine onC_mk _ R ?_
  simp -implicitDefEqProofs
 ·rw [h] at R
  have D:=digits13_spec k.e (by have:=right_e h;omega)
  have hd:=dec_len 19 k.e (by have:=right_e h;omega)
  have e:printK k=k.g++47::(k.r++47::(pageW k.p++47::(dec k.e++47::fireW k.f))):=by unfold printK;rw [if_pos h,jn5]
  rw [e]
  clear e h
  rw [krow] at R ⊢
  obtain ⟨g,r,p,e,f⟩:=k
  simp only at *
  generalize dec e=de at *
  cases p
  ·cases f
   ·simp [c47]
    refine onC_mk _ R ?_
    simp -implicitDefEqProofs
    rw [ite_le (by omega)]
    simp -implicitDefEqProofs
    rw [ite_le (by omega)]
    simp -implicitDefEqProofs
    rw [ite_le (by omega)]
    simp -implicitDefEqProofs
    refine onC_mk _ D ?_
    simp -implicitDefEqProofs
    rw [ite_le (by omega)]
    simp -implicitDefEqProofs
    rw [ite_le (by omega)]
    simp -implicitDefEqProofs [pageW,fireW]
   ·simp [c47]
    refine onC_mk _ R ?_
    simp -implicitDefEqProofs
    rw [ite_le (by omega)]
    simp -implicitDefEqProofs
    rw [ite_le (by omega)]
    simp -implicitDefEqProofs
    rw [ite_le (by omega)]
    simp -implicitDefEqProofs
    refine onC_mk _ D ?_
    simp -implicitDefEqProofs
    rw [ite_le (by omega)]
    simp -implicitDefEqProofs
    rw [ite_le (by omega)]
    simp -implicitDefEqProofs [pageW,fireW]
  ·cases f
   ·simp [c47]
    refine onC_mk _ R ?_
    simp -implicitDefEqProofs
    rw [ite_le (by omega)]
    simp -implicitDefEqProofs
    rw [ite_le (by omega)]
    simp -implicitDefEqProofs
    rw [ite_le (by omega)]
    simp -implicitDefEqProofs
    refine onC_mk _ D ?_
    simp -implicitDefEqProofs
    rw [ite_le (by omega)]
    simp -implicitDefEqProofs
    rw [ite_le (by omega)]
    simp -implicitDefEqProofs [pageW,fireW]
   ·simp [c47]
    refine onC_mk _ R ?_
    simp -implicitDefEqProofs
    rw [ite_le (by omega)]
    simp -implicitDefEqProofs
    rw [ite_le (by omega)]
    simp -implicitDefEqProofs
    rw [ite_le (by omega)]
    simp -implicitDefEqProofs
    refine onC_mk _ D ?_
    simp -implicitDefEqProofs
    rw [ite_le (by omega)]
    simp -implicitDefEqProofs
    rw [ite_le (by omega)]
    simp -implicitDefEqProofs [pageW,fireW]
open Go.Proofs
def patP (s:List UInt8):Bool:=decide (s≠[])&&(goodR (runesL s 0)&&decide ((runesL s 0).length≤40))
def siP (x:Si):Bool:=
 (decide (x.wh=0)||(decide (x.wh=1)||decide (x.wh=2)))&&(nameT x.n&&(patP x.g&&(decide (0≤x.fr)&&(decide (x.fr<x.tl)&&decide (x.tl≤253402300799)))))
theorem runes_nil (s:List UInt8):runesL s 0=[]↔s=[]:=by
 constructor
 ·intro h
  by_cases g:0<s.length
  ·rw [runesL_in g] at h;exact absurd h (by simp)
  ·exact List.length_eq_zero_iff.1 (by omega)
 ·intro h;subst h;exact runesL_out (by simp)
theorem gright_spec (s:List UInt8) (hl:s.length≤900000):Sp Tryz.prog gl 94 [.str s] (.bool (patP s)):=by
 refine s94 rfl rfl ?_
 obtain ⟨R,hR⟩: ∃R,R=patP s:=⟨_,rfl⟩
 rw [←hR]
 unfold patP at hR
 have G:=tgood_spec s hl
 have C:=tcount_spec s hl
 generalize goodR (runesL s 0)=g at *
 generalize (runesL s 0).length=n at *
 cases s with
 |nil=>
  simp at hR
  subst hR
  simp -implicitDefEqProofs [c94]
 |cons a r=>
  have h:a::r≠[]:=by simp
  simp only [decide_eq_true h,Bool.true_and] at hR
  cases g
  ·simp at hR
   subst hR
   simp -implicitDefEqProofs [c94]
   refine onC_mk _ (G) ?_
   simp -implicitDefEqProofs
  ·simp only [Bool.true_and] at hR
   subst hR
   simp -implicitDefEqProofs [c94]
   refine onC_mk _ (G) ?_
   simp -implicitDefEqProofs
   refine onC_mk _ (C) ?_
   simp -implicitDefEqProofs
   omega
theorem rright26_spec (s:List UInt8) (hl:s.length≤900000):Sp Tryz.prog gl 104 [.str s] (.bool (patP s)):=by
 refine s104 rfl rfl ?_
 obtain ⟨R,hR⟩: ∃R,R=patP s:=⟨_,rfl⟩
 rw [←hR]
 unfold patP at hR
 have RS:=runes_spec s hl
 have G:=rgood_spec s hl
 have rn:=runes_nil s
 generalize goodR (runesL s 0)=g at *
 have e1:(runeRows (runesL s 0)).length=(runesL s 0).length:=by simp [runeRows]
 generalize hrr:runeRows (runesL s 0)=L at *
 by_cases h:s=[]
 ·subst h
  have h0:(runesL [] 0)=[]:=rn.2 rfl
  rw [h0] at e1 hR
  simp at hR e1
  subst hR
  subst e1
  simp -implicitDefEqProofs [c104]
  refine onC_mk _ (RS) ?_
  simp -implicitDefEqProofs
 ·have h0:0<(runesL s 0).length:=List.length_pos_iff.2 (fun e=>h (rn.1 e))
  simp only [decide_eq_true h,ne_eq,Bool.true_and] at hR
  generalize (runesL s 0).length=n at *
  have h1:(1:Int)≤n:=by omega
  by_cases h40:n≤40
  ·have h41:(n:Int)≤40:=by omega
   simp only [decide_eq_true h40,Bool.and_true] at hR
   subst hR
   simp -implicitDefEqProofs [c104]
   refine onC_mk _ (RS) ?_
   simp -implicitDefEqProofs [e1,h1,h41]
   refine onC_mk _ (G) ?_
   simp -implicitDefEqProofs
  ·have h41: ¬(n:Int)≤40:=by omega
   simp only [decide_eq_false h40,Bool.and_false] at hR
   subst hR
   simp -implicitDefEqProofs [c104]
   refine onC_mk _ (RS) ?_
   simp -implicitDefEqProofs [e1,h1,h41]
theorem who_cases (p:Int):p=0∨p=1∨p=2∨(p≠0∧p≠1∧p≠2):=by omega
theorem hright_tail (nm gl0:List UInt8) (wh fr tl0:Int) (hn:nm.length≤900000) (hg:gl0.length≤900000) (w:Bool) (E:List (Nat×AV)) (bx:List (Id×List AV)) (pm:List (Pl×Nat))
  (e1:lk E 1= .ptr (.n 1) 0) (e3:lk E 3= .bool w) (hb:lkB bx (.n 1)=some [.str nm,.str gl0,i6 wh,i6 fr,i6 tl0]):
  wpA (SpH Tryz.prog gl) (AC.tl 2 c36) (postA [.t 2] (.bool (w&&(nameT nm&&(patP gl0&&(decide (0≤fr)&&(decide (fr<tl0)&&decide (tl0≤253402300799)))))))) ⟨E,bx,pm⟩:=by
 simp only [c36,AC.tl]
 have N:=tname_spec nm hn
 have G:=gright_spec gl0 hg
 generalize nameT nm=n at *
 generalize patP gl0=g at *
 cases w
 ·simp [e1,e3,hb]
 ·cases n
  ·simp [e1,e3,hb]
   refine onC_mk _ (N) ?_
   simp -implicitDefEqProofs
  ·cases g
   ·simp [e1,e3,hb]
    refine onC_mk _ (N) ?_
    simp -implicitDefEqProofs [e1,hb]
    refine onC_mk _ (G) ?_
    simp -implicitDefEqProofs
   ·by_cases h1:0≤fr
    ·by_cases h2:fr<tl0
     ·simp [e1,e3,hb]
      refine onC_mk _ (N) ?_
      simp -implicitDefEqProofs [e1,hb]
      refine onC_mk _ (G) ?_
      simp -implicitDefEqProofs [e1,hb,h1,h2]
     ·simp [e1,e3,hb]
      refine onC_mk _ (N) ?_
      simp -implicitDefEqProofs [e1,hb]
      refine onC_mk _ (G) ?_
      simp -implicitDefEqProofs [e1,hb,h1,h2]
    ·simp [e1,e3,hb]
     refine onC_mk _ (N) ?_
     simp -implicitDefEqProofs [e1,hb]
     refine onC_mk _ (G) ?_
     simp -implicitDefEqProofs [e1,hb,h1]
theorem hright_spec (x:Si) (hn:x.n.length≤900000) (hg:x.g.length≤900000):Sp Tryz.prog gl 36 [.agg x.row] (.bool (siP x)):=by
 refine s36 rfl rfl ?_
 obtain ⟨nm,gl0,wh,fr,tl0⟩:=x
 have tail:=hright_tail nm gl0 wh fr tl0 hn hg
 have ec:c36=AC.cutAt 2 (AC.tl 2 c36) c36:=rfl
 rw [ec]
 unfold siP
 simp only
 generalize (nameT nm&&(patP gl0&&(decide (0≤fr)&&(decide (fr<tl0)&&decide (tl0≤253402300799)))))=T at *
 generalize AC.tl 2 c36=t at tail ⊢
 simp only [c36,AC.cutAt,Si.row]
 rcases who_cases wh with rfl|rfl|rfl|⟨p0,p1,p2⟩
 ·simp
  refine tail true _ _ _ ?_ ?_ ?_<;>simp -implicitDefEqProofs
 ·simp
  refine tail true _ _ _ ?_ ?_ ?_<;>simp -implicitDefEqProofs
 ·simp
  refine tail true _ _ _ ?_ ?_ ?_<;>simp -implicitDefEqProofs
 ·have q0:(wh==0)=false:=by rw [beq_eq_false_iff_ne];exact p0
  have q1:(wh==1)=false:=by rw [beq_eq_false_iff_ne];exact p1
  have q2:(wh==2)=false:=by rw [beq_eq_false_iff_ne];exact p2
  simp -implicitDefEqProofs [q0,q1,q2,p0,p1,p2]
  refine tail false _ _ _ ?_ ?_ ?_<;>simp -implicitDefEqProofs [q0,q1,q2]
theorem rright27_spec (x:Si) (hn:x.n.length≤900000) (hg:x.g.length≤900000):Sp Tryz.prog gl 49 [.agg x.row] (.bool (siP x)):=by
 refine s49 rfl rfl ?_
 obtain ⟨nm,gl0,wh,fr,tl0⟩:=x
 obtain ⟨R,hR⟩: ∃R,R=siP ⟨nm,gl0,wh,fr,tl0⟩:=⟨_,rfl⟩
 rw [←hR]
 unfold siP at hR
 simp only at hR
 have N:=rname_spec nm hn
 have G:=rright26_spec gl0 hg
 generalize nameT nm=n at *
 generalize patP gl0=g at *
 have hwh:(decide (wh=0)||(decide (wh=1)||decide (wh=2)))=(decide (0≤wh)&&decide (wh≤2)):=by
  rw [Bool.eq_iff_iff];simp;omega
 rw [hwh] at hR
 clear hwh
 simp only [Si.row]
 cases n
 ·simp at hR
  subst hR
  simp -implicitDefEqProofs [c49]
  refine onC_mk _ (N) ?_
  simp -implicitDefEqProofs
 ·cases g
  ·simp at hR
   subst hR
   simp -implicitDefEqProofs [c49]
   refine onC_mk _ (N) ?_
   simp -implicitDefEqProofs
   refine onC_mk _ (G) ?_
   simp -implicitDefEqProofs
  ·simp only [Bool.true_and] at hR
   by_cases h1:0≤wh
   ·by_cases h2:wh≤2
    ·by_cases h3:0≤fr
     ·by_cases h4:fr<tl0
      ·simp only [decide_eq_true h1,decide_eq_true h2,decide_eq_true h3,decide_eq_true h4,Bool.true_and] at hR
       subst hR
       simp -implicitDefEqProofs [c49]
       refine onC_mk _ (N) ?_
       simp -implicitDefEqProofs
       refine onC_mk _ (G) ?_
       simp -implicitDefEqProofs [h1,h2,h3,h4]
      ·simp only [decide_eq_false h4,Bool.and_false,Bool.false_and] at hR
       subst hR
       simp -implicitDefEqProofs [c49]
       refine onC_mk _ (N) ?_
       simp -implicitDefEqProofs
       refine onC_mk _ (G) ?_
       simp -implicitDefEqProofs [h1,h2,h3,h4]
     ·simp only [decide_eq_false h3,Bool.and_false,Bool.false_and] at hR
      subst hR
      simp -implicitDefEqProofs [c49]
      refine onC_mk _ (N) ?_
      simp -implicitDefEqProofs
      refine onC_mk _ (G) ?_
      simp -implicitDefEqProofs [h1,h2,h3]
    ·simp only [decide_eq_false h2,Bool.and_false,Bool.false_and] at hR
     subst hR
     simp -implicitDefEqProofs [c49]
     refine onC_mk _ (N) ?_
     simp -implicitDefEqProofs
     refine onC_mk _ (G) ?_
     simp -implicitDefEqProofs [h1,h2]
   ·simp only [decide_eq_false h1,Bool.and_false,Bool.false_and] at hR
    subst hR
    simp -implicitDefEqProofs [c49]
    refine onC_mk _ (N) ?_
    simp -implicitDefEqProofs
    refine onC_mk _ (G) ?_
    simp -implicitDefEqProofs [h1]
end Go.Ai
