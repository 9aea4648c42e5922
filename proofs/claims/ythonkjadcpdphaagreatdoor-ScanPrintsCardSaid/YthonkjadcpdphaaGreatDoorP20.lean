/- P20: a part of the proof: the rules, or what functions compute. Conditions: as each theorem says. -/
import Derived.Test.YthonkjadcpdphaaGreatDoorP19
import Derived.Test.YthonkjadcpdphaaGreatDoorP17
import Derived.Test.YthonkjadcpdphaaGreatDoorP18
import Derived.Test.YthonkjadcpdphaaGreatDoorP6
import Derived.Test.YthonkjadcpdphaaGreatDoorP3
import Derived.Test.YthonkjadcpdphaaGreatDoorP13
set_option linter.unusedSimpArgs false
set_option linter.unusedVariables false
set_option maxRecDepth 20000
namespace Go.Ai
open Go.Proofs
open Go.Proofs
theorem dec_len20 (n:Nat) (h:n<18446744073709551616):(dec n).length≤20:=dec_len 19 n (by omega)
theorem frc_len (m:Nat): ∀(f x:Nat),(frc m f x).length≤f
 |0,x=>Nat.le_refl 0
 |f+1,x=>by
  rw [frc]
  split
  ·exact Nat.zero_le _
  ·rw [List.length_cons]
   have:=frc_len m f (x%m*10)
   omega
theorem tkP_len (x:Tk) (h:TkOk x) (hl:x.t.length≤500):(tkP x.k x.t x.n).length≤800:=by
 obtain ⟨k,s,n,ln,co⟩:=x
 obtain ⟨hk,hn,hr⟩:=h
 dsimp only at *
 unfold tkP
 rw [hr,if_neg (by decide)]
 by_cases c1:k=1
 ·rw [if_pos c1];omega
 rw [if_neg c1]
 by_cases c2:k=2
 ·rw [if_pos c2]
  subst c2
  obtain ⟨_,_,_,h3⟩:=tkP_quote s n hr
  have:=esL_len (runesL s 0)
  unfold quL
  rw [List.length_cons,List.length_append,List.length_singleton]
  omega
 rw [if_neg c2]
 by_cases c3:k=3
 ·rw [if_pos c3]
  have:=dec_len20 n hn
  omega
 rw [if_neg c3]
 by_cases c4:k=4
 ·rw [if_pos c4]
  unfold fcP
  have h1:=dec_len20 (n / 1000) (by omega)
  have h2:=frc_len 10 2 (n%1000%100)
  rw [List.length_append,List.length_cons,List.length_cons]
  omega
 rw [if_neg c4]
 by_cases c5:k=5
 ·rw [if_pos c5]
  unfold shP
  have h1:=dec_len20 (n / 10000) (by omega)
  have h2:=frc_len 1000 4 (n%10000)
  split
  ·simp
  ·rw [List.length_append,List.length_append,List.length_append,List.length_singleton]
   split
   ·rw [List.length_nil];omega
   ·rw [List.length_singleton];omega
 rw [if_neg c5]
 by_cases c6:k=6
 ·rw [if_pos c6]
  subst c6
  have h':((s==[])&&decide (n≤253402300799))=true:=hr
  rw [Bool.and_eq_true,decide_eq_true_iff] at h'
  unfold spP
  split
  ·simp
  ·have:=spG_len unL n h'.2
   have e:unL.length=5:=rfl
   omega
 rw [if_neg c6]
 repeat' split
 all_goals simp
theorem tkR_kinds {k:Int} {s:List UInt8} {n:Nat} (h:tkR k s n=true) (h0:k≠0):1≤k∧k≤9:=by
 by_cases c:1≤k∧k≤9
 ·exact c
 ·unfold tkR at h
  rw [if_neg (by omega),if_neg (by omega),if_neg (by omega),if_neg (by omega),if_neg (by omega),if_neg (by omega)] at h
  cases h
end Go.Ai
namespace Go.Ai
open Go.Proofs Go.Shelf
theorem fmtd_spec (n:Nat) (h:n<18446744073709551616):Sp Tryz.prog gl 74 [u n,i6 10] (.str (dec n)):=by
 have F:=fmt_spec n h
 rw [decDigits_eq] at F
 exact F
theorem sright03_spec (p:Nat):Sp Tryz.prog gl 133 [.int .u32 p] (.bool (decide (p≤1000000))):=by
 refine s133 rfl rfl ?_
 by_cases c:p≤1000000
 ·have c':(p:Int)≤1000000:=by omega
  simp -implicitDefEqProofs [c133,c,c']
 ·have c': ¬(p:Int)≤1000000:=by omega
  simp -implicitDefEqProofs [c133,c,c']
theorem dg4_len (b:Nat):(dg4 b).length=4:=rfl
theorem dg3_len (b:Nat):(dg3 b).length=3:=rfl
theorem sshare_spec (p:Nat) (hp:p≤1000000):Sp Tryz.prog gl 76 [.int .u32 p] (.str (shP p)):=by
 refine s76 rfl rfl ?_
 have RG:=sright03_spec p
 rw [decide_eq_true hp] at RG
 unfold shP
 rw [if_neg (by omega)]
 have I1:=itoa_spec (p / 10000) (by omega)
 have w1:IntKind.u32.wrap ((p:Int) / 10000)=((p / 10000:Nat):Int):=by rw [wrap_u32]<;>omega
 have w2:IntKind.i64.wrap ((p / 10000:Nat):Int)=((p / 10000:Nat):Int):=by rw [wrap_i64]<;>omega
 have w3:(p:Int).tmod 10000=((p%10000:Nat):Int):=rfl
 have w4:IntKind.u32.wrap ((p%10000:Nat):Int)=((p%10000:Nat):Int):=by rw [wrap_u32]<;>omega
 have w7:(p:Int).tdiv 10000=((p / 10000:Nat):Int):=rfl
 have w8:IntKind.u32.wrap ((p / 10000:Nat):Int)=((p / 10000:Nat):Int):=by rw [wrap_u32]<;>omega
 have w9:IntKind.u32.wrap ((p:Int)%10000)=((p%10000:Nat):Int):=by rw [wrap_u32]<;>omega
 have hdl:(dec (p / 10000)).length≤20:=dec_len 19 _ (by omega)
 have bq:p%10000<10000:=Nat.mod_lt _ (by decide)
 by_cases c0:p%10000=0
 ·rw [if_pos c0,c0]
  rw [c0] at w3 w4 w9
  rw [show frc 1000 4 0=[] from rfl]
  generalize dec (p / 10000)=hd at *
  generalize p / 10000=z at *
  have l1:hd.length≤9223372036854775806:=by omega
  simp -implicitDefEqProofs [c76]
  refine onC_mk _ (RG) ?_
  simp -implicitDefEqProofs [w1,w2,w3,w4,w7,w8,w9]
  refine onC_mk _ (I1) ?_
  simp -implicitDefEqProofs [w1,w2,w3,w4,w7,w8,w9,l1]
 ·rw [if_neg c0]
  have I2:=itoa_spec (10000+p%10000) (by omega)
  rw [dec_dg4 _ bq] at I2
  have TR:=trimR_spec (dg4 (p%10000)) (by rw [dg4_len];decide)
  rw [trim4 _ bq] at TR
  have fl:=frc_len 1000 4 (p%10000)
  have w5:IntKind.u32.wrap (10000+((p%10000:Nat):Int))=((10000+p%10000:Nat):Int):=by rw [wrap_u32]<;>omega
  have w6:IntKind.i64.wrap ((10000+p%10000:Nat):Int)=((10000+p%10000:Nat):Int):=by rw [wrap_i64]<;>omega
  have c1:(0:Int)<((p%10000:Nat):Int):=by omega
  have c2:0<p%10000:=by omega
  have dl:=dg4_len (p%10000)
  generalize dec (p / 10000)=hd at *
  generalize p / 10000=z at *
  generalize dg4 (p%10000)=D at *
  generalize frc 1000 4 (p%10000)=T at *
  generalize 10000+p%10000=y at *
  generalize p%10000=b at *
  have l1:hd.length≤9223372036854775806:=by omega
  have l2:T.length+1≤9223372036854775807:=by omega
  have l3:hd.length+(T.length+1)≤9223372036854775807:=by omega
  have l4:hd.length+(T.length+1)≤9223372036854775806:=by omega
  have l5:T.length≤9223372036854775806:=by omega
  have l7:1+T.length≤9223372036854775807:=by omega
  have l6:List.take 4 D=D:=by rw [←dl,List.take_length]
  simp -implicitDefEqProofs [c76]
  refine onC_mk _ (RG) ?_
  simp -implicitDefEqProofs [w1,w2,w3,w4,w7,w8,w9]
  refine onC_mk _ (I1) ?_
  simp -implicitDefEqProofs [w1,w2,w3,w4,w7,w8,w9,c1,c2,w5,w6]
  refine onC_mk _ (I2) ?_
  simp -implicitDefEqProofs [dl,l6]
  refine onC_mk _ (TR) ?_
  simp -implicitDefEqProofs [l1,l2,l3,l4,l5,l7]
theorem sthou_spec (n:Nat) (hn:n<18446744073709551616):Sp Tryz.prog gl 75 [u n] (.str (fcP n)):=by
 refine s75 rfl rfl ?_
 unfold fcP
 have bq:n%1000<1000:=Nat.mod_lt _ (by decide)
 have F1:=fmtd_spec (1000+n%1000) (by omega)
 have F2:=fmtd_spec (n / 1000) (by omega)
 rw [dec_dg3 _ bq] at F1
 have TR:=trimR_spec (dg3 (n%1000)) (by rw [dg3_len];decide)
 have t3:=trim3 _ bq
 have w1:(n:Int).tmod 1000=((n%1000:Nat):Int):=rfl
 have w2:IntKind.u64.wrap ((n%1000:Nat):Int)=((n%1000:Nat):Int):=by rw [wrap_u64]<;>omega
 have w3:IntKind.u64.wrap (1000+((n%1000:Nat):Int))=((1000+n%1000:Nat):Int):=by rw [wrap_u64]<;>omega
 have w4:IntKind.u64.wrap ((n:Int) / 1000)=((n / 1000:Nat):Int):=by rw [wrap_u64]<;>omega
 have w5:(n:Int).tdiv 1000=((n / 1000:Nat):Int):=rfl
 have w6:IntKind.u64.wrap ((n / 1000:Nat):Int)=((n / 1000:Nat):Int):=by rw [wrap_u64]<;>omega
 have w7:IntKind.u64.wrap ((n:Int)%1000)=((n%1000:Nat):Int):=by rw [wrap_u64]<;>omega
 have hdl:(dec (n / 1000)).length≤20:=dec_len 19 _ (by omega)
 have dl:=dg3_len (n%1000)
 rw [←t3]
 have tl:(Lib.trimRightS (dg3 (n%1000)) [48]).length≤3:=by
  unfold Lib.trimRightS
  rw [List.length_reverse]
  refine Nat.le_trans (List.Sublist.length_le (List.dropWhile_sublist _)) ?_
  rw [List.length_reverse,dl]
  decide
 clear t3
 generalize dec (n / 1000)=hd at *
 generalize Lib.trimRightS (dg3 (n%1000)) [48]=T at *
 generalize dg3 (n%1000)=D at *
 generalize n / 1000=z at *
 generalize 1000+n%1000=y at *
 generalize n%1000=b at *
 have l1:hd.length≤9223372036854775806:=by omega
 have l3:hd.length+(T.length+1)≤9223372036854775807:=by omega
 have l4:hd.length+1+T.length≤9223372036854775807:=by omega
 have l5:hd.length≤9223372036854775805:=by omega
 have l6:List.take 3 D=D:=by rw [←dl,List.take_length]
 by_cases c:T=[]
 ·rw [if_pos c]
  have c':(T==[])=true:=by rw [c];rfl
  subst c
  simp -implicitDefEqProofs [c75,w1,w2,w3,w7]
  refine onC_mk _ (F1) ?_
  simp -implicitDefEqProofs [dl,l6]
  refine onC_mk _ (TR) ?_
  simp -implicitDefEqProofs [w4,w5,w6]
  refine onC_mk _ (F2) ?_
  simp -implicitDefEqProofs [l1,l5]
 ·rw [if_neg c]
  have c':(T==[])=false:=by simpa using c
  simp -implicitDefEqProofs [c75,w1,w2,w3,w7]
  refine onC_mk _ (F1) ?_
  simp -implicitDefEqProofs [dl,l6]
  refine onC_mk _ (TR) ?_
  simp -implicitDefEqProofs [w4,w5,w6,c,c']
  refine onC_mk _ (F2) ?_
  simp -implicitDefEqProofs [l1,l3,l4,l5]
end Go.Ai
namespace Go.Ai
open Go.Proofs Go.Shelf
theorem ipow_spec:Sp Tryz.prog gl 234 [i6 16] (.bool true):=by
 refine s234 rfl rfl ?_
 have t1:IntKind.i64.wrap 15=15:=by decide
 have t2:bits .and .i64 16 15=0:=by decide
 simp -implicitDefEqProofs [c234,t1,t2]
theorem tz64_spec:Sp Tryz.prog gl 259 [u 16] (i6 4):=by
 refine s259 rfl rfl ?_
 have t1:IntKind.u64.wrap (-16)=18446744073709551600:=by decide
 have t2:bits .and .u64 16 18446744073709551600=16:=by decide
 have t3:(IntKind.u64.wrap 4573923408821661840).fdiv (2^min 58 IntKind.u64.bits)=15:=by decide
 have t4:IntKind.i64.wrap 4=4:=by decide
 simp -implicitDefEqProofs [c259,t1,t2,t3,t4]
theorem tz_spec:Sp Tryz.prog gl 235 [u 16] (i6 4):=by
 refine s235 rfl rfl ?_
 have T:=tz64_spec
 simp -implicitDefEqProofs [c235]
 refine onC_mk _ (T) ?_
 simp -implicitDefEqProofs
end Go.Ai
namespace Go.Ai
open Go.Proofs Go.Shelf
theorem and15: ∀r,r<256→bits .and .u64 ((r:Nat):Int) 15=((r%16:Nat):Int):=by decide+kernel
theorem dg_at: ∀r,r<16→([48,49,50,51,52,53,54,55,56,57,97,98,99,100,101,102,103,104,105,106,107,108,109,110,111,112,113,114,115,116,117,118,119,120,121,122]:List UInt8)[r]?=some (hxD r):=by decide+kernel
set_option maxHeartbeats 4000000 in
theorem fbits_spec (r:Nat) (h:r<256):Sp Tryz.prog gl 190 [.nils,u r,i6 16,.bool false,.bool false] (.tup [.sl [],.str (hxL r)]):=by
 refine s190 rfl rfl ?_
 have IP:=ipow_spec
 have TZ:=tz_spec
 have t1:IntKind.u64.wrap 16=16:=by decide
 have t2:IntKind.u64.wrap 4=4:=by decide
 have t3:IntKind.u64.wrap 15=15:=by decide
 have t4:IntKind.i64.wrap 64=64:=by decide
 have t5:IntKind.i64.wrap 63=63:=by decide
 obtain ⟨R,hR⟩: ∃R,R=hxL r:=⟨_,rfl⟩
 rw [←hR]
 simp -implicitDefEqProofs [c190]
 refine onC_mk _ (IP) ?_
 simp -implicitDefEqProofs [t1]
 refine onC_mk _ (TZ) ?_
 simp -implicitDefEqProofs [t1,t2,t3]
 refine wp_lpk (α:=Nat×Nat×List UInt8) (fun y=>⟨[(1,u y.2.1),(3,.bool false),(4,.bool false),(12,.ptr (.n 12) 0),(13,i6 y.1),(14,u 4),(15,u 16),(16,u 15),(10,.nils)],[(.n 12,bufC y.1 y.2.2)],[]⟩) (fun y=>(y.1=65∧y.2.1=r∧y.2.2=[])∨(y.1=64∧16≤r∧y.2.1=r / 16∧y.2.2=[hxD (r%16)])) (fun y=>y.1) ?_ (65,r,[]) ?_ ?_
 ·rintro K ⟨k,q,s⟩ hK hk
  simp only at hk
  rcases hk with ⟨rfl,rfl,rfl⟩|⟨rfl,hr,rfl,rfl⟩
  ·by_cases c:16≤q
   ·have c':(16:Int)≤q:=by omega
    have a1:=and15 q h
    have a2:=dg_at (q%16) (by omega)
    dsimp only at a2
    have a3:(q:Int).fdiv (2^min 4 IntKind.u64.bits)=((q / 16:Nat):Int):=by
     rw [Int.fdiv_eq_ediv_of_nonneg _ (by decide)]
     rfl
    have a4:IntKind.u64.wrap ((q / 16:Nat):Int)=((q / 16:Nat):Int):=by rw [wrap_u64]<;>omega
    have fin:=fun σ' hσ=>hK (64,q / 16,[hxD (q%16)]) σ' (.inr ⟨rfl,c,rfl,rfl⟩) (by simp only;omega) hσ
    have st:=bufC_set 64 (hxD (q%16)) []
    have hl:=bufC_len 65 []
    have hi2:=bufC_ids 64 [hxD (q%16)]
    clear hK hR
    unfold byteAv at st
    rw [show (64:Nat)+1=65 from rfl] at st
    generalize bufC 65 []=X at *
    generalize bufC 64 [hxD (q%16)]=Y at *
    generalize hxD (q%16)=g at *
    generalize q%16=lo at *
    generalize q / 16=hi at *
    have jX:65≤X.length:=by rw [hl];simp
    simp -implicitDefEqProofs [c,c',a1,a2,t4,jX,st,a3,a4]
    refine fin _ ?_
    apply weak_mk<;>simp [hi2,a3,a4]
   ·have c': ¬(16:Int)≤q:=by omega
    have a2:=dg_at q (by omega)
    dsimp only at a2
    have st:=bufC_set 64 (hxD q) []
    have hl:=bufC_len 65 []
    have hl2:=bufC_len 64 [hxD q]
    have hb:=buf_bytes 64 1 [hxD q] (by simp)
    have eR:R=[hxD q]:=by rw [hR];unfold hxL;rw [if_pos (by omega)]
    clear hK hR
    subst eR
    unfold byteAv at st
    rw [show (64:Nat)+1=65 from rfl] at st
    generalize bufC 65 []=X at *
    generalize bufC 64 [hxD q]=Y at *
    generalize hxD q=g at *
    have jX:65≤X.length:=by rw [hl];simp
    have jY:65≤Y.length:=by rw [hl2];simp
    simp -implicitDefEqProofs [c,c',a2,t4,jX,st,jY,bytesA,hb]
  ·have c: ¬16≤r / 16:=by omega
   have c': ¬(16:Int)≤((r / 16:Nat):Int):=by omega
   have a2:=dg_at (r / 16) (by omega)
   dsimp only at a2
   have st:=bufC_set 63 (hxD (r / 16)) [hxD (r%16)]
   have hl:=bufC_len 64 [hxD (r%16)]
   have hl2:=bufC_len 63 [hxD (r / 16),hxD (r%16)]
   have hb:=buf_bytes 63 2 [hxD (r / 16),hxD (r%16)] (by simp)
   have eR:R=[hxD (r / 16),hxD (r%16)]:=by rw [hR];unfold hxL;rw [if_neg (by omega)]
   clear hK hR
   subst eR
   unfold byteAv at st
   rw [show (63:Nat)+1=64 from rfl] at st
   generalize bufC 64 [hxD (r%16)]=X at *
   generalize bufC 63 [hxD (r / 16),hxD (r%16)]=Y at *
   generalize hxD (r%16)=g at *
   generalize hxD (r / 16)=g2 at *
   generalize r / 16=z at *
   have jX:65≤X.length:=by rw [hl];simp
   have jX2:64≤X.length:=by rw [hl];simp
   have jY:65≤Y.length:=by rw [hl2];simp
   simp -implicitDefEqProofs [c,c',a2,t5,jX,jX2,st,jY,bytesA,hb]
 ·exact .inl ⟨rfl,rfl,rfl⟩
 ·apply weak_mk<;>simp [bufC_ids]
  exact wkL_refl (bufC 65 [])
theorem ihexI_spec (r:Nat) (h:r<256):Sp Tryz.prog gl 192 [i6 r,i6 16] (.str (hxL r)):=by
 refine s192 rfl rfl ?_
 have F:=fun d=>(fbits_spec r h).h (d:=d)
 have w1:IntKind.u64.wrap (r:Int)=r:=by rw [wrap_u64]<;>omega
 have c: ¬(r:Int)<0:=by omega
 generalize hxL r=q at *
 simp -implicitDefEqProofs [c192,w1,c]
 refine onH_mk _ _ (F _) ⟨?_,?_,?_,?_,?_,?_,?_⟩ ?_
 iterate 7 (· simp)
 simp -implicitDefEqProofs
theorem hexI_spec (r:Nat) (h:r<256):Sp Tryz.prog gl 137 [i6 r,i6 16] (.str (hxL r)):=by
 refine s137 rfl rfl ?_
 have F:=ihexI_spec r h
 generalize hxL r=q at *
 simp -implicitDefEqProofs [c137]
 refine onC_mk _ (F) ?_
 simp -implicitDefEqProofs
end Go.Ai
namespace Go.Ai
open Go.Proofs Go.Shelf
def escF (r:Nat):List UInt8:=if r=34 then [92,34] else if r=92 then [92,92] else if r=10 then [92,110] else if r=9 then [92,116] else if r<32∨r=127 then [92,117,123]++(hxL r++[125]) else []
theorem esR_escF (r:Nat):esR r=if escF r=[] then encN r else escF r:=by
 unfold esR escF
 by_cases c1:r=34
 ·simp [c1]
 by_cases c2:r=92
 ·simp [c2]
 by_cases c3:r=10
 ·simp [c3]
 by_cases c4:r=9
 ·simp [c4]
 by_cases c5:r<32∨r=127
 ·rw [if_neg c1,if_neg c2,if_neg c3,if_neg c4,if_pos c5,if_neg c1,if_neg c2,if_neg c3,if_neg c4,if_pos c5,if_neg (by simp)]
 ·rw [if_neg c1,if_neg c2,if_neg c3,if_neg c4,if_neg c5,if_neg c1,if_neg c2,if_neg c3,if_neg c4,if_neg c5,if_pos rfl]
theorem tescape_spec (q:Nat) (hq:q≤1114111):Sp Tryz.prog gl 128 [i3 q] (.str (escF q)):=by
 refine s128 rfl rfl ?_
 have ne: ∀z:Nat,¬q=z→((q:Int)==(z:Int))=false:=fun z h=>beq_eq_false_iff_ne.2 (by omega)
 unfold escF
 by_cases c1:q=34
 ·subst c1
  have e1:(Utf8.encode 34).data.toList=[34]:=by decide+kernel
  have e2:(Utf8.encode 34).size=1:=by decide+kernel
  simp -implicitDefEqProofs [c128,e1,e2]
 rw [if_neg c1]
 have d1:((q:Int)==34)=false:=ne 34 c1
 by_cases c2:q=92
 ·subst c2
  have e1:(Utf8.encode 92).data.toList=[92]:=by decide+kernel
  have e2:(Utf8.encode 92).size=1:=by decide+kernel
  simp -implicitDefEqProofs [c128,e1,e2]
 rw [if_neg c2]
 have d2:((q:Int)==92)=false:=ne 92 c2
 by_cases c3:q=10
 ·subst c3
  simp -implicitDefEqProofs [c128]
 rw [if_neg c3]
 have d3:((q:Int)==10)=false:=ne 10 c3
 by_cases c4:q=9
 ·subst c4
  simp -implicitDefEqProofs [c128]
 rw [if_neg c4]
 have d4:((q:Int)==9)=false:=ne 9 c4
 by_cases c5:q<32∨q=127
 ·rw [if_pos c5]
  have FB:=hexI_spec q (by omega)
  have hxl:=hxL_len q
  have w1:IntKind.i64.wrap (q:Int)=q:=by rw [wrap_i64]<;>omega
  generalize hxL q=hx at *
  have m1:3+hx.length≤9223372036854775807:=by omega
  have m2:hx.length≤9223372036854775804:=by omega
  have m3:hx.length+3≤9223372036854775806:=by omega
  have m4:hx.length+1+1+1≤9223372036854775806:=by omega
  have m5:hx.length≤9223372036854775803:=by omega
  rcases c5 with c5|c5
  ·have c5':(q:Int)<32:=by omega
   simp -implicitDefEqProofs [c128,d1,d2,d3,d4,c1,c2,c3,c4,c5,c5',w1]
   refine onC_mk _ (FB) ?_
   simp -implicitDefEqProofs [m1,m2,m3,m4,m5]
  ·have c5': ¬(q:Int)<32:=by omega
   have c6:((q:Int)==127)=true:=by rw [c5];rfl
   have c7: ¬q<32:=by omega
   simp -implicitDefEqProofs [c128,d1,d2,d3,d4,c1,c2,c3,c4,c5',c6,c7,w1]
   refine onC_mk _ (FB) ?_
   simp -implicitDefEqProofs [m1,m2,m3,m4,m5]
 ·rw [if_neg c5]
  have c5': ¬(q:Int)<32:=by omega
  have c6:((q:Int)==127)=false:=ne 127 (by omega)
  have c7: ¬q<32:=by omega
  have c8: ¬q=127:=by omega
  simp -implicitDefEqProofs [c128,d1,d2,d3,d4,c1,c2,c3,c4,c5',c6,c7,c8]
end Go.Ai
