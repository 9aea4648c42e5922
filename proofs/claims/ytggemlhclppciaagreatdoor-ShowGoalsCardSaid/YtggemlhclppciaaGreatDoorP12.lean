/- P12: a part of the proof: the rules, or what functions compute. Conditions: as each theorem says. -/
import Derived.Test.YtggemlhclppciaaGreatDoorP11
import Derived.Test.YtggemlhclppciaaGreatDoorP10
import Derived.Test.YtggemlhclppciaaGreatDoorP5
import Derived.Test.YtggemlhclppciaaGreatDoorP4
import Derived.Test.YtggemlhclppciaaGreatDoorP9
import Derived.Test.YtggemlhclppciaaGreatDoorP3
import Derived.Test.YtggemlhclppciaaGreatDoorP1
import Derived.Test.YtggemlhclppciaaGreatDoorP6
set_option linter.unusedSimpArgs false
set_option linter.unusedVariables false
set_option maxRecDepth 20000
namespace Go.Ai
open Go.Proofs
open Go.Proofs
theorem dec_len20 (n:Nat) (h:n<18446744073709551616):(dec n).length≤20:=dec_len 19 n (by omega)
theorem frc_len (m:Nat): ∀(f x:Nat),(frc m f x).length≤f
 |0,x=>Nat.le_refl 0
 |f+1,x=>by
  rw [frc]
  split
  ·exact Nat.zero_le _
  ·rw [List.length_cons]
   have:=frc_len m f (x%m*10)
   omega
theorem tkP_len (x:Tk) (h:TkOk x) (hl:x.t.length≤500):(tkP x.k x.t x.n).length≤800:=by
 obtain ⟨k,s,n,ln,co⟩:=x
 obtain ⟨hk,hn,hr⟩:=h
 dsimp only at *
 unfold tkP
 rw [hr,if_neg (by decide)]
 by_cases c1:k=1
 ·rw [if_pos c1];omega
 rw [if_neg c1]
 by_cases c2:k=2
 ·rw [if_pos c2]
  subst c2
  obtain ⟨_,_,_,h3⟩:=tkP_quote s n hr
  have:=esL_len (runesL s 0)
  unfold quL
  rw [List.length_cons,List.length_append,List.length_singleton]
  omega
 rw [if_neg c2]
 by_cases c3:k=3
 ·rw [if_pos c3]
  have:=dec_len20 n hn
  omega
 rw [if_neg c3]
 by_cases c4:k=4
 ·rw [if_pos c4]
  unfold fcP
  have h1:=dec_len20 (n / 1000) (by omega)
  have h2:=frc_len 10 2 (n%1000%100)
  rw [List.length_append,List.length_cons,List.length_cons]
  omega
 rw [if_neg c4]
 by_cases c5:k=5
 ·rw [if_pos c5]
  unfold shP
  have h1:=dec_len20 (n / 10000) (by omega)
  have h2:=frc_len 1000 4 (n%10000)
  split
  ·simp
  ·rw [List.length_append,List.length_append,List.length_append,List.length_singleton]
   split
   ·rw [List.length_nil];omega
   ·rw [List.length_singleton];omega
 rw [if_neg c5]
 by_cases c6:k=6
 ·rw [if_pos c6]
  subst c6
  have h':((s==[])&&decide (n≤253402300799))=true:=hr
  rw [Bool.and_eq_true,decide_eq_true_iff] at h'
  unfold spP
  split
  ·simp
  ·have:=spG_len unL n h'.2
   have e:unL.length=5:=rfl
   omega
 rw [if_neg c6]
 repeat' split
 all_goals simp
end Go.Ai
namespace Go.Ai
open Go.Proofs Go.Shelf
theorem fmtd_spec (n:Nat) (h:n<18446744073709551616):Sp Tryz.prog gl 93 [u n,i6 10] (.str (dec n)):=by
 have F:=fmt_spec n h
 rw [decDigits_eq] at F
 exact F
theorem sright03_spec (p:Nat):Sp Tryz.prog gl 128 [.int .u32 p] (.bool (decide (p≤1000000))):=by
 refine s128 rfl rfl ?_
 by_cases c:p≤1000000
 ·have c':(p:Int)≤1000000:=by omega
  simp -implicitDefEqProofs [c128,c,c']
 ·have c': ¬(p:Int)≤1000000:=by omega
  simp -implicitDefEqProofs [c128,c,c']
theorem dg4_len (b:Nat):(dg4 b).length=4:=rfl
theorem dg3_len (b:Nat):(dg3 b).length=3:=rfl
theorem sshare_spec (p:Nat) (hp:p≤1000000):Sp Tryz.prog gl 95 [.int .u32 p] (.str (shP p)):=by
 refine s95 rfl rfl ?_
 have RG:=sright03_spec p
 rw [decide_eq_true hp] at RG
 unfold shP
 rw [if_neg (by omega)]
 have I1:=itoa_spec (p / 10000) (by omega)
 have w1:IntKind.u32.wrap ((p:Int) / 10000)=((p / 10000:Nat):Int):=by rw [wrap_u32]<;>omega
 have w2:IntKind.i64.wrap ((p / 10000:Nat):Int)=((p / 10000:Nat):Int):=by rw [wrap_i64]<;>omega
 have w3:(p:Int).tmod 10000=((p%10000:Nat):Int):=rfl
 have w4:IntKind.u32.wrap ((p%10000:Nat):Int)=((p%10000:Nat):Int):=by rw [wrap_u32]<;>omega
 have w7:(p:Int).tdiv 10000=((p / 10000:Nat):Int):=rfl
 have w8:IntKind.u32.wrap ((p / 10000:Nat):Int)=((p / 10000:Nat):Int):=by rw [wrap_u32]<;>omega
 have w9:IntKind.u32.wrap ((p:Int)%10000)=((p%10000:Nat):Int):=by rw [wrap_u32]<;>omega
 have hdl:(dec (p / 10000)).length≤20:=dec_len 19 _ (by omega)
 have bq:p%10000<10000:=Nat.mod_lt _ (by decide)
 by_cases c0:p%10000=0
 ·rw [if_pos c0,c0]
  rw [c0] at w3 w4 w9
  rw [show frc 1000 4 0=[] from rfl]
  generalize dec (p / 10000)=hd at *
  generalize p / 10000=z at *
  have l1:hd.length≤9223372036854775806:=by omega
  simp -implicitDefEqProofs [c95]
  refine onC_mk _ (RG) ?_
  simp -implicitDefEqProofs [w1,w2,w3,w4,w7,w8,w9]
  refine onC_mk _ (I1) ?_
  simp -implicitDefEqProofs [w1,w2,w3,w4,w7,w8,w9,l1]
 ·rw [if_neg c0]
  have I2:=itoa_spec (10000+p%10000) (by omega)
  rw [dec_dg4 _ bq] at I2
  have TR:=trimR_spec (dg4 (p%10000)) (by rw [dg4_len];decide)
  rw [trim4 _ bq] at TR
  have fl:=frc_len 1000 4 (p%10000)
  have w5:IntKind.u32.wrap (10000+((p%10000:Nat):Int))=((10000+p%10000:Nat):Int):=by rw [wrap_u32]<;>omega
  have w6:IntKind.i64.wrap ((10000+p%10000:Nat):Int)=((10000+p%10000:Nat):Int):=by rw [wrap_i64]<;>omega
  have c1:(0:Int)<((p%10000:Nat):Int):=by omega
  have c2:0<p%10000:=by omega
  have dl:=dg4_len (p%10000)
  generalize dec (p / 10000)=hd at *
  generalize p / 10000=z at *
  generalize dg4 (p%10000)=D at *
  generalize frc 1000 4 (p%10000)=T at *
  generalize 10000+p%10000=y at *
  generalize p%10000=b at *
  have l1:hd.length≤9223372036854775806:=by omega
  have l2:T.length+1≤9223372036854775807:=by omega
  have l3:hd.length+(T.length+1)≤9223372036854775807:=by omega
  have l4:hd.length+(T.length+1)≤9223372036854775806:=by omega
  have l5:T.length≤9223372036854775806:=by omega
  have l7:1+T.length≤9223372036854775807:=by omega
  have l6:List.take 4 D=D:=by rw [←dl,List.take_length]
  simp -implicitDefEqProofs [c95]
  refine onC_mk _ (RG) ?_
  simp -implicitDefEqProofs [w1,w2,w3,w4,w7,w8,w9]
  refine onC_mk _ (I1) ?_
  simp -implicitDefEqProofs [w1,w2,w3,w4,w7,w8,w9,c1,c2,w5,w6]
  refine onC_mk _ (I2) ?_
  simp -implicitDefEqProofs [dl,l6]
  refine onC_mk _ (TR) ?_
  simp -implicitDefEqProofs [l1,l2,l3,l4,l5,l7]
theorem sthou_spec (n:Nat) (hn:n<18446744073709551616):Sp Tryz.prog gl 94 [u n] (.str (fcP n)):=by
 refine s94 rfl rfl ?_
 unfold fcP
 have bq:n%1000<1000:=Nat.mod_lt _ (by decide)
 have F1:=fmtd_spec (1000+n%1000) (by omega)
 have F2:=fmtd_spec (n / 1000) (by omega)
 rw [dec_dg3 _ bq] at F1
 have TR:=trimR_spec (dg3 (n%1000)) (by rw [dg3_len];decide)
 have t3:=trim3 _ bq
 have w1:(n:Int).tmod 1000=((n%1000:Nat):Int):=rfl
 have w2:IntKind.u64.wrap ((n%1000:Nat):Int)=((n%1000:Nat):Int):=by rw [wrap_u64]<;>omega
 have w3:IntKind.u64.wrap (1000+((n%1000:Nat):Int))=((1000+n%1000:Nat):Int):=by rw [wrap_u64]<;>omega
 have w4:IntKind.u64.wrap ((n:Int) / 1000)=((n / 1000:Nat):Int):=by rw [wrap_u64]<;>omega
 have w5:(n:Int).tdiv 1000=((n / 1000:Nat):Int):=rfl
 have w6:IntKind.u64.wrap ((n / 1000:Nat):Int)=((n / 1000:Nat):Int):=by rw [wrap_u64]<;>omega
 have w7:IntKind.u64.wrap ((n:Int)%1000)=((n%1000:Nat):Int):=by rw [wrap_u64]<;>omega
 have hdl:(dec (n / 1000)).length≤20:=dec_len 19 _ (by omega)
 have dl:=dg3_len (n%1000)
 rw [←t3]
 have tl:(Lib.trimRightS (dg3 (n%1000)) [48]).length≤3:=by
  unfold Lib.trimRightS
  rw [List.length_reverse]
  refine Nat.le_trans (List.Sublist.length_le (List.dropWhile_sublist _)) ?_
  rw [List.length_reverse,dl]
  decide
 clear t3
 generalize dec (n / 1000)=hd at *
 generalize Lib.trimRightS (dg3 (n%1000)) [48]=T at *
 generalize dg3 (n%1000)=D at *
 generalize n / 1000=z at *
 generalize 1000+n%1000=y at *
 generalize n%1000=b at *
 have l1:hd.length≤9223372036854775806:=by omega
 have l3:hd.length+(T.length+1)≤9223372036854775807:=by omega
 have l4:hd.length+1+T.length≤9223372036854775807:=by omega
 have l5:hd.length≤9223372036854775805:=by omega
 have l6:List.take 3 D=D:=by rw [←dl,List.take_length]
 by_cases c:T=[]
 ·rw [if_pos c]
  have c':(T==[])=true:=by rw [c];rfl
  subst c
  simp -implicitDefEqProofs [c94,w1,w2,w3,w7]
  refine onC_mk _ (F1) ?_
  simp -implicitDefEqProofs [dl,l6]
  refine onC_mk _ (TR) ?_
  simp -implicitDefEqProofs [w4,w5,w6]
  refine onC_mk _ (F2) ?_
  simp -implicitDefEqProofs [l1,l5]
 ·rw [if_neg c]
  have c':(T==[])=false:=by simpa using c
  simp -implicitDefEqProofs [c94,w1,w2,w3,w7]
  refine onC_mk _ (F1) ?_
  simp -implicitDefEqProofs [dl,l6]
  refine onC_mk _ (TR) ?_
  simp -implicitDefEqProofs [w4,w5,w6,c,c']
  refine onC_mk _ (F2) ?_
  simp -implicitDefEqProofs [l1,l3,l4,l5]
end Go.Ai
namespace Go.Ai
open Go.Proofs Go.Shelf
theorem ipow_spec:Sp Tryz.prog gl 202 [i6 16] (.bool true):=by
 refine s202 rfl rfl ?_
 have t1:IntKind.i64.wrap 15=15:=by decide
 have t2:bits .and .i64 16 15=0:=by decide
 simp -implicitDefEqProofs [c202,t1,t2]
theorem tz64_spec:Sp Tryz.prog gl 225 [u 16] (i6 4):=by
 refine s225 rfl rfl ?_
 have t1:IntKind.u64.wrap (-16)=18446744073709551600:=by decide
 have t2:bits .and .u64 16 18446744073709551600=16:=by decide
 have t3:(IntKind.u64.wrap 4573923408821661840).fdiv (2^min 58 IntKind.u64.bits)=15:=by decide
 have t4:IntKind.i64.wrap 4=4:=by decide
 simp -implicitDefEqProofs [c225,t1,t2,t3,t4]
theorem tz_spec:Sp Tryz.prog gl 203 [u 16] (i6 4):=by
 refine s203 rfl rfl ?_
 have T:=tz64_spec
 simp -implicitDefEqProofs [c203]
 refine onC_mk _ (T) ?_
 simp -implicitDefEqProofs
end Go.Ai
namespace Go.Ai
open Go.Proofs Go.Shelf
theorem and15: ∀r,r<256→bits .and .u64 ((r:Nat):Int) 15=((r%16:Nat):Int):=by decide+kernel
theorem dg_at: ∀r,r<16→([48,49,50,51,52,53,54,55,56,57,97,98,99,100,101,102,103,104,105,106,107,108,109,110,111,112,113,114,115,116,117,118,119,120,121,122]:List UInt8)[r]?=some (hxD r):=by decide+kernel
set_option maxHeartbeats 4000000 in
theorem fbits_spec (r:Nat) (h:r<256):Sp Tryz.prog gl 168 [.nils,u r,i6 16,.bool false,.bool false] (.tup [.sl [],.str (hxL r)]):=by
 refine s168 rfl rfl ?_
 have IP:=ipow_spec
 have TZ:=tz_spec
 have t1:IntKind.u64.wrap 16=16:=by decide
 have t2:IntKind.u64.wrap 4=4:=by decide
 have t3:IntKind.u64.wrap 15=15:=by decide
 have t4:IntKind.i64.wrap 64=64:=by decide
 have t5:IntKind.i64.wrap 63=63:=by decide
 obtain ⟨R,hR⟩: ∃R,R=hxL r:=⟨_,rfl⟩
 rw [←hR]
 simp -implicitDefEqProofs [c168]
 refine onC_mk _ (IP) ?_
 simp -implicitDefEqProofs [t1]
 refine onC_mk _ (TZ) ?_
 simp -implicitDefEqProofs [t1,t2,t3]
 refine wp_lpk (α:=Nat×Nat×List UInt8) (fun y=>⟨[(1,u y.2.1),(3,.bool false),(4,.bool false),(12,.ptr (.n 12) 0),(13,i6 y.1),(14,u 4),(15,u 16),(16,u 15),(10,.nils)],[(.n 12,bufC y.1 y.2.2)],[]⟩) (fun y=>(y.1=65∧y.2.1=r∧y.2.2=[])∨(y.1=64∧16≤r∧y.2.1=r / 16∧y.2.2=[hxD (r%16)])) (fun y=>y.1) ?_ (65,r,[]) ?_ ?_
 ·rintro K ⟨k,q,s⟩ hK hk
  simp only at hk
  rcases hk with ⟨rfl,rfl,rfl⟩|⟨rfl,hr,rfl,rfl⟩
  ·by_cases c:16≤q
   ·have c':(16:Int)≤q:=by omega
    have a1:=and15 q h
    have a2:=dg_at (q%16) (by omega)
    dsimp only at a2
    have a3:(q:Int).fdiv (2^min 4 IntKind.u64.bits)=((q / 16:Nat):Int):=by
     rw [Int.fdiv_eq_ediv_of_nonneg _ (by decide)]
     rfl
    have a4:IntKind.u64.wrap ((q / 16:Nat):Int)=((q / 16:Nat):Int):=by rw [wrap_u64]<;>omega
    have fin:=fun σ' hσ=>hK (64,q / 16,[hxD (q%16)]) σ' (.inr ⟨rfl,c,rfl,rfl⟩) (by simp only;omega) hσ
    have st:=bufC_set 64 (hxD (q%16)) []
    have hl:=bufC_len 65 []
    have hi2:=bufC_ids 64 [hxD (q%16)]
    clear hK hR
    unfold byteAv at st
    rw [show (64:Nat)+1=65 from rfl] at st
    generalize bufC 65 []=X at *
    generalize bufC 64 [hxD (q%16)]=Y at *
    generalize hxD (q%16)=g at *
    generalize q%16=lo at *
    generalize q / 16=hi at *
    have jX:65≤X.length:=by rw [hl];simp
    simp -implicitDefEqProofs [c,c',a1,a2,t4,jX,st,a3,a4]
    refine fin _ ?_
    apply weak_mk<;>simp [hi2,a3,a4]
   ·have c': ¬(16:Int)≤q:=by omega
    have a2:=dg_at q (by omega)
    dsimp only at a2
    have st:=bufC_set 64 (hxD q) []
    have hl:=bufC_len 65 []
    have hl2:=bufC_len 64 [hxD q]
    have hb:=buf_bytes 64 1 [hxD q] (by simp)
    have eR:R=[hxD q]:=by rw [hR];unfold hxL;rw [if_pos (by omega)]
    clear hK hR
    subst eR
    unfold byteAv at st
    rw [show (64:Nat)+1=65 from rfl] at st
    generalize bufC 65 []=X at *
    generalize bufC 64 [hxD q]=Y at *
    generalize hxD q=g at *
    have jX:65≤X.length:=by rw [hl];simp
    have jY:65≤Y.length:=by rw [hl2];simp
    simp -implicitDefEqProofs [c,c',a2,t4,jX,st,jY,bytesA,hb]
  ·have c: ¬16≤r / 16:=by omega
   have c': ¬(16:Int)≤((r / 16:Nat):Int):=by omega
   have a2:=dg_at (r / 16) (by omega)
   dsimp only at a2
   have st:=bufC_set 63 (hxD (r / 16)) [hxD (r%16)]
   have hl:=bufC_len 64 [hxD (r%16)]
   have hl2:=bufC_len 63 [hxD (r / 16),hxD (r%16)]
   have hb:=buf_bytes 63 2 [hxD (r / 16),hxD (r%16)] (by simp)
   have eR:R=[hxD (r / 16),hxD (r%16)]:=by rw [hR];unfold hxL;rw [if_neg (by omega)]
   clear hK hR
   subst eR
   unfold byteAv at st
   rw [show (63:Nat)+1=64 from rfl] at st
   generalize bufC 64 [hxD (r%16)]=X at *
   generalize bufC 63 [hxD (r / 16),hxD (r%16)]=Y at *
   generalize hxD (r%16)=g at *
   generalize hxD (r / 16)=g2 at *
   generalize r / 16=z at *
   have jX:65≤X.length:=by rw [hl];simp
   have jX2:64≤X.length:=by rw [hl];simp
   have jY:65≤Y.length:=by rw [hl2];simp
   simp -implicitDefEqProofs [c,c',a2,t5,jX,jX2,st,jY,bytesA,hb]
 ·exact .inl ⟨rfl,rfl,rfl⟩
 ·apply weak_mk<;>simp [bufC_ids]
  exact wkL_refl (bufC 65 [])
theorem ihexI_spec (r:Nat) (h:r<256):Sp Tryz.prog gl 174 [i6 r,i6 16] (.str (hxL r)):=by
 refine s174 rfl rfl ?_
 have F:=fun d=>(fbits_spec r h).h (d:=d)
 have w1:IntKind.u64.wrap (r:Int)=r:=by rw [wrap_u64]<;>omega
 have c: ¬(r:Int)<0:=by omega
 generalize hxL r=q at *
 simp -implicitDefEqProofs [c174,w1,c]
 refine onH_mk _ _ (F _) ⟨?_,?_,?_,?_,?_,?_,?_⟩ ?_
 iterate 7 (· simp)
 simp -implicitDefEqProofs
theorem hexI_spec (r:Nat) (h:r<256):Sp Tryz.prog gl 132 [i6 r,i6 16] (.str (hxL r)):=by
 refine s132 rfl rfl ?_
 have F:=ihexI_spec r h
 generalize hxL r=q at *
 simp -implicitDefEqProofs [c132]
 refine onC_mk _ (F) ?_
 simp -implicitDefEqProofs
end Go.Ai
namespace Go.Ai
open Go.Proofs Go.Shelf
def escF (r:Nat):List UInt8:=if r=34 then [92,34] else if r=92 then [92,92] else if r=10 then [92,110] else if r=9 then [92,116] else if r<32∨r=127 then [92,117,123]++(hxL r++[125]) else []
theorem esR_escF (r:Nat):esR r=if escF r=[] then encN r else escF r:=by
 unfold esR escF
 by_cases c1:r=34
 ·simp [c1]
 by_cases c2:r=92
 ·simp [c2]
 by_cases c3:r=10
 ·simp [c3]
 by_cases c4:r=9
 ·simp [c4]
 by_cases c5:r<32∨r=127
 ·rw [if_neg c1,if_neg c2,if_neg c3,if_neg c4,if_pos c5,if_neg c1,if_neg c2,if_neg c3,if_neg c4,if_pos c5,if_neg (by simp)]
 ·rw [if_neg c1,if_neg c2,if_neg c3,if_neg c4,if_neg c5,if_neg c1,if_neg c2,if_neg c3,if_neg c4,if_neg c5,if_pos rfl]
theorem tescape_spec (q:Nat) (hq:q≤1114111):Sp Tryz.prog gl 125 [i3 q] (.str (escF q)):=by
 refine s125 rfl rfl ?_
 have ne: ∀z:Nat,¬q=z→((q:Int)==(z:Int))=false:=fun z h=>beq_eq_false_iff_ne.2 (by omega)
 unfold escF
 by_cases c1:q=34
 ·subst c1
  have e1:(Utf8.encode 34).data.toList=[34]:=by decide+kernel
  have e2:(Utf8.encode 34).size=1:=by decide+kernel
  simp -implicitDefEqProofs [c125,e1,e2]
 rw [if_neg c1]
 have d1:((q:Int)==34)=false:=ne 34 c1
 by_cases c2:q=92
 ·subst c2
  have e1:(Utf8.encode 92).data.toList=[92]:=by decide+kernel
  have e2:(Utf8.encode 92).size=1:=by decide+kernel
  simp -implicitDefEqProofs [c125,e1,e2]
 rw [if_neg c2]
 have d2:((q:Int)==92)=false:=ne 92 c2
 by_cases c3:q=10
 ·subst c3
  simp -implicitDefEqProofs [c125]
 rw [if_neg c3]
 have d3:((q:Int)==10)=false:=ne 10 c3
 by_cases c4:q=9
 ·subst c4
  simp -implicitDefEqProofs [c125]
 rw [if_neg c4]
 have d4:((q:Int)==9)=false:=ne 9 c4
 by_cases c5:q<32∨q=127
 ·rw [if_pos c5]
  have FB:=hexI_spec q (by omega)
  have hxl:=hxL_len q
  have w1:IntKind.i64.wrap (q:Int)=q:=by rw [wrap_i64]<;>omega
  generalize hxL q=hx at *
  have m1:3+hx.length≤9223372036854775807:=by omega
  have m2:hx.length≤9223372036854775804:=by omega
  have m3:hx.length+3≤9223372036854775806:=by omega
  have m4:hx.length+1+1+1≤9223372036854775806:=by omega
  have m5:hx.length≤9223372036854775803:=by omega
  rcases c5 with c5|c5
  ·have c5':(q:Int)<32:=by omega
   simp -implicitDefEqProofs [c125,d1,d2,d3,d4,c1,c2,c3,c4,c5,c5',w1]
   refine onC_mk _ (FB) ?_
   simp -implicitDefEqProofs [m1,m2,m3,m4,m5]
  ·have c5': ¬(q:Int)<32:=by omega
   have c6:((q:Int)==127)=true:=by rw [c5];rfl
   have c7: ¬q<32:=by omega
   simp -implicitDefEqProofs [c125,d1,d2,d3,d4,c1,c2,c3,c4,c5',c6,c7,w1]
   refine onC_mk _ (FB) ?_
   simp -implicitDefEqProofs [m1,m2,m3,m4,m5]
 ·rw [if_neg c5]
  have c5': ¬(q:Int)<32:=by omega
  have c6:((q:Int)==127)=false:=ne 127 (by omega)
  have c7: ¬q<32:=by omega
  have c8: ¬q=127:=by omega
  simp -implicitDefEqProofs [c125,d1,d2,d3,d4,c1,c2,c3,c4,c5',c6,c7,c8]
end Go.Ai
namespace Go.Ai
open Go.Proofs Go.Shelf
theorem bld_q:bldAt Tryz.prog 69 69 2:=by unfold bldAt;kernel_rfl
theorem escF_len (r:Nat):(escF r).length≤6:=by
 have h:=hxL_len r
 unfold escF
 repeat' split
 all_goals (simp;try omega)
set_option maxHeartbeats 2000000 in
theorem tquote_spec (s:List UInt8) (hl:s.length≤100000) (hg:goodR (runesL s 0)=true) (hc:(runesL s 0).length≤120):Sp Tryz.prog gl 92 [.str s] (.tup [.str (quL (runesL s 0)),i6 0]):=by
 refine s92 rfl rfl ?_
 have GD:=tgood_spec s (by omega)
 rw [hg] at GD
 have CT:=tcount_spec s (by omega)
 have ct': ¬(120:Int)<((runesL s 0).length:Int):=by omega
 have h0: ∀r∈runesL s 0,0≤r:=fun r hr=>of_decide_eq_true (List.all_eq_true.1 hg r hr)
 have hlen:=runesL_len s s.length 0 (by omega)
 have el:=esL_len (runesL s 0)
 have quE:quL (runesL s 0)=34::(esL (runesL s 0)++[34]):=rfl
 obtain ⟨R,hR⟩: ∃R,R=34::esL (runesL s 0):=⟨_,rfl⟩
 have quR:quL (runesL s 0)=R++[34]:=by rw [quE,hR];rfl
 have RL:R.length≤1000:=by rw [hR,List.length_cons];omega
 rw [quR]
 have WR:=fun (d:Nat) (hb:(Id.n 4).isNw d=false) (c0:AV) hc0 (l:List UInt8) (r:Nat) hr h hl=>wr_spec (d:=d) (b:= .n 4) rfl hb bld_q (c0:=c0) hc0 [] l r hr h hl
 have WS:=fun (d:Nat) (hb:(Id.n 4).isNw d=false) (l s:List UInt8) hl=>ws_spec (d:=d) (b:= .n 4) rfl hb (c0:= .ptr (.n 4) 0) (.inr rfl) l s hl
 have ST:=fun (d:Nat) (hb:(Id.n 4).isNw d=false)=>st_spec (d:=d) (b:= .n 4) rfl hb (c0:= .ptr (.n 4) 0) (R++[34]) (by simp)
 have e34:encN 34=[34]:=rfl
 have bn:byteRows []=[]:=rfl
 have W0:=fun d hd=>WR d hd (.nilT (.n 4) 69 2) (.inl rfl) [] 34 (by left;decide) (by decide) (by decide)
 have W9:=fun d hd=>WR d hd (.ptr (.n 4) 0) (.inr rfl) R 34 (by left;decide) (by decide) (by omega)
 rw [e34] at W0 W9
 rw [List.nil_append] at W0
 simp -implicitDefEqProofs [c92]
 refine onC_mk _ (GD) ?_
 simp -implicitDefEqProofs
 refine onC_mk _ (CT) ?_
 simp -implicitDefEqProofs [ct']
 refine onH_mk _ _ (W0 _ rfl) ⟨?_,?_,?_,?_,?_,?_,?_⟩ ?_
 iterate 7 (· simp [bn])
 simp -implicitDefEqProofs
 refine wp_lpk (α:=Nat×List UInt8) (fun y=>⟨[(4,.ptr (.n 4) 0),(18,.itp 18)],[(.n 4,[.ptr (.n 4) 0,.sl (byteRows y.2)]),(.it 18,[.itr s y.1])],[(.b (.n 4) 1,bk 5)]⟩)
  (fun y=>y.1≤s.length∧(∀r∈runesL s y.1,0≤r)∧y.2++esL (runesL s y.1)=R) (fun y=>s.length - y.1) ?_ (0,[34]) ?_ ?_
 ·rintro K ⟨i,out⟩ hK ⟨h1,h2,h3⟩
  simp only at h1 h2 h3
  have cl:out.length≤1000:=by
   rw [←h3,List.length_append] at RL
   omega
  by_cases g:i<s.length
  ·rw [runesL_in g] at h2 h3
   rw [esL] at h3
   have hr0:0≤(stepR s i).1:=h2 _ (by simp)
   have sr:=step_rune s i g
   have sl:=stepR_le s i g
   have sp:=stepR_pos s i
   have sk:=stepR_okR s i
   rw [if_neg (by omega)] at sr
   have esr:(stepR s i)=((stepR s i).1,(stepR s i).2):=rfl
   rw [esr] at sr
   have fin:=fun σ' hσ=>hK (i+(stepR s i).2,out++esR (stepR s i).1.toNat) σ' ⟨sl,fun r hr=>h2 r (by simp [hr]),by simp only;rw [List.append_assoc];exact h3⟩ (by simp only;omega) hσ
   obtain ⟨q,hq⟩: ∃q:Nat,(stepR s i).1=q:=⟨(stepR s i).1.toNat,by omega⟩
   rw [hq] at sr sk fin
   rw [Int.toNat_natCast,esR_escF] at fin
   clear hK esr hr0 h2 h3 hq ST W0 W9 sp sl
   generalize (stepR s i).2=w at *
   have rv:runeV (q:Int)∧q≤1114111:=by
    rcases sk with sk|sk
    ·omega
    ·unfold runeV;omega
   have ES:=tescape_spec q rv.2
   have W1:=fun d hd=>WS d hd out (escF q) (by have:=escF_len q;omega)
   have W2:=fun d hd=>WR d hd (.ptr (.n 4) 0) (.inr rfl) out q rv.1 rv.2 (by omega)
   clear WS WR
   by_cases c:escF q=[]
   ·rw [if_pos c] at fin
    rw [c] at ES
    generalize encN q=bs at *
    simp -implicitDefEqProofs [g,sr]
    refine onC_mk _ (ES) ?_
    simp -implicitDefEqProofs
    refine onH_mk _ _ (W2 _ rfl) ⟨?_,?_,?_,?_,?_,?_,?_⟩ ?_
    iterate 7 (· simp)
    simp -implicitDefEqProofs
    refine fin _ ?_
    refine weak_mk ?_ ?_ ?_ ?_ ?_ ?_<;>simp -implicitDefEqProofs
   ·rw [if_neg c] at fin
    have c':(escF q).isEmpty=false:=by simpa using c
    generalize escF q=bs at *
    simp -implicitDefEqProofs [g,sr]
    refine onC_mk _ (ES) ?_
    simp -implicitDefEqProofs [c,c']
    refine onH_mk _ _ (W1 _ rfl) ⟨?_,?_,?_,?_,?_,?_,?_⟩ ?_
    iterate 7 (· simp)
    simp -implicitDefEqProofs
    refine fin _ ?_
    refine weak_mk ?_ ?_ ?_ ?_ ?_ ?_<;>simp -implicitDefEqProofs
  ·obtain rfl:i=s.length:=by omega
   rw [runesL_out (by omega),esL,List.append_nil] at h3
   subst h3
   clear hK W0 WS WR
   simp -implicitDefEqProofs
   refine onH_mk _ _ (W9 _ rfl) ⟨?_,?_,?_,?_,?_,?_,?_⟩ ?_
   iterate 7 (· simp)
   simp -implicitDefEqProofs
   refine onH_mk _ _ (ST _ rfl) ⟨?_,?_,?_,?_,?_,?_,?_⟩ ?_
   iterate 7 (· simp)
   simp -implicitDefEqProofs
 ·exact ⟨Nat.zero_le _,h0,hR.symm⟩
 ·refine weak_mk ?_ ?_ ?_ ?_ ?_ ?_<;>simp -implicitDefEqProofs
open Go.Proofs
theorem sprt_1 (k:Int) (hk:k=1) (s:List UInt8) (n:Nat) (l c:Int) (hl:s.length≤100000) (hn:n<18446744073709551616) (hr:tkR k s n=true):Sp Tryz.prog gl 64 [tkA k s n l c] (.str s):=by
 refine s64 rfl rfl ?_
 have RG:=sright_spec k s n l c (by omega)
 rw [hr] at RG
 have d1:(k==1)=true:=by subst hk;decide
 clear hk
 unfold tkA at *
 simp -implicitDefEqProofs [c64]
 refine onC_mk _ (RG) ?_
 simp -implicitDefEqProofs [d1]
theorem sprt_2 (k:Int) (hk:k=2) (s:List UInt8) (n:Nat) (l c:Int) (hl:s.length≤100000) (hn:n<18446744073709551616) (hg:goodR (runesL s 0)=true) (hc:(runesL s 0).length≤120) (hr:tkR k s n=true):Sp Tryz.prog gl 64 [tkA k s n l c] (.str (quL (runesL s 0))):=by
 refine s64 rfl rfl ?_
 have RG:=sright_spec k s n l c (by omega)
 rw [hr] at RG
 have d1:(k==1)=false:=by subst hk;decide
 have d2:(k==2)=true:=by subst hk;decide
 have Q:=tquote_spec s hl hg hc
 generalize quL (runesL s 0)=q at *
 clear hk hg hc
 unfold tkA at *
 simp -implicitDefEqProofs [c64]
 refine onC_mk _ (RG) ?_
 simp -implicitDefEqProofs [d1,d2]
 refine onC_mk _ (Q) ?_
 simp -implicitDefEqProofs
theorem sprt_3 (k:Int) (hk:k=3) (s:List UInt8) (n:Nat) (l c:Int) (hl:s.length≤100000) (hn:n<18446744073709551616) (hr:tkR k s n=true):Sp Tryz.prog gl 64 [tkA k s n l c] (.str (dec n)):=by
 refine s64 rfl rfl ?_
 have RG:=sright_spec k s n l c (by omega)
 rw [hr] at RG
 have d1:(k==1)=false:=by subst hk;decide
 have d2:(k==2)=false:=by subst hk;decide
 have d3:(k==3)=true:=by subst hk;decide
 have F:=fmtd_spec n hn
 generalize dec n=q at *
 clear hk
 unfold tkA at *
 simp -implicitDefEqProofs [c64]
 refine onC_mk _ (RG) ?_
 simp -implicitDefEqProofs [d1,d2,d3]
 refine onC_mk _ (F) ?_
 simp -implicitDefEqProofs
theorem sprt_4 (k:Int) (hk:k=4) (s:List UInt8) (n:Nat) (l c:Int) (hl:s.length≤100000) (hn:n<18446744073709551616) (hr:tkR k s n=true):Sp Tryz.prog gl 64 [tkA k s n l c] (.str (fcP n)):=by
 refine s64 rfl rfl ?_
 have RG:=sright_spec k s n l c (by omega)
 rw [hr] at RG
 have d1:(k==1)=false:=by subst hk;decide
 have d2:(k==2)=false:=by subst hk;decide
 have d3:(k==3)=false:=by subst hk;decide
 have d4:(k==4)=true:=by subst hk;decide
 have F:=sthou_spec n hn
 generalize fcP n=q at *
 clear hk
 unfold tkA at *
 simp -implicitDefEqProofs [c64]
 refine onC_mk _ (RG) ?_
 simp -implicitDefEqProofs [d1,d2,d3,d4]
 refine onC_mk _ (F) ?_
 simp -implicitDefEqProofs
theorem sprt_5 (k:Int) (hk:k=5) (s:List UInt8) (n:Nat) (l c:Int) (hl:s.length≤100000) (hn:n<18446744073709551616) (hm:n≤1000000) (hr:tkR k s n=true):Sp Tryz.prog gl 64 [tkA k s n l c] (.str (shP n)):=by
 refine s64 rfl rfl ?_
 have RG:=sright_spec k s n l c (by omega)
 rw [hr] at RG
 have d1:(k==1)=false:=by subst hk;decide
 have d2:(k==2)=false:=by subst hk;decide
 have d3:(k==3)=false:=by subst hk;decide
 have d4:(k==4)=false:=by subst hk;decide
 have d5:(k==5)=true:=by subst hk;decide
 have F:=sshare_spec n hm
 have w1:IntKind.u32.wrap (n:Int)=n:=by rw [wrap_u32]<;>omega
 generalize shP n=q at *
 clear hk hm
 unfold tkA at *
 simp -implicitDefEqProofs [c64]
 refine onC_mk _ (RG) ?_
 simp -implicitDefEqProofs [d1,d2,d3,d4,d5,w1]
 refine onC_mk _ (F) ?_
 simp -implicitDefEqProofs
theorem sprt_6 (k:Int) (hk:k=6) (s:List UInt8) (n:Nat) (l c:Int) (hl:s.length≤100000) (hn:n<18446744073709551616) (hm:n≤253402300799) (hr:tkR k s n=true):Sp Tryz.prog gl 64 [tkA k s n l c] (.str (spP n)):=by
 refine s64 rfl rfl ?_
 have RG:=sright_spec k s n l c (by omega)
 rw [hr] at RG
 have d1:(k==1)=false:=by subst hk;decide
 have d2:(k==2)=false:=by subst hk;decide
 have d3:(k==3)=false:=by subst hk;decide
 have d4:(k==4)=false:=by subst hk;decide
 have d5:(k==5)=false:=by subst hk;decide
 have d6:(k==6)=true:=by subst hk;decide
 have F:=sprint04_spec n hm
 have w1:IntKind.i64.wrap (n:Int)=n:=by rw [wrap_i64]<;>omega
 generalize spP n=q at *
 clear hk hm
 unfold tkA at *
 simp -implicitDefEqProofs [c64]
 refine onC_mk _ (RG) ?_
 simp -implicitDefEqProofs [d1,d2,d3,d4,d5,d6,w1]
 refine onC_mk _ (F) ?_
 simp -implicitDefEqProofs
theorem sprt_0 (k:Int) (hk:k=0) (s:List UInt8) (n:Nat) (l c:Int) (hl:s.length≤100000) (hn:n<18446744073709551616) (hr:tkR k s n=true):Sp Tryz.prog gl 64 [tkA k s n l c] (.str []):=by
 refine s64 rfl rfl ?_
 have RG:=sright_spec k s n l c (by omega)
 rw [hr] at RG
 have d1:(k==1)=false:=by subst hk;decide
 have d2:(k==2)=false:=by subst hk;decide
 have d3:(k==3)=false:=by subst hk;decide
 have d4:(k==4)=false:=by subst hk;decide
 have d5:(k==5)=false:=by subst hk;decide
 have d6:(k==6)=false:=by subst hk;decide
 have j0:(0:Int)≤k:=by omega
 have j1:k<10:=by omega
 have j2:k.toNat=0:=by omega
 clear hk
 unfold tkA at *
 simp -implicitDefEqProofs [c64]
 refine onC_mk _ (RG) ?_
 simp -implicitDefEqProofs [d1,d2,d3,d4,d5,d6,j0,j1,j2]
theorem sprt_7 (k:Int) (hk:k=7) (s:List UInt8) (n:Nat) (l c:Int) (hl:s.length≤100000) (hn:n<18446744073709551616) (hr:tkR k s n=true):Sp Tryz.prog gl 64 [tkA k s n l c] (.str [123]):=by
 refine s64 rfl rfl ?_
 have RG:=sright_spec k s n l c (by omega)
 rw [hr] at RG
 have d1:(k==1)=false:=by subst hk;decide
 have d2:(k==2)=false:=by subst hk;decide
 have d3:(k==3)=false:=by subst hk;decide
 have d4:(k==4)=false:=by subst hk;decide
 have d5:(k==5)=false:=by subst hk;decide
 have d6:(k==6)=false:=by subst hk;decide
 have j0:(0:Int)≤k:=by omega
 have j1:k<10:=by omega
 have j2:k.toNat=7:=by omega
 clear hk
 unfold tkA at *
 simp -implicitDefEqProofs [c64]
 refine onC_mk _ (RG) ?_
 simp -implicitDefEqProofs [d1,d2,d3,d4,d5,d6,j0,j1,j2]
theorem sprt_8 (k:Int) (hk:k=8) (s:List UInt8) (n:Nat) (l c:Int) (hl:s.length≤100000) (hn:n<18446744073709551616) (hr:tkR k s n=true):Sp Tryz.prog gl 64 [tkA k s n l c] (.str [125]):=by
 refine s64 rfl rfl ?_
 have RG:=sright_spec k s n l c (by omega)
 rw [hr] at RG
 have d1:(k==1)=false:=by subst hk;decide
 have d2:(k==2)=false:=by subst hk;decide
 have d3:(k==3)=false:=by subst hk;decide
 have d4:(k==4)=false:=by subst hk;decide
 have d5:(k==5)=false:=by subst hk;decide
 have d6:(k==6)=false:=by subst hk;decide
 have j0:(0:Int)≤k:=by omega
 have j1:k<10:=by omega
 have j2:k.toNat=8:=by omega
 clear hk
 unfold tkA at *
 simp -implicitDefEqProofs [c64]
 refine onC_mk _ (RG) ?_
 simp -implicitDefEqProofs [d1,d2,d3,d4,d5,d6,j0,j1,j2]
theorem sprt_9 (k:Int) (hk:k=9) (s:List UInt8) (n:Nat) (l c:Int) (hl:s.length≤100000) (hn:n<18446744073709551616) (hr:tkR k s n=true):Sp Tryz.prog gl 64 [tkA k s n l c] (.str [59]):=by
 refine s64 rfl rfl ?_
 have RG:=sright_spec k s n l c (by omega)
 rw [hr] at RG
 have d1:(k==1)=false:=by subst hk;decide
 have d2:(k==2)=false:=by subst hk;decide
 have d3:(k==3)=false:=by subst hk;decide
 have d4:(k==4)=false:=by subst hk;decide
 have d5:(k==5)=false:=by subst hk;decide
 have d6:(k==6)=false:=by subst hk;decide
 have j0:(0:Int)≤k:=by omega
 have j1:k<10:=by omega
 have j2:k.toNat=9:=by omega
 clear hk
 unfold tkA at *
 simp -implicitDefEqProofs [c64]
 refine onC_mk _ (RG) ?_
 simp -implicitDefEqProofs [d1,d2,d3,d4,d5,d6,j0,j1,j2]
theorem sprt_no (k:Int) (s:List UInt8) (n:Nat) (l c:Int) (hl:s.length≤100000) (hr:tkR k s n=false):Sp Tryz.prog gl 64 [tkA k s n l c] (.str [63]):=by
 refine s64 rfl rfl ?_
 have RG:=sright_spec k s n l c (by omega)
 rw [hr] at RG
 unfold tkA at *
 simp -implicitDefEqProofs [c64]
 refine onC_mk _ (RG) ?_
 simp -implicitDefEqProofs
theorem sprt_spec (k:Int) (s:List UInt8) (n:Nat) (l c:Int) (hl:s.length≤100000) (hn:n<18446744073709551616):Sp Tryz.prog gl 64 [tkA k s n l c] (.str (tkP k s n)):=by
 unfold tkP
 cases hr:tkR k s n
 ·rw [if_pos rfl]
  exact sprt_no k s n l c hl hr
 rw [if_neg (by decide)]
 have hr':=hr
 unfold tkR at hr'
 by_cases c1:k=1
 ·rw [if_pos c1]
  exact sprt_1 k c1 s n l c hl hn hr
 rw [if_neg c1] at hr' ⊢
 by_cases c2:k=2
 ·rw [if_pos c2] at hr' ⊢
  rw [Bool.and_eq_true,Bool.and_eq_true,decide_eq_true_iff] at hr'
  exact sprt_2 k c2 s n l c hl hn hr'.1 hr'.2.1 hr
 rw [if_neg c2] at hr' ⊢
 by_cases c3:k=3
 ·rw [if_pos c3]
  exact sprt_3 k c3 s n l c hl hn hr
 rw [if_neg c3]
 by_cases c4:k=4
 ·rw [if_pos c4]
  exact sprt_4 k c4 s n l c hl hn hr
 rw [if_neg c4]
 rw [if_neg (by rintro (h|h);exact c3 h;exact c4 h)] at hr'
 by_cases c5:k=5
 ·rw [if_pos c5] at hr' ⊢
  rw [Bool.and_eq_true,decide_eq_true_iff] at hr'
  exact sprt_5 k c5 s n l c hl hn hr'.2 hr
 rw [if_neg c5] at hr' ⊢
 by_cases c6:k=6
 ·rw [if_pos c6] at hr' ⊢
  rw [Bool.and_eq_true,decide_eq_true_iff] at hr'
  exact sprt_6 k c6 s n l c hl hn hr'.2 hr
 rw [if_neg c6] at hr' ⊢
 by_cases c7:k=7
 ·rw [if_pos c7]
  exact sprt_7 k c7 s n l c hl hn hr
 rw [if_neg c7]
 by_cases c8:k=8
 ·rw [if_pos c8]
  exact sprt_8 k c8 s n l c hl hn hr
 rw [if_neg c8]
 by_cases c9:k=9
 ·rw [if_pos c9]
  exact sprt_9 k c9 s n l c hl hn hr
 rw [if_neg c9]
 by_cases c0:k=0
 ·exact sprt_0 k c0 s n l c hl hn hr
 ·rw [if_neg (by rintro (h|h|h|h);exact c0 h;exact c7 h;exact c8 h;exact c9 h)] at hr'
  cases hr'
open Go.Proofs
theorem tkP_lenS (k:Int) (s:List UInt8) (n:Nat) (hn:n<18446744073709551616) (hl:s.length≤2000):(tkP k s n).length≤3000:=by
 unfold tkP
 cases hr:tkR k s n with
 |false=>rw [if_pos rfl];decide
 |true=>
  rw [if_neg (by decide)]
  by_cases c1:k=1
  ·rw [if_pos c1];omega
  rw [if_neg c1]
  by_cases c2:k=2
  ·rw [if_pos c2]
   subst c2
   obtain ⟨_,_,_,h3⟩:=tkP_quote s n hr
   have:=esL_len (runesL s 0)
   unfold quL
   rw [List.length_cons,List.length_append,List.length_singleton]
   omega
  rw [if_neg c2]
  by_cases c0:1≤k∧k≤9
  ·obtain ⟨s',hs',e⟩: ∃s':List UInt8,s'.length≤500∧tkR k s' n=true∧tkP k s' n=(if k=3 then dec n else if k=4 then fcP n else if k=5 then shP n else if k=6 then spP n else if k=7 then [123] else if k=8 then [125] else if k=9 then [59] else []):=by
    have hs:s=[]:=by
     unfold tkR at hr
     rw [if_neg c1,if_neg c2] at hr
     repeat' split at hr
     all_goals first|(simp at hr;done)|(simp at hr;first|exact hr|exact hr.1)
    refine ⟨s,by rw [hs];decide,hr,?_⟩
    unfold tkP
    rw [hr,if_neg (by decide),if_neg c1,if_neg c2]
   have:=tkP_len ⟨k,s',n,0,0⟩ ⟨c0,hn,e.1⟩ hs'
   dsimp only at this
   rw [e.2] at this
   omega
  ·rw [if_neg (by omega),if_neg (by omega),if_neg (by omega),if_neg (by omega),if_neg (by omega),if_neg (by omega),if_neg (by omega)]
   decide
end Go.Ai
namespace Go.Ai
open Go.Proofs Go.Shelf
def tkS (t:Tk):List UInt8:=tkP t.k t.t t.n
def wdS:List Tk→List UInt8
 |[]=>[]
 |w::r=>32::(tkS w++wdS r)
mutual
def prI:Nat→It→List UInt8
 |d,.mk n ws b ks _ _=>indS d++(n++(wdS ws++(if b=false then [59,10] else 32::123::10::(prL (d+1) ks++(indS d++[125,10])))))
def prL:Nat→List It→List UInt8
 |_,[]=>[]
 |d,x::r=>prI d x++prL d r
end
theorem prL_app (d:Nat): ∀a b:List It,prL d (a++b)=prL d a++prL d b
 |[],b=>rfl
 |x::a,b=>by rw [List.cons_append,prL,prL,prL_app d a b,List.append_assoc]
theorem jt_wds: ∀ws:List Tk,Lib.joinTail [32] (ws.map tkS)=wdS ws
 |[]=>rfl
 |w::ws=>by
  have:=jt_wds ws
  unfold Lib.joinTail at this ⊢
  rw [List.map_cons,List.map_cons,List.flatten_cons,this,wdS]
  simp
theorem join_wds (n:List UInt8) (ws:List Tk):Lib.join (n::ws.map tkS) [32]=n++wdS ws:=by rw [Lib.join_cons,jt_wds]
theorem join_last (x n:List UInt8) (l:List (List UInt8)):Lib.join ((n::l)++[x]) [32]=Lib.join (n::l) [32]++32::x:=by
 rw [List.cons_append,Lib.join_cons,Lib.join_cons]
 unfold Lib.joinTail
 rw [List.map_append,List.flatten_append]
 simp
open Go.Proofs
def nxt:List Tk→List Tk
 |_::y::r=>y::r
 |l=>l
end Go.Ai
namespace Go.Ai
end Go.Ai
