/- P17: a part of the proof: the rules, or what functions compute. Conditions: as each theorem says. -/
import Derived.Test.YthonkjadcpdphaaGreatDoorP16
set_option linter.unusedSimpArgs false
set_option linter.unusedVariables false
set_option maxRecDepth 20000
namespace Go.Ai
open Go.Proofs
set_option maxHeartbeats 1000000 in
theorem rquote_spec (s:List UInt8) (hl:s.length≤100000) (hg: ∀r∈runesL s 0,0≤r):Sp Tryz.prog gl 59 [.str s] (.str (quL (runesL s 0))):=by
 refine s59 rfl rfl ?_
 have RS:=runes_spec s (by omega)
 have hlen:=runesL_len s s.length 0 (by omega)
 have hok:=runesL_okR s s.length 0 (by omega)
 generalize runesL s 0=l at *
 have hr: ∀r∈l,0≤r∧r≤1114111:=fun r h=>by
  have:=hg r h
  rcases hok r h with h|h<;>omega
 have rl:=runeRows_len l
 have rat:=runeRows_at l
 generalize runeRows l=RR at *
 have el:=esL_len l
 unfold quL
 obtain ⟨R,hR⟩: ∃R,R=34::esL l:=⟨_,rfl⟩
 have RL:R.length≤700000:=by rw [hR,List.length_cons];omega
 have e0:34::(esL l++[34])=R++[34]:=by rw [hR];rfl
 rw [e0]
 simp -implicitDefEqProofs [c59]
 refine onC_mk _ (RS) ?_
 simp -implicitDefEqProofs
 refine wp_lpk (α:=List UInt8×Nat) (fun y=>⟨[(3,.str y.1),(4,.sl RR),(5,i6 y.2)],[],[]⟩) (fun y=>y.2≤l.length∧y.1++esL (l.drop y.2)=R) (fun y=>l.length - y.2) ?_ ([34],0) ?_ ?_
 ·rintro K ⟨cur,i⟩ hK ⟨h1,h2⟩
  simp only at h1 h2
  have cl:cur.length≤700000:=by
   rw [←h2,List.length_append] at RL
   omega
  by_cases g:i<l.length
  ·have g':(i:Int)<l.length:=by omega
   have gR:i<RR.length:=by omega
   have ra:=rat i g gR
   have t1:IntKind.i64.wrap ((i:Int)+1)=(i+1:Nat):=by rw [wrap_i64]<;>omega
   have hri:=hr _ (List.getElem_mem g)
   rw [List.drop_eq_getElem_cons g,esL] at h2
   obtain ⟨q,hq⟩: ∃q:Nat,l[i]=q:=⟨l[i].toNat,by omega⟩
   rw [hq] at ra h2 hri
   rw [Int.toNat_natCast] at h2
   have fin:=fun σ' hσ=>hK (cur++esR q,i+1) σ' ⟨g,by simp only;rw [List.append_assoc];exact h2⟩ (by simp only;omega) hσ
   have el2:=esR_len q
   have l0: ∀x:List UInt8,x.length≤6→cur.length+x.length≤9223372036854775807:=fun x hx=>by omega
   have l1:cur.length+2≤9223372036854775807:=by omega
   have l2:cur.length≤9223372036854775805:=by omega
   have BY:=rbytes_spec q (by omega)
   clear hK h2 hq rat hr hok hg RS
   unfold esR at fin el2
   have ne: ∀z:Nat,¬q=z→((q:Int)==(z:Int))=false:=fun z h=>beq_eq_false_iff_ne.2 (by omega)
   by_cases c1:q=34
   ·subst c1
    rw [if_pos rfl] at fin
    simp -implicitDefEqProofs [g,g',gR,ra,rl,l1,l2]
    refine fin _ ?_
    refine weak_mk ?_ ?_ ?_ ?_ ?_ ?_<;>simp -implicitDefEqProofs [t1]
   rw [if_neg c1] at fin el2
   have d1:((q:Int)==34)=false:=ne 34 c1
   by_cases c2:q=92
   ·subst c2
    rw [if_pos rfl] at fin
    simp -implicitDefEqProofs [g,g',gR,ra,rl,l1,l2]
    refine fin _ ?_
    refine weak_mk ?_ ?_ ?_ ?_ ?_ ?_<;>simp -implicitDefEqProofs [t1]
   rw [if_neg c2] at fin el2
   have d2:((q:Int)==92)=false:=ne 92 c2
   by_cases c3:q=10
   ·subst c3
    rw [if_pos rfl] at fin
    simp -implicitDefEqProofs [g,g',gR,ra,rl,l1,l2]
    refine fin _ ?_
    refine weak_mk ?_ ?_ ?_ ?_ ?_ ?_<;>simp -implicitDefEqProofs [t1]
   rw [if_neg c3] at fin el2
   have d3:((q:Int)==10)=false:=ne 10 c3
   by_cases c4:q=9
   ·subst c4
    rw [if_pos rfl] at fin
    simp -implicitDefEqProofs [g,g',gR,ra,rl,l1,l2]
    refine fin _ ?_
    refine weak_mk ?_ ?_ ?_ ?_ ?_ ?_<;>simp -implicitDefEqProofs [t1]
   rw [if_neg c4] at fin el2
   have d4:((q:Int)==9)=false:=ne 9 c4
   by_cases c5:q<32∨q=127
   ·rw [if_pos c5] at fin
    have HX:=rhex_spec q (by omega)
    have hxl:=hxL_len q
    generalize hxL q=hx at *
    have m1:cur.length+3+hx.length≤9223372036854775807:=by omega
    have m2:cur.length+3≤9223372036854775807:=by omega
    have m3:cur.length≤9223372036854775804:=by omega
    have m4:cur.length+(hx.length+3)≤9223372036854775807:=by omega
    have m5:cur.length+(hx.length+3)+1≤9223372036854775807:=by omega
    have m6:cur.length+(hx.length+1+1+1)≤9223372036854775807:=by omega
    have m7:cur.length+(hx.length+1+1+1)≤9223372036854775806:=by omega
    have m8:cur.length+(hx.length+3)≤9223372036854775806:=by omega
    have m9:cur.length+3+hx.length≤9223372036854775806:=by omega
    rcases c5 with c5|c5
    ·have c5':(q:Int)<32:=by omega
     simp -implicitDefEqProofs [g,g',gR,ra,rl,d1,d2,d3,d4,c1,c2,c3,c4,c5,c5',m2,m3]
     refine onC_mk _ (HX) ?_
     simp -implicitDefEqProofs [m1,m2,m3,m4,m5,m6,m7,m8,m9]
     refine fin _ ?_
     refine weak_mk ?_ ?_ ?_ ?_ ?_ ?_<;>simp -implicitDefEqProofs [t1]
    ·subst c5
     simp -implicitDefEqProofs [g,g',gR,ra,rl,m2,m3]
     refine onC_mk _ (HX) ?_
     simp -implicitDefEqProofs [m1,m2,m3,m4,m5,m6,m7,m8,m9]
     refine fin _ ?_
     refine weak_mk ?_ ?_ ?_ ?_ ?_ ?_<;>simp -implicitDefEqProofs [t1]
   ·rw [if_neg c5] at fin el2
    have c5': ¬(q:Int)<32:=by omega
    have c6:((q:Int)==127)=false:=ne 127 (by omega)
    have c7: ¬q<32:=by omega
    have m1:=l0 (encN q) el2
    generalize encN q=bs at *
    have c8: ¬q=127:=by omega
    simp -implicitDefEqProofs [g,g',gR,ra,rl,d1,d2,d3,d4,c1,c2,c3,c4,c5',c6,c7,c8]
    refine onC_mk _ (BY) ?_
    simp -implicitDefEqProofs [m1]
    refine fin _ ?_
    refine weak_mk ?_ ?_ ?_ ?_ ?_ ?_<;>simp -implicitDefEqProofs [t1]
  ·obtain rfl:i=l.length:=by omega
   rw [List.drop_length,esL,List.append_nil] at h2
   subst h2
   have g': ¬(l.length:Int)<l.length:=by omega
   have l2:cur.length≤9223372036854775806:=by omega
   clear hK
   simp -implicitDefEqProofs [g',rl,l2]
 ·exact ⟨Nat.zero_le _,hR.symm⟩
 ·refine weak_mk ?_ ?_ ?_ ?_ ?_ ?_<;>simp -implicitDefEqProofs
open Go.Proofs
def fcP (n:Nat):List UInt8:=dec (n / 1000)++(46::(UInt8.ofNat (48+n%1000 / 100)::frc 10 2 (n%1000%100)))
def tkP (k:Int) (s:List UInt8) (n:Nat):List UInt8:=
 if tkR k s n=false then [63]
 else if k=1 then s
 else if k=2 then quL (runesL s 0)
 else if k=3 then dec n
 else if k=4 then fcP n
 else if k=5 then shP n
 else if k=6 then spP n
 else if k=7 then [123]
 else if k=8 then [125]
 else if k=9 then [59]
 else []
theorem rprt_1 (k:Int) (hk:k=1) (s:List UInt8) (n:Nat) (l c:Int) (hl:s.length≤100000) (hn:n<18446744073709551616) (hr:tkR k s n=true):Sp Tryz.prog gl 20 [tkA k s n l c] (.str s):=by
 refine s20 rfl rfl ?_
 have RG:=rright_spec k s n l c (by omega)
 rw [hr] at RG
 have d1:(k==1)=true:=by subst hk;decide
 clear hk
 unfold tkA at *
 simp -implicitDefEqProofs [c20]
 refine onC_mk _ (RG) ?_
 simp -implicitDefEqProofs [d1]
theorem rprt_2 (k:Int) (hk:k=2) (s:List UInt8) (n:Nat) (l c:Int) (hl:s.length≤100000) (hn:n<18446744073709551616) (hg: ∀r∈runesL s 0,0≤r) (hr:tkR k s n=true):Sp Tryz.prog gl 20 [tkA k s n l c] (.str (quL (runesL s 0))):=by
 refine s20 rfl rfl ?_
 have RG:=rright_spec k s n l c (by omega)
 rw [hr] at RG
 have QU:=rquote_spec s hl hg
 generalize quL (runesL s 0)=out at *
 have d1:(k==1)=false:=by subst hk;decide
 have d2:(k==2)=true:=by subst hk;decide
 clear hk
 unfold tkA at *
 simp -implicitDefEqProofs [c20]
 refine onC_mk _ (RG) ?_
 simp -implicitDefEqProofs [d1]
 refine onB_mk (fun _=>?_) (fun h=>by rw [d2] at h;cases h)
 simp -implicitDefEqProofs
 refine onC_mk _ (QU) ?_
 simp -implicitDefEqProofs
theorem rprt_3 (k:Int) (hk:k=3) (s:List UInt8) (n:Nat) (l c:Int) (hl:s.length≤100000) (hn:n<18446744073709551616) (hr:tkR k s n=true):Sp Tryz.prog gl 20 [tkA k s n l c] (.str (dec n)):=by
 refine s20 rfl rfl ?_
 have RG:=rright_spec k s n l c (by omega)
 rw [hr] at RG
 have DG:=digits13_spec n hn
 generalize dec n=out at *
 have d1:(k==1)=false:=by subst hk;decide
 have d2:(k==2)=false:=by subst hk;decide
 have d3:(k==3)=true:=by subst hk;decide
 clear hk
 unfold tkA at *
 simp -implicitDefEqProofs [c20]
 refine onC_mk _ (RG) ?_
 simp -implicitDefEqProofs [d1,d2]
 refine onB_mk (fun _=>?_) (fun h=>by rw [d3] at h;cases h)
 simp -implicitDefEqProofs
 refine onC_mk _ (DG) ?_
 simp -implicitDefEqProofs
theorem rprt_5 (k:Int) (hk:k=5) (s:List UInt8) (n:Nat) (l c:Int) (hl:s.length≤100000) (hn:n<18446744073709551616) (hm:n≤1000000) (hr:tkR k s n=true):Sp Tryz.prog gl 20 [tkA k s n l c] (.str (shP n)):=by
 refine s20 rfl rfl ?_
 have RG:=rright_spec k s n l c (by omega)
 rw [hr] at RG
 have SH:=rshare_spec n (by omega)
 have w:IntKind.u32.wrap (n:Int)=n:=by rw [wrap_u32]<;>omega
 generalize shP n=out at *
 have d1:(k==1)=false:=by subst hk;decide
 have d2:(k==2)=false:=by subst hk;decide
 have d3:(k==3)=false:=by subst hk;decide
 have d4:(k==4)=false:=by subst hk;decide
 have d5:(k==5)=true:=by subst hk;decide
 clear hk
 unfold tkA at *
 simp -implicitDefEqProofs [c20]
 refine onC_mk _ (RG) ?_
 simp -implicitDefEqProofs [d1,d2,d3,d4]
 refine onB_mk (fun _=>?_) (fun h=>by rw [d5] at h;cases h)
 simp -implicitDefEqProofs [w]
 refine onC_mk _ (SH) ?_
 simp -implicitDefEqProofs
theorem rprt_6 (k:Int) (hk:k=6) (s:List UInt8) (n:Nat) (l c:Int) (hl:s.length≤100000) (hn:n<18446744073709551616) (hm:n≤253402300799) (hr:tkR k s n=true):Sp Tryz.prog gl 20 [tkA k s n l c] (.str (spP n)):=by
 refine s20 rfl rfl ?_
 have RG:=rright_spec k s n l c (by omega)
 rw [hr] at RG
 have SN:=rspan04_spec n hm
 have w:IntKind.i64.wrap (n:Int)=n:=by rw [wrap_i64]<;>omega
 generalize spP n=out at *
 have d1:(k==1)=false:=by subst hk;decide
 have d2:(k==2)=false:=by subst hk;decide
 have d3:(k==3)=false:=by subst hk;decide
 have d4:(k==4)=false:=by subst hk;decide
 have d5:(k==5)=false:=by subst hk;decide
 have d6:(k==6)=true:=by subst hk;decide
 clear hk
 unfold tkA at *
 simp -implicitDefEqProofs [c20]
 refine onC_mk _ (RG) ?_
 simp -implicitDefEqProofs [d1,d2,d3,d4,d5]
 refine onB_mk (fun _=>?_) (fun h=>by rw [d6] at h;cases h)
 simp -implicitDefEqProofs [w]
 refine onC_mk _ (SN) ?_
 simp -implicitDefEqProofs
theorem rprt_7 (k:Int) (hk:k=7) (s:List UInt8) (n:Nat) (l c:Int) (hl:s.length≤100000) (hn:n<18446744073709551616) (hr:tkR k s n=true):Sp Tryz.prog gl 20 [tkA k s n l c] (.str [123]):=by
 refine s20 rfl rfl ?_
 have RG:=rright_spec k s n l c (by omega)
 rw [hr] at RG
 have d1:(k==1)=false:=by subst hk;decide
 have d2:(k==2)=false:=by subst hk;decide
 have d3:(k==3)=false:=by subst hk;decide
 have d4:(k==4)=false:=by subst hk;decide
 have d5:(k==5)=false:=by subst hk;decide
 have d6:(k==6)=false:=by subst hk;decide
 have d7:(k==7)=true:=by subst hk;decide
 clear hk
 unfold tkA at *
 simp -implicitDefEqProofs [c20]
 refine onC_mk _ (RG) ?_
 simp -implicitDefEqProofs [d1,d2,d3,d4,d5,d6,d7]
theorem rprt_8 (k:Int) (hk:k=8) (s:List UInt8) (n:Nat) (l c:Int) (hl:s.length≤100000) (hn:n<18446744073709551616) (hr:tkR k s n=true):Sp Tryz.prog gl 20 [tkA k s n l c] (.str [125]):=by
 refine s20 rfl rfl ?_
 have RG:=rright_spec k s n l c (by omega)
 rw [hr] at RG
 have d1:(k==1)=false:=by subst hk;decide
 have d2:(k==2)=false:=by subst hk;decide
 have d3:(k==3)=false:=by subst hk;decide
 have d4:(k==4)=false:=by subst hk;decide
 have d5:(k==5)=false:=by subst hk;decide
 have d6:(k==6)=false:=by subst hk;decide
 have d7:(k==7)=false:=by subst hk;decide
 have d8:(k==8)=true:=by subst hk;decide
 clear hk
 unfold tkA at *
 simp -implicitDefEqProofs [c20]
 refine onC_mk _ (RG) ?_
 simp -implicitDefEqProofs [d1,d2,d3,d4,d5,d6,d7,d8]
theorem rprt_9 (k:Int) (hk:k=9) (s:List UInt8) (n:Nat) (l c:Int) (hl:s.length≤100000) (hn:n<18446744073709551616) (hr:tkR k s n=true):Sp Tryz.prog gl 20 [tkA k s n l c] (.str [59]):=by
 refine s20 rfl rfl ?_
 have RG:=rright_spec k s n l c (by omega)
 rw [hr] at RG
 have d1:(k==1)=false:=by subst hk;decide
 have d2:(k==2)=false:=by subst hk;decide
 have d3:(k==3)=false:=by subst hk;decide
 have d4:(k==4)=false:=by subst hk;decide
 have d5:(k==5)=false:=by subst hk;decide
 have d6:(k==6)=false:=by subst hk;decide
 have d7:(k==7)=false:=by subst hk;decide
 have d8:(k==8)=false:=by subst hk;decide
 have d9:(k==9)=true:=by subst hk;decide
 clear hk
 unfold tkA at *
 simp -implicitDefEqProofs [c20]
 refine onC_mk _ (RG) ?_
 simp -implicitDefEqProofs [d1,d2,d3,d4,d5,d6,d7,d8,d9]
theorem rprt_0 (k:Int) (hk:k=0) (s:List UInt8) (n:Nat) (l c:Int) (hl:s.length≤100000) (hr:tkR k s n=true):Sp Tryz.prog gl 20 [tkA k s n l c] (.str []):=by
 refine s20 rfl rfl ?_
 have RG:=rright_spec k s n l c (by omega)
 rw [hr] at RG
 have d1:(k==1)=false:=by subst hk;decide
 have d2:(k==2)=false:=by subst hk;decide
 have d3:(k==3)=false:=by subst hk;decide
 have d4:(k==4)=false:=by subst hk;decide
 have d5:(k==5)=false:=by subst hk;decide
 have d6:(k==6)=false:=by subst hk;decide
 have d7:(k==7)=false:=by subst hk;decide
 have d8:(k==8)=false:=by subst hk;decide
 have d9:(k==9)=false:=by subst hk;decide
 clear hk
 unfold tkA at *
 simp -implicitDefEqProofs [c20]
 refine onC_mk _ (RG) ?_
 simp -implicitDefEqProofs [d1,d2,d3,d4,d5,d6,d7,d8,d9]
theorem rprt_no (k:Int) (s:List UInt8) (n:Nat) (l c:Int) (hl:s.length≤100000) (hr:tkR k s n=false):Sp Tryz.prog gl 20 [tkA k s n l c] (.str [63]):=by
 refine s20 rfl rfl ?_
 have RG:=rright_spec k s n l c (by omega)
 rw [hr] at RG
 unfold tkA at *
 simp -implicitDefEqProofs [c20]
 refine onC_mk _ (RG) ?_
 simp -implicitDefEqProofs
open Go.Proofs
set_option maxHeartbeats 1000000 in
theorem rprt_4 (k:Int) (hk:k=4) (s:List UInt8) (n:Nat) (l c:Int) (hl:s.length≤100000) (hn:n<18446744073709551616) (hr:tkR k s n=true):Sp Tryz.prog gl 20 [tkA k s n l c] (.str (fcP n)):=by
 refine s20 rfl rfl ?_
 have RG:=rright_spec k s n l c (by omega)
 rw [hr] at RG
 have d1:(k==1)=false:=by subst hk;decide
 have d2:(k==2)=false:=by subst hk;decide
 have d3:(k==3)=false:=by subst hk;decide
 have d4:(k==4)=true:=by subst hk;decide
 clear hk
 have DG:=digits13_spec (n / 1000) (by omega)
 have DL:(dec (n / 1000)).length≤20:=dec_len 19 _ (by omega)
 have u1:(n:Int).tmod 1000=((n%1000:Nat):Int):=rfl
 have u2:IntKind.u64.wrap ((n%1000:Nat):Int)=((n%1000:Nat):Int):=by rw [wrap_u64]<;>omega
 have u3:IntKind.u64.wrap ((n:Int) / 1000)=((n / 1000:Nat):Int):=by rw [wrap_u64]<;>omega
 have a1:n%1000<1000:=Nat.mod_lt _ (by decide)
 unfold fcP
 generalize dec (n / 1000)=hd at *
 generalize n / 1000=q at *
 generalize n%1000=a at *
 have v1:(a:Int).tmod 100=((a%100:Nat):Int):=rfl
 have v2:IntKind.u64.wrap ((a%100:Nat):Int)=((a%100:Nat):Int):=by rw [wrap_u64]<;>omega
 have v3:IntKind.u64.wrap ((a:Int) / 100)=((a / 100:Nat):Int):=by rw [wrap_u64]<;>omega
 have b9:a / 100≤9:=by omega
 have x9:a%100<100:=Nat.mod_lt _ (by decide)
 generalize a%100=x0 at *
 generalize a / 100=b at *
 have v4:IntKind.u8.wrap (b:Int)=b:=by rw [wrap_u8]<;>omega
 have v5:IntKind.u8.wrap (48+(b:Int))=48+b:=by rw [wrap_u8]<;>omega
 have v6:((48:Int)+(b:Int)).toNat=48+b:=by omega
 have vD:48+UInt8.ofNat b=UInt8.ofNat (48+b):=by simp
 generalize UInt8.ofNat (48+b)=D0 at *
 obtain ⟨R,hR⟩: ∃R,R=hd++(46::(D0::frc 10 2 x0)):=⟨_,rfl⟩
 rw [←hR]
 have ll1:hd.length+1≤9223372036854775807:=by omega
 have ll2:hd.length≤9223372036854775806:=by omega
 have ll3:hd.length≤9223372036854775805:=by omega
 have ll4:hd.length+1+1≤9223372036854775807:=by omega
 have ll5:hd.length+2≤9223372036854775807:=by omega
 unfold tkA at *
 simp -implicitDefEqProofs [c20]
 refine onC_mk _ (RG) ?_
 simp -implicitDefEqProofs [d1,d2,d3]
 refine onB_mk (fun _=>?_) (fun h=>by rw [d4] at h;cases h)
 simp -implicitDefEqProofs [u1,u2,u3]
 refine onC_mk _ (DG) ?_
 simp -implicitDefEqProofs [ll1,ll2,ll3,ll4,ll5,u1,u2,u3,v1,v2,v3,v4,v5,v6,vD]
 refine wp_lpk (α:=List UInt8×Nat×Nat) (fun y=>⟨[(3,u y.2.1),(4,.str y.1)],[],[]⟩) (fun y=>y.2.1<100∧y.2.2≤2∧(y.2.2=1→y.2.1%10=0)∧(y.2.2=0→y.2.1=0)∧y.1.length+y.2.2≤100∧y.1++frc 10 y.2.2 y.2.1=R) (fun y=>y.2.2) ?_ (hd++[46,D0],x0,2) ?_ ?_
 ·rintro K ⟨cur,x,f⟩ hK ⟨h1,h2,h3,h4,h5,h6⟩
  simp only at h1 h2 h3 h4 h5 h6
  by_cases e0:x=0
  ·subst e0
   rw [show frc 10 f 0=[] by cases f<;>rfl,List.append_nil] at h6
   subst h6
   clear hK
   simp -implicitDefEqProofs
  ·obtain ⟨f,rfl⟩: ∃g,f=g+1:=by
    refine ⟨f - 1,?_⟩
    rcases Nat.eq_zero_or_pos f with hf|hf
    ·exact absurd (h4 hf) e0
    ·omega
   rw [frc,if_neg e0] at h6
   have fin:=fun σ' hσ=>hK (cur++[UInt8.ofNat (48+x / 10)],x%10*10,f) σ' ⟨by simp only;omega,by simp only;omega,by simp only;omega,by
    simp only
    intro hf
    have:=h3 (by omega)
    omega,by simp only [List.length_append,List.length_singleton];omega,by simp only;rw [List.append_assoc];exact h6⟩ (by simp only;omega) hσ
   have xp:(0:Int)<x:=by omega
   have xp':0<x:=by omega
   have l1:cur.length+1≤9223372036854775807:=by omega
   have l2:cur.length≤9223372036854775806:=by omega
   have t1:IntKind.u64.wrap ((x:Int) / 10)=((x / 10:Nat):Int):=by rw [wrap_u64]<;>omega
   have t5:(x:Int).tmod 10=((x%10:Nat):Int):=rfl
   have t6:IntKind.u64.wrap ((x%10:Nat):Int)=((x%10:Nat):Int):=by rw [wrap_u64]<;>omega
   have t7:IntKind.u64.wrap (((x%10:Nat):Int)*10)=((x%10*10:Nat):Int):=by rw [wrap_u64]<;>omega
   have q9:x / 10≤9:=by omega
   clear hK h6 h3 h4 hR DG RG
   generalize x%10*10=x' at *
   generalize ((x%10:Nat):Int)=r at *
   generalize x / 10=z at *
   have t2:IntKind.u8.wrap (z:Int)=z:=by rw [wrap_u8]<;>omega
   have t3:IntKind.u8.wrap (48+(z:Int))=48+z:=by rw [wrap_u8]<;>omega
   have t4:((48:Int)+(z:Int)).toNat=48+z:=by omega
   have tD:48+UInt8.ofNat z=UInt8.ofNat (48+z):=by simp
   generalize UInt8.ofNat (48+z)=D at *
   simp -implicitDefEqProofs [xp,xp',t1,t2,t3,t4,t5,t6,t7,l1,l2]
   refine fin _ ?_
   refine weak_mk ?_ ?_ ?_ ?_ ?_ ?_<;>simp -implicitDefEqProofs [t1,t2,t3,t4,t5,t6,t7,tD]
 ·exact ⟨x9,Nat.le_refl _,by simp only;omega,by simp only;omega,by simp only [List.length_append,List.length_cons,List.length_nil];omega,by rw [hR];simp⟩
 ·refine weak_mk ?_ ?_ ?_ ?_ ?_ ?_<;>simp -implicitDefEqProofs [u1,u2,u3,v1,v2,v3,v4,v5,v6,vD]
theorem rprt_spec (k:Int) (s:List UInt8) (n:Nat) (l c:Int) (hl:s.length≤100000) (hn:n<18446744073709551616):Sp Tryz.prog gl 20 [tkA k s n l c] (.str (tkP k s n)):=by
 unfold tkP
 cases hr:tkR k s n
 ·rw [if_pos rfl]
  exact rprt_no k s n l c hl hr
 rw [if_neg (by decide)]
 have hr':=hr
 unfold tkR at hr'
 by_cases c1:k=1
 ·rw [if_pos c1]
  exact rprt_1 k c1 s n l c hl hn hr
 rw [if_neg c1] at hr' ⊢
 by_cases c2:k=2
 ·rw [if_pos c2] at hr' ⊢
  rw [Bool.and_eq_true] at hr'
  have hg:=hr'.1
  unfold goodR at hg
  rw [List.all_eq_true] at hg
  exact rprt_2 k c2 s n l c hl hn (fun r h=>of_decide_eq_true (hg r h)) hr
 rw [if_neg c2] at hr' ⊢
 by_cases c3:k=3
 ·rw [if_pos c3]
  exact rprt_3 k c3 s n l c hl hn hr
 rw [if_neg c3]
 by_cases c4:k=4
 ·rw [if_pos c4]
  exact rprt_4 k c4 s n l c hl hn hr
 rw [if_neg c4]
 rw [if_neg (by rintro (h|h);exact c3 h;exact c4 h)] at hr'
 by_cases c5:k=5
 ·rw [if_pos c5] at hr' ⊢
  rw [Bool.and_eq_true,decide_eq_true_iff] at hr'
  exact rprt_5 k c5 s n l c hl hn hr'.2 hr
 rw [if_neg c5] at hr' ⊢
 by_cases c6:k=6
 ·rw [if_pos c6] at hr' ⊢
  rw [Bool.and_eq_true,decide_eq_true_iff] at hr'
  exact rprt_6 k c6 s n l c hl hn hr'.2 hr
 rw [if_neg c6] at hr' ⊢
 by_cases c7:k=7
 ·rw [if_pos c7]
  exact rprt_7 k c7 s n l c hl hn hr
 rw [if_neg c7]
 by_cases c8:k=8
 ·rw [if_pos c8]
  exact rprt_8 k c8 s n l c hl hn hr
 rw [if_neg c8]
 by_cases c9:k=9
 ·rw [if_pos c9]
  exact rprt_9 k c9 s n l c hl hn hr
 rw [if_neg c9]
 by_cases c0:k=0
 ·exact rprt_0 k c0 s n l c hl hr
 ·rw [if_neg (by rintro (h|h|h|h);exact c0 h;exact c7 h;exact c8 h;exact c9 h)] at hr'
  cases hr'
open Go.Proofs
def asc (t:List UInt8):List Int:=t.map fun b=>(b.toNat:Int)
theorem textR_asc: ∀t:List UInt8,(∀b∈t,b.toNat<128)→textR (asc t)=t
 |[],_=>rfl
 |b::t,h=>by
  have hb:=h b (by simp)
  have e:encR (b.toNat:Int)=[b]:=by
   unfold encR
   rw [if_neg (by omega),Int.toNat_natCast]
   unfold encN
   rw [if_pos hb,UInt8.ofNat_toNat]
  show encR (b.toNat:Int)++textR (asc t)=b::t
  rw [e,textR_asc t (fun x hx=>h x (by simp [hx]))]
  rfl
theorem runes_asc (t:List UInt8) (h: ∀b∈t,b.toNat<128):runesL t 0=asc t:=by
 have:=runesL_textR (asc t) (fun r hr=>by
  obtain ⟨b,hb,rfl⟩:=List.mem_map.1 hr
  have:=h b hb
  unfold okR
  omega)
 rw [textR_asc t h] at this
 exact this
theorem dec_first (n:Nat): ∃b t,dec n=b::t∧48≤b.toNat∧b.toNat≤57:=by
 have h:=dec_dig n
 cases e:dec n with
 |nil=>exact absurd e (dec_ne n)
 |cons b t=>
  rw [e,List.all_cons,Bool.and_eq_true] at h
  exact ⟨b,t,rfl,(isDig_iff b).1 h.1⟩
theorem rV_num (t:List UInt8) (h: ∀b∈t,b.toNat<128) (n:Nat) (r:List UInt8) (e:t=dec n++r):rV (asc t)=wdR t:=by
 obtain ⟨b,s,h1,h2,h3⟩:=dec_first n
 unfold rV
 rw [textR_asc t h,if_neg]
 rw [e,h1]
 rintro (h|h)
 ·cases h
 ·have:digR ((b.toNat:Nat):Int)=false:=h
  unfold digR at this
  rw [decide_eq_false_iff_not] at this
  omega
theorem numF_dec (n:Nat) (h:n<18446744073709551616):numF (dec n)=(n,0):=by
 unfold numF
 rw [okDec_dec,if_pos rfl,undec_dec,if_pos h]
theorem dgsF_dec (n:Nat):dgsF (dec n)=true:=by
 unfold dgsF
 rw [dec_dig,Bool.true_and,decide_eq_true_iff]
 exact List.length_pos_iff.2 (dec_ne n)
theorem wdR_dec (n:Nat) (h:n<18446744073709551616):wdR (dec n)= .t 3 [] n:=by
 unfold wdR
 rw [dgsF_dec,if_pos rfl,numF_dec n h]
 rfl
theorem tw_dec (n:Nat) (r:List UInt8):(dec n++46::r).takeWhile (notB 46)=dec n:=by
 refine tw_app (by simp [notB]) fun b hb=>?_
 have:=(isDig_iff b).1 (List.all_eq_true.1 (dec_dig n) b hb)
 unfold notB
 rw [bne_iff_ne]
 rintro rfl
 simp at this
theorem dg_ofNat {x:Nat} (h:x≤9):(UInt8.ofNat (48+x)).toNat=48+x:=by rw [UInt8.toNat_ofNat'];omega
theorem dgsF_all (t:List UInt8) (h0:t≠[]) (h: ∀b∈t,isDig b=true):dgsF t=true:=by
 unfold dgsF
 rw [List.all_eq_true.2 h,Bool.true_and,decide_eq_true_iff]
 exact List.length_pos_iff.2 h0
theorem fc_tail (a:Nat) (ha:a<1000):dgsF (UInt8.ofNat (48+a / 100)::frc 10 2 (a%100))=true∧(UInt8.ofNat (48+a / 100)::frc 10 2 (a%100)).length≤3∧frU (UInt8.ofNat (48+a / 100)::frc 10 2 (a%100)) 3=a:=by
 have hd: ∀x:Nat,x≤9→isDig (UInt8.ofNat (48+x))=true:=fun x hx=>by rw [isDig_iff,dg_ofNat hx];omega
 have b9:a / 100≤9:=by omega
 by_cases c1:a%100=0
 ·rw [c1]
  show dgsF [UInt8.ofNat (48+a / 100)]=true∧_∧frU [UInt8.ofNat (48+a / 100)] 3=a
  refine ⟨dgsF_all _ (by simp) (fun b hb=>by
   rw [List.mem_singleton] at hb
   rw [hb];exact hd _ b9),by simp [frc],?_⟩
  simp only [frU,dgt,List.getElem?_cons_zero,List.getElem?_cons_succ,List.getElem?_nil,dg_ofNat b9]
  omega
 ·have x9:a%100 / 10≤9:=by omega
  have y9:a%100%10*10 / 10≤9:=by omega
  by_cases c2:a%100%10=0
  ·have e:frc 10 2 (a%100)=[UInt8.ofNat (48+a%100 / 10)]:=by
    rw [frc,if_neg c1,c2]
    rfl
   rw [e]
   refine ⟨dgsF_all _ (by simp) (fun b hb=>by
    rw [List.mem_cons,List.mem_singleton] at hb
    rcases hb with rfl|rfl
    ·exact hd _ b9
    ·exact hd _ x9),by simp,?_⟩
   simp only [frU,dgt,List.getElem?_cons_zero,List.getElem?_cons_succ,List.getElem?_nil,dg_ofNat b9,dg_ofNat x9]
   omega
  ·have e:frc 10 2 (a%100)=[UInt8.ofNat (48+a%100 / 10),UInt8.ofNat (48+a%100%10*10 / 10)]:=by
    rw [frc,if_neg c1,frc,if_neg (by omega)]
    rfl
   rw [e]
   refine ⟨dgsF_all _ (by simp) (fun b hb=>by
    rw [List.mem_cons,List.mem_cons,List.mem_singleton] at hb
    rcases hb with rfl|rfl|rfl
    ·exact hd _ b9
    ·exact hd _ x9
    ·exact hd _ y9),by simp,?_⟩
   simp only [frU,dgt,List.getElem?_cons_zero,List.getElem?_cons_succ,List.getElem?_nil,dg_ofNat b9,dg_ofNat x9,dg_ofNat y9]
   omega
theorem facF_fc (n:Nat) (h:n<18446744073709551616):facF (dec (n / 1000)) (UInt8.ofNat (48+n%1000 / 100)::frc 10 2 (n%1000%100))=(n,0):=by
 obtain ⟨h1,h2,h3⟩:=fc_tail (n%1000) (Nat.mod_lt _ (by decide))
 unfold facF
 rw [h1,h3,if_neg (by rintro (h|h);cases h;omega),numF_dec _ (by omega),if_neg (show ¬((0:Int)≠0) by simp),if_neg (by show ¬(18446744073709551615 - n%1000) / 1000<n / 1000;omega)]
 congr 1
 show 1000*(n / 1000)+n%1000=n
 omega
open Go.Proofs
theorem dgsF_no (a:List UInt8) (b:UInt8) (c:List UInt8) (h:isDig b=false):dgsF (a++b::c)=false:=by
 unfold dgsF
 rw [List.all_append,List.all_cons,h,Bool.false_and,Bool.and_false,Bool.false_and]
theorem byt_last (a b:List UInt8) (h:b≠[]):byt (a++b) ((a++b).length - 1)=byt b (b.length - 1):=by
 have:=List.length_pos_iff.2 h
 rw [List.length_append,show a.length+b.length - 1=a.length+(b.length - 1) by omega,byt_app]
theorem byt_dig {t:List UInt8} (h: ∀b∈t,isDig b=true) {i:Nat} (hi:i<t.length):48≤byt t i∧byt t i≤57:=by
 rw [byt_at hi]
 exact (isDig_iff _).1 (h _ (List.getElem_mem hi))
theorem dgsF_mem {t:List UInt8} (h:dgsF t=true):(∀b∈t,isDig b=true)∧t≠[]:=by
 unfold dgsF at h
 rw [Bool.and_eq_true,decide_eq_true_iff] at h
 exact ⟨List.all_eq_true.1 h.1,List.length_pos_iff.1 h.2⟩
theorem wdR_fc (n:Nat) (h:n<18446744073709551616):wdR (fcP n)= .t 4 [] n:=by
 obtain ⟨h1,h2,h3⟩:=fc_tail (n%1000) (Nat.mod_lt _ (by decide))
 have ff:=facF_fc n h
 have tw:=tw_dec (n / 1000) (UInt8.ofNat (48+n%1000 / 100)::frc 10 2 (n%1000%100))
 obtain ⟨hm,hn⟩:=dgsF_mem h1
 unfold fcP
 generalize UInt8.ofNat (48+n%1000 / 100)::frc 10 2 (n%1000%100)=tl at *
 generalize dec (n / 1000)=hd at *
 have hlen:hd.length<(hd++46::tl).length:=by rw [List.length_append,List.length_cons];omega
 have hlast:byt (hd++46::tl) ((hd++46::tl).length - 1)≠37:=by
  rw [byt_last hd (46::tl) (by simp)]
  have e:(46::tl:List UInt8)=[46]++tl:=rfl
  rw [e,byt_last [46] tl hn]
  have:=byt_dig hm (i:=tl.length - 1) (by have:=List.length_pos_iff.2 hn;omega)
  omega
 unfold wdR
 rw [dgsF_no hd 46 tl (by decide),if_neg (by decide),if_neg hlast]
 have hb:hasB 46 (hd++46::tl)=true:=by
  unfold hasB
  rw [tw,decide_eq_true hlen]
 rw [hb,if_pos rfl,tw]
 have dr:(hd++46::tl).drop (hd.length+1)=tl:=by
  rw [←List.drop_drop,List.drop_left]
  rfl
 rw [dr,ff]
 rfl
theorem fr_tail (y:Nat) (h0:0<y) (hy:y<10000):(∀b∈frc 1000 4 y,isDig b=true)∧1≤(frc 1000 4 y).length∧(frc 1000 4 y).length≤4∧frU (frc 1000 4 y) 4=y∧byt (frc 1000 4 y) ((frc 1000 4 y).length - 1)≠48:=by
 have hd: ∀x:Nat,x≤9→isDig (UInt8.ofNat (48+x))=true:=fun x hx=>by rw [isDig_iff,dg_ofNat hx];omega
 have a9:y / 1000≤9:=by omega
 have b9:y%1000*10 / 1000≤9:=by omega
 have c9:y%1000*10%1000*10 / 1000≤9:=by omega
 have d9:y%1000*10%1000*10%1000*10 / 1000≤9:=by omega
 by_cases c1:y%1000=0
 ·have e:frc 1000 4 y=[UInt8.ofNat (48+y / 1000)]:=by
   rw [frc,if_neg (by omega),c1]
   rfl
  rw [e]
  refine ⟨fun b hb=>by rw [List.mem_singleton] at hb;rw [hb];exact hd _ a9,by simp,by simp,?_,?_⟩
  ·simp only [frU,dgt,List.getElem?_cons_zero,List.getElem?_cons_succ,List.getElem?_nil,dg_ofNat a9]
   omega
  ·show (UInt8.ofNat (48+y / 1000)).toNat≠48
   rw [dg_ofNat a9]
   omega
 by_cases c2:y%100=0
 ·have e:frc 1000 4 y=[UInt8.ofNat (48+y / 1000),UInt8.ofNat (48+y%1000*10 / 1000)]:=by
   rw [frc,if_neg (by omega),frc,if_neg (by omega),show y%1000*10%1000*10=0 by omega]
   rfl
  rw [e]
  refine ⟨fun b hb=>by
   rw [List.mem_cons,List.mem_singleton] at hb
   rcases hb with rfl|rfl
   ·exact hd _ a9
   ·exact hd _ b9,by simp,by simp,?_,?_⟩
  ·simp only [frU,dgt,List.getElem?_cons_zero,List.getElem?_cons_succ,List.getElem?_nil,dg_ofNat a9,dg_ofNat b9]
   omega
  ·show (UInt8.ofNat (48+y%1000*10 / 1000)).toNat≠48
   rw [dg_ofNat b9]
   omega
 by_cases c3:y%10=0
 ·have e:frc 1000 4 y=[UInt8.ofNat (48+y / 1000),UInt8.ofNat (48+y%1000*10 / 1000),UInt8.ofNat (48+y%1000*10%1000*10 / 1000)]:=by
   rw [frc,if_neg (by omega),frc,if_neg (by omega),frc,if_neg (by omega),show y%1000*10%1000*10%1000*10=0 by omega]
   rfl
  rw [e]
  refine ⟨fun b hb=>by
   rw [List.mem_cons,List.mem_cons,List.mem_singleton] at hb
   rcases hb with rfl|rfl|rfl
   ·exact hd _ a9
   ·exact hd _ b9
   ·exact hd _ c9,by simp,by simp,?_,?_⟩
  ·simp only [frU,dgt,List.getElem?_cons_zero,List.getElem?_cons_succ,List.getElem?_nil,dg_ofNat a9,dg_ofNat b9,dg_ofNat c9]
   omega
  ·show (UInt8.ofNat (48+y%1000*10%1000*10 / 1000)).toNat≠48
   rw [dg_ofNat c9]
   omega
 ·have e:frc 1000 4 y=[UInt8.ofNat (48+y / 1000),UInt8.ofNat (48+y%1000*10 / 1000),UInt8.ofNat (48+y%1000*10%1000*10 / 1000),UInt8.ofNat (48+y%1000*10%1000*10%1000*10 / 1000)]:=by
   rw [frc,if_neg (by omega),frc,if_neg (by omega),frc,if_neg (by omega),frc,if_neg (by omega)]
   rfl
  rw [e]
  refine ⟨fun b hb=>by
   rw [List.mem_cons,List.mem_cons,List.mem_cons,List.mem_singleton] at hb
   rcases hb with rfl|rfl|rfl|rfl
   ·exact hd _ a9
   ·exact hd _ b9
   ·exact hd _ c9
   ·exact hd _ d9,by simp,by simp,?_,?_⟩
  ·simp only [frU,dgt,List.getElem?_cons_zero,List.getElem?_cons_succ,List.getElem?_nil,dg_ofNat a9,dg_ofNat b9,dg_ofNat c9,dg_ofNat d9]
   omega
  ·show (UInt8.ofNat (48+y%1000*10%1000*10%1000*10 / 1000)).toNat≠48
   rw [dg_ofNat d9]
   omega
open Go.Proofs
theorem tw_decN (n:Nat):(dec n).takeWhile (notB 46)=dec n:=by
 refine tw_all fun b hb=>?_
 have:=(isDig_iff b).1 (List.all_eq_true.1 (dec_dig n) b hb)
 unfold notB
 rw [bne_iff_ne]
 rintro rfl
 simp at this
theorem pprB_sh (t:List UInt8) (z:Nat) (fr:List UInt8) (b:List UInt8) (hz:z≤100) (hb:b=dec z++fr) (hbt: ∀i,i<b.length→byt t i=byt b i) (y:Nat)
  (hf:(fr=[]∧y=0)∨ ∃tl,fr=46::tl∧(∀x∈tl,isDig x=true)∧1≤tl.length∧tl.length≤4∧frU tl 4=y∧byt tl (tl.length - 1)≠48) (hp:z*10000+y≤1000000):
  pprB t b (dec z).length=(z*10000+y,0):=by
 have okz:=(okDec_iff (dec z)).1 (okDec_dec z)
 have l3:(dec z).length≤3:=dec_len 2 z (by omega)
 have l1:1≤(dec z).length:=List.length_pos_iff.2 (dec_ne z)
 have tk:b.take (dec z).length=dec z:=by rw [hb,List.take_left]
 have fu:frU b (dec z).length=z:=by
  rw [frU_undec b _ (by rw [hb,List.length_append];omega),tk,undec_dec]
 have b0:byt t 0=byt (dec z) 0:=by
  rw [hbt 0 (by rw [hb,List.length_append];omega),hb]
  unfold byt
  rw [List.getElem?_append_left (by omega)]
 have dr:(∀x∈b.drop ((dec z).length+1),isDig x=true)∧frU (b.drop ((dec z).length+1)) 4=y∧ ¬((dec z).length<b.length∧(b.length - 1 - (dec z).length<1∨4<b.length - 1 - (dec z).length∨byt t (b.length - 1)=48)):=by
  rcases hf with ⟨rfl,rfl⟩|⟨tl,rfl,h1,h2,h3,h4,h5⟩
  ·rw [List.append_nil] at hb
   have e:b.drop ((dec z).length+1)=[]:=List.drop_eq_nil_of_le (by rw [hb];omega)
   rw [e]
   refine ⟨(fun x hx=>by cases hx),rfl,?_⟩
   rw [hb]
   omega
  ·have e:b.drop ((dec z).length+1)=tl:=by
    rw [hb,←List.drop_drop,List.drop_left]
    rfl
   have bl:b.length=(dec z).length+1+tl.length:=by rw [hb,List.length_append,List.length_cons];omega
   rw [e]
   refine ⟨h1,h4,?_⟩
   have lst:byt t (b.length - 1)=byt tl (tl.length - 1):=by
    rw [hbt _ (by omega),hb,byt_last (dec z) (46::tl) (by simp)]
    have e2:(46::tl:List UInt8)=[46]++tl:=rfl
    rw [e2,byt_last [46] tl (List.length_pos_iff.1 (by omega))]
   rw [lst]
   rintro ⟨_,q|q|q⟩
   ·omega
   ·omega
   ·exact h5 q
 unfold pprB pprV
 rw [tk,fu,dr.2.1,List.all_eq_true.2 dr.1,okz.2.1]
 rw [if_neg (by rintro (h|h)<;>cases h),if_neg,if_neg (by omega),if_neg (by omega)]
 rintro (h|h|⟨h,h'⟩)
 ·exact dr.2.2 h
 ·omega
 ·rw [b0] at h
  exact okz.2.2 ⟨h,h'⟩
theorem wdR_sh (p:Nat) (h:p≤1000000):wdR (shP p)= .t 5 [] p:=by
 have ez:p / 10000*10000+p%10000=p:=by omega
 have hz:p / 10000≤100:=by omega
 have hy:p%10000<10000:=Nat.mod_lt _ (by decide)
 unfold shP
 rw [if_neg (by omega)]
 generalize p / 10000=z at *
 generalize p%10000=y at *
 subst ez
 obtain ⟨fr,hfr⟩: ∃fr,fr=(if y=0 then [] else [46])++frc 1000 4 y:=⟨_,rfl⟩
 have et:dec z++((if y=0 then [] else [46])++(frc 1000 4 y++[37]))=dec z++fr++[37]:=by
  rw [hfr]
  simp [List.append_assoc]
 rw [et]
 have hf:(fr=[]∧y=0)∨ ∃tl,fr=46::tl∧(∀x∈tl,isDig x=true)∧1≤tl.length∧tl.length≤4∧frU tl 4=y∧byt tl (tl.length - 1)≠48:=by
  by_cases c:y=0
  ·left
   rw [hfr,if_pos c,c]
   exact ⟨rfl,rfl⟩
  ·right
   refine ⟨frc 1000 4 y,?_,fr_tail y (by omega) hy⟩
   rw [hfr,if_neg c]
   rfl
 clear hfr et
 have l1:1≤(dec z).length:=List.length_pos_iff.2 (dec_ne z)
 have tw:(dec z++fr).takeWhile (notB 46)=dec z:=by
  rcases hf with ⟨rfl,_⟩|⟨tl,rfl,_⟩
  ·rw [List.append_nil,tw_decN]
  ·exact tw_dec z tl
 have hl:(dec z++fr++[37]).length=(dec z++fr).length+1:=by rw [List.length_append];rfl
 have hlast:byt (dec z++fr++[37]) ((dec z++fr++[37]).length - 1)=37:=by
  rw [byt_last _ [37] (by simp)]
  rfl
 have tk:(dec z++fr++[37]).take ((dec z++fr++[37]).length - 1)=dec z++fr:=by
  rw [hl,show (dec z++fr).length+1 - 1=(dec z++fr).length by omega,List.take_left]
 have PB:=pprB_sh (dec z++fr++[37]) z fr (dec z++fr) hz rfl (fun i hi=>by
  unfold byt
  rw [List.getElem?_append_left hi]) y hf h
 have pf:pprF (dec z++fr++[37])=(z*10000+y,0):=by
  unfold pprF
  rw [if_neg (by
   rintro (h|h)
   ·rw [hl,List.length_append] at h;omega
   ·exact h hlast),tk,tw]
  exact PB
 unfold wdR
 rw [show dec z++fr++[37]=(dec z++fr)++37::[] from rfl,dgsF_no (dec z++fr) 37 [] (by decide),if_neg (by decide)]
 rw [show (dec z++fr)++37::[]=dec z++fr++[37] from rfl,if_pos hlast,pf]
 rfl
end Go.Ai
