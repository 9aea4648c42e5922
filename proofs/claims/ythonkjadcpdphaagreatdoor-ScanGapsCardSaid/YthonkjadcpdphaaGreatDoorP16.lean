/- P16: a part of the proof: the rules, or what functions compute. Conditions: as each theorem says. -/
import Derived.Test.YthonkjadcpdphaaGreatDoorP9
import Derived.Test.YthonkjadcpdphaaGreatDoorP1
import Derived.Test.YthonkjadcpdphaaGreatDoorAiShelf2
import Derived.Test.YthonkjadcpdphaaGreatDoorP15
set_option linter.unusedSimpArgs false
set_option linter.unusedVariables false
set_option maxRecDepth 20000
namespace Go.Ai
open Go.Proofs Go.Shelf Go.RowKit Go.Sort Go.Lib
end Go.Ai
namespace Go.Ai
open Go.Proofs Go.RowKit
theorem digits13_spec (n:Nat) (h:n<18446744073709551616):Sp Tryz.prog gl 60 [u n] (.str (dec n)):=by
 refine s60 rfl rfl ?_
 have B:=bits_spec n (by omega)
 have D:=digits_spec (bitsOf n 128) (by simp [bitsOf])
 rw [bitsOf_val128 n (by omega)] at D
 rw [show wide n= .agg [u 0,u n] by unfold wide;rw [Nat.div_eq_of_lt h,Nat.mod_eq_of_lt h]] at B
 unfold bl at B D
 generalize dec n=out at *
 generalize List.map (fun b=>[AV.bool b]) (bitsOf n 128)=bs at *
 simp -implicitDefEqProofs [c60]
 refine onC_mk _ B ?_
 simp -implicitDefEqProofs
 refine onC_mk _ D ?_
 simp -implicitDefEqProofs
open Go.Proofs
def frc (m:Nat):Nat→Nat→List UInt8
 |0,_=>[]
 |f+1,x=>if x=0 then [] else UInt8.ofNat (48+x / m)::frc m f (x%m*10)
def shP (p:Nat):List UInt8:=if 1000000<p then [63] else dec (p / 10000)++((if p%10000=0 then [] else [46])++(frc 1000 4 (p%10000)++[37]))
def p10:Nat→Nat
 |4=>1
 |3=>10
 |2=>100
 |1=>1000
 |_=>10000
theorem rshare_spec (p:Nat) (hp:p<4294967296):Sp Tryz.prog gl 61 [.int .u32 p] (.str (shP p)):=by
 refine s61 rfl rfl ?_
 unfold shP
 by_cases c:1000000<p
 ·have c':(1000000:Int)<p:=by omega
  rw [if_pos c]
  simp -implicitDefEqProofs [c61,c,c']
 have c': ¬(1000000:Int)<p:=by omega
 rw [if_neg c]
 have w1:IntKind.u32.wrap ((p:Int) / 10000)=((p / 10000:Nat):Int):=by rw [wrap_u32]<;>omega
 have w2:IntKind.u64.wrap ((p / 10000:Nat):Int)=((p / 10000:Nat):Int):=by rw [wrap_u64]<;>omega
 have w3:(p:Int).tmod 10000=((p%10000:Nat):Int):=rfl
 have w4:IntKind.u32.wrap ((p%10000:Nat):Int)=((p%10000:Nat):Int):=by rw [wrap_u32]<;>omega
 have BS:=bits_spec (p / 10000) (by omega)
 have hw:wide (p / 10000)= .agg [u 0,u (p / 10000:Nat)]:=by
  unfold wide
  rw [Nat.div_eq_of_lt (by omega),Nat.mod_eq_of_lt (by omega)]
 rw [hw] at BS
 have DG:=digits_spec (bitsOf (p / 10000) 128) (by simp [bitsOf])
 rw [bitsOf_val128 (p / 10000) (by omega)] at DG
 unfold bl at BS DG
 have bq:p%10000<10000:=Nat.mod_lt _ (by decide)
 clear c hw
 have hdl:(dec (p / 10000)).length≤20:=dec_len 19 _ (by omega)
 generalize dec (p / 10000)=hd at *
 generalize List.map (fun b=>[AV.bool b]) (bitsOf (p / 10000) 128)=bs at *
 generalize p / 10000=z at *
 obtain ⟨R,hR⟩: ∃R,R=hd++((if p%10000=0 then [] else [46])++(frc 1000 4 (p%10000)++[37])):=⟨_,rfl⟩
 rw [←hR]
 by_cases c0:p%10000=0
 ·rw [if_pos c0,c0] at hR
  rw [c0] at w3 w4
  have e0:frc 1000 4 0=[]:=rfl
  rw [e0,List.nil_append,List.nil_append] at hR
  simp -implicitDefEqProofs [c61,c',w1,w2,w3,w4]
  refine onC_mk _ (BS) ?_
  simp -implicitDefEqProofs
  refine onC_mk _ (DG) ?_
  simp -implicitDefEqProofs [w3,w4]
  refine wp_lpk (α:=List UInt8×Nat×Nat) (fun y=>⟨[(3,.str y.1),(4,.int .u32 y.2.1)],[],[]⟩) (fun y=>y.2.1<10000∧y.2.2≤4∧y.2.1%p10 y.2.2=0∧y.1.length≤100∧y.1++(frc 1000 y.2.2 y.2.1++[37])=R∧y.1.length+y.2.2≤100) (fun y=>y.2.2) ?_ (hd,0,4) ?_ ?_
  ·rintro K ⟨cur,x,f⟩ hK ⟨h1,h2,h3,h4,h5,h6⟩
   simp only at h1 h2 h3 h4 h5 h6
   by_cases x0:x=0
   ·subst x0
    have e0:frc 1000 f 0=[]:=by cases f<;>rfl
    rw [e0,List.nil_append] at h5
    subst h5
    have l1:cur.length+1≤9223372036854775807:=by omega
    have l2:cur.length≤9223372036854775806:=by omega
    clear hK
    simp -implicitDefEqProofs [l1,l2]
   ·obtain ⟨f,rfl⟩: ∃g,f=g+1:=by
     refine ⟨f - 1,?_⟩
     rcases Nat.eq_zero_or_pos f with hf|hf
     ·subst hf
      have h3:x%10000=0:=h3
      omega
     ·omega
    rw [frc,if_neg x0] at h5
    have fin:=fun σ' hσ=>hK (cur++[UInt8.ofNat (48+x / 1000)],x%1000*10,f) σ' ⟨by simp only;omega,by simp only;omega,by
     simp only
     obtain rfl|rfl|rfl|rfl:f=0∨f=1∨f=2∨f=3:=by omega
     ·have h3:x%1000=0:=h3
      show x%1000*10%10000=0
      omega
     ·have h3:x%100=0:=h3
      show x%1000*10%1000=0
      omega
     ·have h3:x%10=0:=h3
      show x%1000*10%100=0
      omega
     ·show x%1000*10%10=0
      omega,by simp only [List.length_append,List.length_singleton];omega,by rw [List.append_assoc];exact h5,by simp only [List.length_append,List.length_singleton];omega⟩ (by simp only;omega) hσ
    have xp:(0:Int)<x:=by omega
    have xp':0<x:=by omega
    have l1:cur.length+1≤9223372036854775807:=by omega
    have l2:cur.length≤9223372036854775806:=by omega
    have v1:IntKind.u32.wrap ((x:Int) / 1000)=((x / 1000:Nat):Int):=by rw [wrap_u32]<;>omega
    have v5:(x:Int).tmod 1000=((x%1000:Nat):Int):=rfl
    have v6:IntKind.u32.wrap ((x%1000:Nat):Int)=((x%1000:Nat):Int):=by rw [wrap_u32]<;>omega
    have v7:IntKind.u32.wrap (((x%1000:Nat):Int)*10)=((x%1000*10:Nat):Int):=by rw [wrap_u32]<;>omega
    have q9:x / 1000≤9:=by omega
    generalize x%1000*10=x' at *
    generalize ((x%1000:Nat):Int)=r at *
    generalize x / 1000=q at *
    have v2:IntKind.u8.wrap (q:Int)=q:=by rw [wrap_u8]<;>omega
    have v3:IntKind.u8.wrap (48+(q:Int))=48+q:=by rw [wrap_u8]<;>omega
    have v4:((48:Int)+(q:Int)).toNat=48+q:=by omega
    clear hK h5 h3
    have vD:48+UInt8.ofNat q=UInt8.ofNat (48+q):=by simp
    generalize UInt8.ofNat (48+q)=D at *
    simp -implicitDefEqProofs [xp,xp',v1,v2,v3,v4,v5,v6,v7,l1,l2]
    refine fin _ ?_
    refine weak_mk ?_ ?_ ?_ ?_ ?_ ?_<;>simp -implicitDefEqProofs [v1,v2,v3,v4,v5,v6,v7,vD]
  ·exact ⟨by simp only;omega,Nat.le_refl _,rfl,by simp only;omega,hR.symm,by simp only;omega⟩
  ·refine weak_mk ?_ ?_ ?_ ?_ ?_ ?_<;>simp -implicitDefEqProofs
 ·rw [if_neg c0] at hR
  have c0':(0:Int)<((p%10000:Nat):Int):=by omega
  have c0'':0<p%10000:=by omega
  generalize p%10000=pr at *
  have ll:hd.length≤9223372036854775806:=by omega
  simp -implicitDefEqProofs [c61,c',w1,w2,w3,w4]
  refine onC_mk _ (BS) ?_
  simp -implicitDefEqProofs
  refine onC_mk _ (DG) ?_
  simp -implicitDefEqProofs [w3,w4,c0',c0'',ll]
  refine wp_lpk (α:=List UInt8×Nat×Nat) (fun y=>⟨[(3,.str y.1),(4,.int .u32 y.2.1)],[],[]⟩) (fun y=>y.2.1<10000∧y.2.2≤4∧y.2.1%p10 y.2.2=0∧y.1.length≤100∧y.1++(frc 1000 y.2.2 y.2.1++[37])=R∧y.1.length+y.2.2≤100) (fun y=>y.2.2) ?_ (hd++[46],pr,4) ?_ ?_
  ·rintro K ⟨cur,x,f⟩ hK ⟨h1,h2,h3,h4,h5,h6⟩
   simp only at h1 h2 h3 h4 h5 h6
   by_cases x0:x=0
   ·subst x0
    have e0:frc 1000 f 0=[]:=by cases f<;>rfl
    rw [e0,List.nil_append] at h5
    subst h5
    have l1:cur.length+1≤9223372036854775807:=by omega
    have l2:cur.length≤9223372036854775806:=by omega
    clear hK
    simp -implicitDefEqProofs [l1,l2]
   ·obtain ⟨f,rfl⟩: ∃g,f=g+1:=by
     refine ⟨f - 1,?_⟩
     rcases Nat.eq_zero_or_pos f with hf|hf
     ·subst hf
      have h3:x%10000=0:=h3
      omega
     ·omega
    rw [frc,if_neg x0] at h5
    have fin:=fun σ' hσ=>hK (cur++[UInt8.ofNat (48+x / 1000)],x%1000*10,f) σ' ⟨by simp only;omega,by simp only;omega,by
     simp only
     obtain rfl|rfl|rfl|rfl:f=0∨f=1∨f=2∨f=3:=by omega
     ·have h3:x%1000=0:=h3
      show x%1000*10%10000=0
      omega
     ·have h3:x%100=0:=h3
      show x%1000*10%1000=0
      omega
     ·have h3:x%10=0:=h3
      show x%1000*10%100=0
      omega
     ·show x%1000*10%10=0
      omega,by simp only [List.length_append,List.length_singleton];omega,by rw [List.append_assoc];exact h5,by simp only [List.length_append,List.length_singleton];omega⟩ (by simp only;omega) hσ
    have xp:(0:Int)<x:=by omega
    have xp':0<x:=by omega
    have l1:cur.length+1≤9223372036854775807:=by omega
    have l2:cur.length≤9223372036854775806:=by omega
    have v1:IntKind.u32.wrap ((x:Int) / 1000)=((x / 1000:Nat):Int):=by rw [wrap_u32]<;>omega
    have v5:(x:Int).tmod 1000=((x%1000:Nat):Int):=rfl
    have v6:IntKind.u32.wrap ((x%1000:Nat):Int)=((x%1000:Nat):Int):=by rw [wrap_u32]<;>omega
    have v7:IntKind.u32.wrap (((x%1000:Nat):Int)*10)=((x%1000*10:Nat):Int):=by rw [wrap_u32]<;>omega
    have q9:x / 1000≤9:=by omega
    generalize x%1000*10=x' at *
    generalize ((x%1000:Nat):Int)=r at *
    generalize x / 1000=q at *
    have v2:IntKind.u8.wrap (q:Int)=q:=by rw [wrap_u8]<;>omega
    have v3:IntKind.u8.wrap (48+(q:Int))=48+q:=by rw [wrap_u8]<;>omega
    have v4:((48:Int)+(q:Int)).toNat=48+q:=by omega
    clear hK h5 h3
    have vD:48+UInt8.ofNat q=UInt8.ofNat (48+q):=by simp
    generalize UInt8.ofNat (48+q)=D at *
    simp -implicitDefEqProofs [xp,xp',v1,v2,v3,v4,v5,v6,v7,l1,l2]
    refine fin _ ?_
    refine weak_mk ?_ ?_ ?_ ?_ ?_ ?_<;>simp -implicitDefEqProofs [v1,v2,v3,v4,v5,v6,v7,vD]
  ·exact ⟨bq,Nat.le_refl _,Nat.mod_one _,by simp only [List.length_append,List.length_singleton];omega,by rw [hR];exact List.append_assoc _ _ _,by simp only [List.length_append,List.length_singleton];omega⟩
  ·refine weak_mk ?_ ?_ ?_ ?_ ?_ ?_<;>simp -implicitDefEqProofs
open Go.Proofs
theorem dec_cons (n:Nat) (s:List UInt8) (h:0<n):dec n++s=if n / 10=0 then UInt8.ofNat (48+n%10)::s else dec (n / 10)++(UInt8.ofNat (48+n%10)::s):=by
 by_cases g:n<10
 ·rw [dec_lt g,if_pos (by omega),show n%10=n by omega]
  rfl
 ·rw [dec_ge g,if_neg (by omega),List.append_assoc]
  rfl
theorem rdig04_spec (n:Nat) (hn:n≤253402300799):Sp Tryz.prog gl 115 [i6 n] (.str (dec n)):=by
 refine s115 rfl rfl ?_
 obtain ⟨R,hR⟩: ∃R,R=dec n:=⟨_,rfl⟩
 rw [←hR]
 have byte: ∀m:Nat,m≤253402300799→(m:Int).tmod 10=((m%10:Nat):Int)∧IntKind.i64.wrap ((m%10:Nat):Int)=((m%10:Nat):Int)∧IntKind.u8.wrap ((m%10:Nat):Int)=((m%10:Nat):Int)∧IntKind.u8.wrap (48+((m%10:Nat):Int))=48+((m%10:Nat):Int)∧
   ((48:Int)+((m%10:Nat):Int)).toNat=48+m%10∧IntKind.i64.wrap ((m:Int) / 10)=((m / 10:Nat):Int):=fun m hm=>by
  refine ⟨rfl,?_,?_,?_,?_,?_⟩
  ·rw [wrap_i64]<;>omega
  ·rw [wrap_u8]<;>omega
  ·rw [wrap_u8]<;>omega
  ·omega
  ·rw [wrap_i64]<;>omega
 have h0:(if n / 10=0 then [UInt8.ofNat (48+n%10)] else dec (n / 10)++[UInt8.ofNat (48+n%10)])=R:=by
  rw [hR]
  by_cases c:n<10
  ·rw [dec_lt c,if_pos (by omega),show n%10=n by omega]
  ·rw [dec_ge c,if_neg (by omega)]
 obtain ⟨b1,b2,b3,b4,b5,b6⟩:=byte n hn
 have hl:n / 10≤253402300799:=by omega
 have vD:48+UInt8.ofNat (n%10)=UInt8.ofNat (48+n%10):=by simp
 have RL:R.length≤100:=by
  rw [hR]
  have:=dec_len 19 n (by omega)
  omega
 clear hR
 generalize UInt8.ofNat (48+n%10)=D0 at *
 generalize n%10=r0 at *
 generalize n / 10=q0 at *
 simp -implicitDefEqProofs [c115,b1,b2,b3,b4,b5,b6,vD]
 refine wp_lpk (α:=List UInt8×Nat) (fun y=>⟨[(0,i6 y.2),(3,.str y.1)],[],[]⟩) (fun y=>y.2≤253402300799∧(if y.2=0 then y.1 else dec y.2++y.1)=R) (fun y=>y.2) ?_ ([D0],q0) ?_ ?_
 ·rintro K ⟨cur,m⟩ hK ⟨h1,h2⟩
  simp only at h1 h2
  by_cases m0:m=0
  ·subst m0
   rw [if_pos rfl] at h2
   subst h2
   clear hK
   simp -implicitDefEqProofs
  ·rw [if_neg m0] at h2
   have cl:cur.length≤100:=by
    rw [←h2,List.length_append] at RL
    omega
   rw [dec_cons m cur (by omega)] at h2
   have fin:=fun σ' hσ=>hK (UInt8.ofNat (48+m%10)::cur,m / 10) σ' ⟨by simp only;omega,h2⟩ (by simp only;omega) hσ
   obtain ⟨b1,b2,b3,b4,b5,b6⟩:=byte m h1
   have vD:48+UInt8.ofNat (m%10)=UInt8.ofNat (48+m%10):=by simp
   have mp:(0:Int)<m:=by omega
   have mp':0<m:=by omega
   have l1:cur.length+1≤9223372036854775807:=by omega
   have l2:1+cur.length≤9223372036854775807:=by omega
   clear hK h2 byte
   generalize UInt8.ofNat (48+m%10)=D at *
   generalize m%10=r at *
   generalize m / 10=q at *
   simp -implicitDefEqProofs [mp,mp',b1,b2,b3,b4,b5,b6,vD,l1,l2]
   refine fin _ ?_
   refine weak_mk ?_ ?_ ?_ ?_ ?_ ?_<;>simp -implicitDefEqProofs [b1,b2,b3,b4,b5,b6,vD]
 ·exact ⟨hl,h0⟩
 ·refine weak_mk ?_ ?_ ?_ ?_ ?_ ?_<;>simp -implicitDefEqProofs [b1,b2,b3,b4,b5,b6,vD]
def unL:List (Nat×UInt8):=[(604800,119),(86400,100),(3600,104),(60,109),(1,115)]
def spG:List (Nat×UInt8)→Nat→List UInt8
 |[],_=>[]
 |(u,c)::l,n=>if u≤n then dec (n / u)++(c::spG l (n%u)) else spG l n
def spP (n:Nat):List UInt8:=if n=0 then [48,115] else spG unL n
open Go.Proofs
theorem spG_len: ∀(l:List (Nat×UInt8)) (n:Nat),n≤253402300799→(spG l n).length≤21*l.length
 |[],n,h=>by simp [spG]
 |(u,c)::l,n,h=>by
  rw [spG]
  split
  ·have h1:n / u≤n:=Nat.div_le_self _ _
   have h2:n%u≤n:=Nat.mod_le _ _
   have a:=spG_len l (n%u) (by omega)
   have b:=dec_len 19 (n / u) (by omega)
   simp only [List.length_append,List.length_cons]
   omega
  ·have a:=spG_len l n h
   simp only [List.length_cons]
   omega
theorem spG_nil (n:Nat):spG unL n=[]↔n=0:=by
 constructor
 ·intro h
  unfold unL at h
  simp only [spG] at h
  repeat' (split at h)
  all_goals first|omega|(simp at h)
 ·rintro rfl
  rfl
set_option maxHeartbeats 1000000 in
theorem rspan04_spec (n:Nat) (hn:n≤253402300799):Sp Tryz.prog gl 62 [i6 n] (.str (spP n)):=by
 refine s62 rfl rfl ?_
 have g1: ¬(n:Int)<0:=by omega
 have g2: ¬(253402300799:Int)<n:=by omega
 have RL:=spG_len unL n hn
 have RN:=spG_nil n
 have hl5:unL.length=5:=rfl
 unfold spP
 obtain ⟨R,hR⟩: ∃R,R=spG unL n:=⟨_,rfl⟩
 rw [←hR] at RL RN ⊢
 rw [hl5] at RL
 simp -implicitDefEqProofs [c62,g1,g2]
 refine wp_lpk (α:=Nat×List UInt8×Nat) (fun y=>⟨[(0,i6 y.2.2),(3,.str y.2.1),(4,.str [119,100,104,109,115]),(5,i6 y.1)],[],[]⟩) (fun y=>y.1≤5∧y.2.2≤253402300799∧y.2.1++spG (unL.drop y.1) y.2.2=R) (fun y=>5 - y.1) ?_ (0,[],n) ?_ ?_
 ·rintro K ⟨i,s,m⟩ hK ⟨h1,h2,h3⟩
  simp only at h1 h2 h3
  have sl:s.length≤105:=by
   rw [←h3,List.length_append] at RL
   omega
  obtain rfl|rfl|rfl|rfl|rfl|rfl:i=0∨i=1∨i=2∨i=3∨i=4∨i=5:=by omega
  ·have U:=runit04_spec 119
   rw [show unitZ 119=604800 from rfl] at U
   rw [show unL.drop 0=(604800,119)::unL.drop 1 from rfl,spG] at h3
   have fin:=fun s' m' b1 b2 σ' hσ=>hK (1,s',m') σ' ⟨by omega,b1,b2⟩ (by simp only;omega) hσ
   have wi:IntKind.i64.wrap 1=1:=by decide
   clear hK
   by_cases gu:604800≤m
   ·have gu':(604800:Int)≤m:=by omega
    rw [if_pos gu] at h3
    have DG:=rdig04_spec (m / 604800) (by omega)
    have dl:=dec_len 19 (m / 604800) (by omega)
    have d0:(m:Int).tdiv 604800=((m / 604800:Nat):Int):=rfl
    have d1:IntKind.i64.wrap ((m:Int) / 604800)=((m / 604800:Nat):Int):=by rw [wrap_i64]<;>omega
    have d2:(m:Int).tmod 604800=((m%604800:Nat):Int):=rfl
    have d3:IntKind.i64.wrap ((m%604800:Nat):Int)=((m%604800:Nat):Int):=by rw [wrap_i64]<;>omega
    have d4:IntKind.i64.wrap ((m / 604800:Nat):Int)=((m / 604800:Nat):Int):=by rw [wrap_i64]<;>omega
    have d5:IntKind.i64.wrap ((m:Int)%604800)=((m%604800:Nat):Int):=by rw [wrap_i64]<;>omega
    have mb:m%604800≤253402300799:=by omega
    have fin:=fin (s++(dec (m / 604800)++[119])) (m%604800) mb (by rw [←h3];simp)
    generalize dec (m / 604800)=D at *
    generalize m / 604800=q at *
    generalize m%604800=r at *
    have l1:s.length+D.length≤9223372036854775807:=by omega
    have l2:s.length+(D.length+1)≤9223372036854775807:=by omega
    have l3:s.length+D.length+1≤9223372036854775807:=by omega
    have l4:s.length+D.length≤9223372036854775806:=by omega
    simp -implicitDefEqProofs
    refine onC_mk _ (U) ?_
    simp -implicitDefEqProofs [gu,gu',d0,d1,d2,d3,d4,d5]
    refine onC_mk _ (DG) ?_
    simp -implicitDefEqProofs [l1,l2,l3,l4,wi]
    refine fin _ ?_
    refine weak_mk ?_ ?_ ?_ ?_ ?_ ?_<;>simp -implicitDefEqProofs [wi,d0,d1,d2,d3,d4,d5]
   ·have gu': ¬(604800:Int)≤m:=by omega
    rw [if_neg gu] at h3
    have fin:=fin s m h2 h3
    simp -implicitDefEqProofs
    refine onC_mk _ (U) ?_
    simp -implicitDefEqProofs [gu,gu']
    refine fin _ ?_
    refine weak_mk ?_ ?_ ?_ ?_ ?_ ?_<;>simp -implicitDefEqProofs [wi]
  ·have U:=runit04_spec 100
   rw [show unitZ 100=86400 from rfl] at U
   rw [show unL.drop 1=(86400,100)::unL.drop 2 from rfl,spG] at h3
   have fin:=fun s' m' b1 b2 σ' hσ=>hK (2,s',m') σ' ⟨by omega,b1,b2⟩ (by simp only;omega) hσ
   have wi:IntKind.i64.wrap 2=2:=by decide
   clear hK
   by_cases gu:86400≤m
   ·have gu':(86400:Int)≤m:=by omega
    rw [if_pos gu] at h3
    have DG:=rdig04_spec (m / 86400) (by omega)
    have dl:=dec_len 19 (m / 86400) (by omega)
    have d0:(m:Int).tdiv 86400=((m / 86400:Nat):Int):=rfl
    have d1:IntKind.i64.wrap ((m:Int) / 86400)=((m / 86400:Nat):Int):=by rw [wrap_i64]<;>omega
    have d2:(m:Int).tmod 86400=((m%86400:Nat):Int):=rfl
    have d3:IntKind.i64.wrap ((m%86400:Nat):Int)=((m%86400:Nat):Int):=by rw [wrap_i64]<;>omega
    have d4:IntKind.i64.wrap ((m / 86400:Nat):Int)=((m / 86400:Nat):Int):=by rw [wrap_i64]<;>omega
    have d5:IntKind.i64.wrap ((m:Int)%86400)=((m%86400:Nat):Int):=by rw [wrap_i64]<;>omega
    have mb:m%86400≤253402300799:=by omega
    have fin:=fin (s++(dec (m / 86400)++[100])) (m%86400) mb (by rw [←h3];simp)
    generalize dec (m / 86400)=D at *
    generalize m / 86400=q at *
    generalize m%86400=r at *
    have l1:s.length+D.length≤9223372036854775807:=by omega
    have l2:s.length+(D.length+1)≤9223372036854775807:=by omega
    have l3:s.length+D.length+1≤9223372036854775807:=by omega
    have l4:s.length+D.length≤9223372036854775806:=by omega
    simp -implicitDefEqProofs
    refine onC_mk _ (U) ?_
    simp -implicitDefEqProofs [gu,gu',d0,d1,d2,d3,d4,d5]
    refine onC_mk _ (DG) ?_
    simp -implicitDefEqProofs [l1,l2,l3,l4,wi]
    refine fin _ ?_
    refine weak_mk ?_ ?_ ?_ ?_ ?_ ?_<;>simp -implicitDefEqProofs [wi,d0,d1,d2,d3,d4,d5]
   ·have gu': ¬(86400:Int)≤m:=by omega
    rw [if_neg gu] at h3
    have fin:=fin s m h2 h3
    simp -implicitDefEqProofs
    refine onC_mk _ (U) ?_
    simp -implicitDefEqProofs [gu,gu']
    refine fin _ ?_
    refine weak_mk ?_ ?_ ?_ ?_ ?_ ?_<;>simp -implicitDefEqProofs [wi]
  ·have U:=runit04_spec 104
   rw [show unitZ 104=3600 from rfl] at U
   rw [show unL.drop 2=(3600,104)::unL.drop 3 from rfl,spG] at h3
   have fin:=fun s' m' b1 b2 σ' hσ=>hK (3,s',m') σ' ⟨by omega,b1,b2⟩ (by simp only;omega) hσ
   have wi:IntKind.i64.wrap 3=3:=by decide
   clear hK
   by_cases gu:3600≤m
   ·have gu':(3600:Int)≤m:=by omega
    rw [if_pos gu] at h3
    have DG:=rdig04_spec (m / 3600) (by omega)
    have dl:=dec_len 19 (m / 3600) (by omega)
    have d0:(m:Int).tdiv 3600=((m / 3600:Nat):Int):=rfl
    have d1:IntKind.i64.wrap ((m:Int) / 3600)=((m / 3600:Nat):Int):=by rw [wrap_i64]<;>omega
    have d2:(m:Int).tmod 3600=((m%3600:Nat):Int):=rfl
    have d3:IntKind.i64.wrap ((m%3600:Nat):Int)=((m%3600:Nat):Int):=by rw [wrap_i64]<;>omega
    have d4:IntKind.i64.wrap ((m / 3600:Nat):Int)=((m / 3600:Nat):Int):=by rw [wrap_i64]<;>omega
    have d5:IntKind.i64.wrap ((m:Int)%3600)=((m%3600:Nat):Int):=by rw [wrap_i64]<;>omega
    have mb:m%3600≤253402300799:=by omega
    have fin:=fin (s++(dec (m / 3600)++[104])) (m%3600) mb (by rw [←h3];simp)
    generalize dec (m / 3600)=D at *
    generalize m / 3600=q at *
    generalize m%3600=r at *
    have l1:s.length+D.length≤9223372036854775807:=by omega
    have l2:s.length+(D.length+1)≤9223372036854775807:=by omega
    have l3:s.length+D.length+1≤9223372036854775807:=by omega
    have l4:s.length+D.length≤9223372036854775806:=by omega
    simp -implicitDefEqProofs
    refine onC_mk _ (U) ?_
    simp -implicitDefEqProofs [gu,gu',d0,d1,d2,d3,d4,d5]
    refine onC_mk _ (DG) ?_
    simp -implicitDefEqProofs [l1,l2,l3,l4,wi]
    refine fin _ ?_
    refine weak_mk ?_ ?_ ?_ ?_ ?_ ?_<;>simp -implicitDefEqProofs [wi,d0,d1,d2,d3,d4,d5]
   ·have gu': ¬(3600:Int)≤m:=by omega
    rw [if_neg gu] at h3
    have fin:=fin s m h2 h3
    simp -implicitDefEqProofs
    refine onC_mk _ (U) ?_
    simp -implicitDefEqProofs [gu,gu']
    refine fin _ ?_
    refine weak_mk ?_ ?_ ?_ ?_ ?_ ?_<;>simp -implicitDefEqProofs [wi]
  ·have U:=runit04_spec 109
   rw [show unitZ 109=60 from rfl] at U
   rw [show unL.drop 3=(60,109)::unL.drop 4 from rfl,spG] at h3
   have fin:=fun s' m' b1 b2 σ' hσ=>hK (4,s',m') σ' ⟨by omega,b1,b2⟩ (by simp only;omega) hσ
   have wi:IntKind.i64.wrap 4=4:=by decide
   clear hK
   by_cases gu:60≤m
   ·have gu':(60:Int)≤m:=by omega
    rw [if_pos gu] at h3
    have DG:=rdig04_spec (m / 60) (by omega)
    have dl:=dec_len 19 (m / 60) (by omega)
    have d0:(m:Int).tdiv 60=((m / 60:Nat):Int):=rfl
    have d1:IntKind.i64.wrap ((m:Int) / 60)=((m / 60:Nat):Int):=by rw [wrap_i64]<;>omega
    have d2:(m:Int).tmod 60=((m%60:Nat):Int):=rfl
    have d3:IntKind.i64.wrap ((m%60:Nat):Int)=((m%60:Nat):Int):=by rw [wrap_i64]<;>omega
    have d4:IntKind.i64.wrap ((m / 60:Nat):Int)=((m / 60:Nat):Int):=by rw [wrap_i64]<;>omega
    have d5:IntKind.i64.wrap ((m:Int)%60)=((m%60:Nat):Int):=by rw [wrap_i64]<;>omega
    have mb:m%60≤253402300799:=by omega
    have fin:=fin (s++(dec (m / 60)++[109])) (m%60) mb (by rw [←h3];simp)
    generalize dec (m / 60)=D at *
    generalize m / 60=q at *
    generalize m%60=r at *
    have l1:s.length+D.length≤9223372036854775807:=by omega
    have l2:s.length+(D.length+1)≤9223372036854775807:=by omega
    have l3:s.length+D.length+1≤9223372036854775807:=by omega
    have l4:s.length+D.length≤9223372036854775806:=by omega
    simp -implicitDefEqProofs
    refine onC_mk _ (U) ?_
    simp -implicitDefEqProofs [gu,gu',d0,d1,d2,d3,d4,d5]
    refine onC_mk _ (DG) ?_
    simp -implicitDefEqProofs [l1,l2,l3,l4,wi]
    refine fin _ ?_
    refine weak_mk ?_ ?_ ?_ ?_ ?_ ?_<;>simp -implicitDefEqProofs [wi,d0,d1,d2,d3,d4,d5]
   ·have gu': ¬(60:Int)≤m:=by omega
    rw [if_neg gu] at h3
    have fin:=fin s m h2 h3
    simp -implicitDefEqProofs
    refine onC_mk _ (U) ?_
    simp -implicitDefEqProofs [gu,gu']
    refine fin _ ?_
    refine weak_mk ?_ ?_ ?_ ?_ ?_ ?_<;>simp -implicitDefEqProofs [wi]
  ·have U:=runit04_spec 115
   rw [show unitZ 115=1 from rfl] at U
   rw [show unL.drop 4=(1,115)::unL.drop 5 from rfl,spG] at h3
   have fin:=fun s' m' b1 b2 σ' hσ=>hK (5,s',m') σ' ⟨by omega,b1,b2⟩ (by simp only;omega) hσ
   have wi:IntKind.i64.wrap 5=5:=by decide
   clear hK
   by_cases gu:1≤m
   ·have gu':(1:Int)≤m:=by omega
    rw [if_pos gu] at h3
    have DG:=rdig04_spec (m / 1) (by omega)
    have dl:=dec_len 19 (m / 1) (by omega)
    have d0:(m:Int).tdiv 1=((m / 1:Nat):Int):=rfl
    have d1:IntKind.i64.wrap ((m:Int) / 1)=((m / 1:Nat):Int):=by rw [wrap_i64]<;>omega
    have d2:(m:Int).tmod 1=((m%1:Nat):Int):=rfl
    have d3:IntKind.i64.wrap ((m%1:Nat):Int)=((m%1:Nat):Int):=by rw [wrap_i64]<;>omega
    have d4:IntKind.i64.wrap ((m / 1:Nat):Int)=((m / 1:Nat):Int):=by rw [wrap_i64]<;>omega
    have d5:IntKind.i64.wrap ((m:Int)%1)=((m%1:Nat):Int):=by rw [wrap_i64]<;>omega
    have mb:m%1≤253402300799:=by omega
    have fin:=fin (s++(dec (m / 1)++[115])) (m%1) mb (by rw [←h3];simp)
    have z:m%1=0:=Nat.mod_one _
    generalize dec (m / 1)=D at *
    generalize m / 1=q at *
    generalize m%1=r at *
    have l1:s.length+D.length≤9223372036854775807:=by omega
    have l2:s.length+(D.length+1)≤9223372036854775807:=by omega
    have l3:s.length+D.length+1≤9223372036854775807:=by omega
    have l4:s.length+D.length≤9223372036854775806:=by omega
    simp -implicitDefEqProofs
    refine onC_mk _ (U) ?_
    simp -implicitDefEqProofs [gu,gu',d0,d1,d2,d3,d4,d5]
    refine onC_mk _ (DG) ?_
    simp -implicitDefEqProofs [l1,l2,l3,l4,wi]
    refine fin _ ?_
    refine weak_mk ?_ ?_ ?_ ?_ ?_ ?_<;>simp -implicitDefEqProofs [wi,d0,d1,d2,d3,d4,d5,z]
   ·have gu': ¬(1:Int)≤m:=by omega
    rw [if_neg gu] at h3
    have fin:=fin s m h2 h3
    simp -implicitDefEqProofs
    refine onC_mk _ (U) ?_
    simp -implicitDefEqProofs [gu,gu']
    refine fin _ ?_
    refine weak_mk ?_ ?_ ?_ ?_ ?_ ?_<;>simp -implicitDefEqProofs [wi]
  ·rw [show unL.drop 5=[] from rfl,spG,List.append_nil] at h3
   subst h3
   clear hK
   by_cases e:s=[]
   ·have n0:=RN.1 e
    rw [if_pos n0]
    subst e
    simp -implicitDefEqProofs
   ·have en:(s==[])=false:=beq_eq_false_iff_ne.2 e
    rw [if_neg (fun h=>e (RN.2 h))]
    simp -implicitDefEqProofs [e,en]
 ·exact ⟨by omega,hn,by rw [hR];rfl⟩
 ·refine weak_mk ?_ ?_ ?_ ?_ ?_ ?_<;>simp -implicitDefEqProofs
open Go.Proofs
def hxD (r:Nat):UInt8:=if r<10 then UInt8.ofNat (48+r) else UInt8.ofNat (87+r)
def hxL (r:Nat):List UInt8:=if r<16 then [hxD r] else [hxD (r / 16),hxD (r%16)]
theorem rhex1_spec (r:Nat) (h:r<16):Sp Tryz.prog gl 110 [i3 r] (.str [hxD r]):=by
 refine s110 rfl rfl ?_
 have w0:(r:Int).tmod 16=r:=by rw [Int.tmod_eq_emod_of_nonneg (by omega)];omega
 have w1:IntKind.i32.wrap (r:Int)=r:=by rw [wrap_i32']<;>omega
 have w2:IntKind.i32.wrap ((r:Int)+1)=((r+1:Nat):Int):=by rw [wrap_i32']<;>omega
 have hd:List.drop r (List.take (r+1) ([48,49,50,51,52,53,54,55,56,57,97,98,99,100,101,102]:List UInt8))=[hxD r]:=by
  have: ∀q:Fin 16,List.drop q.1 (List.take (q.1+1) ([48,49,50,51,52,53,54,55,56,57,97,98,99,100,101,102]:List UInt8))=[hxD q.1]:=by decide
  exact this ⟨r,h⟩
 obtain ⟨m,hm⟩: ∃m,m=r+1:=⟨_,rfl⟩
 rw [←hm] at w2 hd
 have q1:r≤m:=by omega
 have q2:m≤16:=by omega
 have q3:(r:Int)≤m:=by omega
 have q4:(m:Int)≤16:=by omega
 have q5: ¬(16:Int)≤r:=by omega
 have q6: ¬16≤r:=by omega
 generalize [hxD r]=R at *
 simp -implicitDefEqProofs [c110,w0,w1,w2,q1,q2,q3,q4,q5,q6,hd]
theorem rhex_spec (r:Nat) (h:r<256):Sp Tryz.prog gl 110 [i3 r] (.str (hxL r)):=by
 by_cases c:r<16
 ·unfold hxL
  rw [if_pos c]
  exact rhex1_spec r c
 refine s110 rfl rfl ?_
 have H:=rhex1_spec (r / 16) (by omega)
 have w0:(r:Int).tmod 16=((r%16:Nat):Int):=rfl
 have w3:IntKind.i32.wrap ((r:Int) / 16)=((r / 16:Nat):Int):=by rw [wrap_i32']<;>omega
 have hd:List.drop (r%16) (List.take (r%16+1) ([48,49,50,51,52,53,54,55,56,57,97,98,99,100,101,102]:List UInt8))=[hxD (r%16)]:=by
  have: ∀q:Fin 16,List.drop q.1 (List.take (q.1+1) ([48,49,50,51,52,53,54,55,56,57,97,98,99,100,101,102]:List UInt8))=[hxD q.1]:=by decide
  exact this ⟨r%16,Nat.mod_lt _ (by decide)⟩
 have m16:r%16<16:=Nat.mod_lt _ (by decide)
 have q5:(16:Int)≤r:=by omega
 have q6:16≤r:=by omega
 unfold hxL
 rw [if_neg c]
 generalize r%16=x at *
 generalize r / 16=y at *
 have w1:IntKind.i32.wrap (x:Int)=x:=by rw [wrap_i32']<;>omega
 have w2:IntKind.i32.wrap ((x:Int)+1)=((x+1:Nat):Int):=by rw [wrap_i32']<;>omega
 obtain ⟨m,hm⟩: ∃m,m=x+1:=⟨_,rfl⟩
 rw [←hm] at w2 hd
 have q1:x≤m:=by omega
 have q2:m≤16:=by omega
 have q3:(x:Int)≤m:=by omega
 have q4:(m:Int)≤16:=by omega
 generalize hxD x=X at *
 generalize hxD y=Y at *
 simp -implicitDefEqProofs [c110,w0,w1,w2,q1,q2,q3,q4,q5,q6,hd,w3]
 refine onC_mk _ (H) ?_
 simp -implicitDefEqProofs
def esR (r:Nat):List UInt8:=if r=34 then [92,34] else if r=92 then [92,92] else if r=10 then [92,110] else if r=9 then [92,116] else if r<32∨r=127 then [92,117,123]++(hxL r++[125]) else encN r
def esL:List Int→List UInt8
 |[]=>[]
 |r::l=>esR r.toNat++esL l
def quL (l:List Int):List UInt8:=34::(esL l++[34])
theorem hxL_len (r:Nat):(hxL r).length≤2:=by unfold hxL;split<;>simp
theorem esR_len (r:Nat):(esR r).length≤6:=by
 have h1:=hxL_len r
 have h2:=(encN_len r).1
 unfold esR
 repeat' split
 all_goals first|omega|(simp;omega)|simp
theorem esL_len: ∀l:List Int,(esL l).length≤6*l.length
 |[]=>by simp [esL]
 |r::l=>by
  have h1:=esL_len l
  have h2:=esR_len r.toNat
  simp only [esL,List.length_append,List.length_cons]
  omega
end Go.Ai
