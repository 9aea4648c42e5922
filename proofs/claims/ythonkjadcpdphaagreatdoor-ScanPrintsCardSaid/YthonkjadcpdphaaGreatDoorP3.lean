/- P3: a part of the proof: the rules, or what functions compute. Conditions: as each theorem says. -/
import Derived.Test.YthonkjadcpdphaaGreatDoorP1
import Derived.Test.YthonkjadcpdphaaGreatDoorP2
set_option linter.unusedSimpArgs false
set_option linter.unusedVariables false
set_option maxRecDepth 20000
namespace Go.Ai
open Go.Proofs
abbrev u32 (n:Nat):AV:= .int .u32 n
open Go.Proofs
end Go.Ai
namespace Go.Ai
open Go.Proofs
open Go.Proofs
theorem digits_spec (l:List Bool) (hl:l.length≤100000):Sp Tryz.prog gl 112 [bl l] (.str (dec (val l))):=by
 refine s112 rfl rfl ?_
 have B:=bits_spec 10 (by omega)
 have e10:wide 10= .agg [u 0,u 10]:=rfl
 rw [e10] at B
 have v10:val (bitsOf 10 128)=10:=bitsOf_val128 10 (by omega)
 have l10:(bitsOf 10 128).length=128:=bitsOf_len _ _
 have hlen:(dec (val l)).length≤l.length+1:=dec_len _ _ (Nat.lt_of_lt_of_le (val_lt l) (Nat.le_trans (Nat.pow_le_pow_left (by omega) _) (Nat.pow_le_pow_right (by omega) (Nat.le_succ _))))
 obtain ⟨ten,ht⟩: ∃ten,ten=bitsOf 10 128:=⟨_,rfl⟩
 rw [←ht] at B v10 l10
 clear ht
 obtain ⟨R,hR⟩: ∃R,R=dec (val l):=⟨_,rfl⟩
 rw [←hR] at hlen ⊢
 simp -implicitDefEqProofs [c112]
 refine onC_mk _ B ?_
 simp -implicitDefEqProofs
 refine wp_lpk (α:=List Bool×List UInt8) (fun x=>⟨[(0,bl x.1),(3,bl ten),(4,.str x.2)],[],[]⟩) (fun x=>x.1.length=l.length∧R=dec (val x.1)++x.2) (fun x=>val x.1) ?_ (l,[]) ?_ ?_
 ·rintro K ⟨l',s⟩ hK ⟨h1,h2⟩
  simp only at h1 h2
  have hlt:=val_lt l'
  have D:=divide_spec l' ten (by omega) (by omega) (by omega)
  rw [v10] at D
  have q1:val l' / 10≤val l':=Nat.div_le_self _ _
  have r1:val l'%10≤val l':=Nat.mod_le _ _
  have r2:val l'%10<10:=Nat.mod_lt _ (by omega)
  have qv:val (bitsOf (val l' / 10) l'.length)=val l' / 10:=by rw [bitsOf_val,Nat.mod_eq_of_lt (by omega)]
  have rv:val (bitsOf (val l'%10) l'.length)=val l'%10:=by rw [bitsOf_val,Nat.mod_eq_of_lt (by omega)]
  have ql:=bitsOf_len (val l' / 10) l'.length
  have rl:=bitsOf_len (val l'%10) l'.length
  obtain ⟨q,hq⟩: ∃q,q=bitsOf (val l' / 10) l'.length:=⟨_,rfl⟩
  obtain ⟨r,hr⟩: ∃r,r=bitsOf (val l'%10) l'.length:=⟨_,rfl⟩
  rw [←hq] at D qv ql
  rw [←hr] at D rv rl
  have O:=of_spec r (by omega)
  rw [rv,if_pos (by omega)] at O
  obtain ⟨d,hd⟩: ∃d,d=val l'%10:=⟨_,rfl⟩
  rw [←hd] at O r2
  have wd:wide d= .agg [u 0,u d]:=by unfold wide;rw [Nat.div_eq_of_lt (by omega),Nat.mod_eq_of_lt (by omega)]
  rw [wd] at O
  have C:=compare_spec q [] (by omega) (by simp)
  rw [show val []=0 from rfl] at C
  have sl:s.length≤100001:=by rw [h2] at hlen;simp at hlen;omega
  have w1:IntKind.u8.wrap (d:Int)=d:=wrap_u8 (by omega) (by omega)
  have w2:IntKind.u8.wrap (48+(d:Int))=(48+d:Nat):=by rw [wrap_u8]<;>omega
  have tn:(48+(d:Int)).toNat=48+d:=by omega
  have hs1:1+s.length≤9223372036854775807:=by omega
  by_cases g:val l'<10
  ·have q0:val q=0:=by rw [qv];omega
   have c0:cmpN 0 0=0:=rfl
   rw [q0,c0] at C
   have eR:R=UInt8.ofNat (48+d)::s:=by rw [h2,dec_lt g,hd,Nat.mod_eq_of_lt g];rfl
   clear hq hr hd h2 qv rv wd q1 r1 hlt q0 hR hK hlen
   subst eR
   simp -implicitDefEqProofs [bl]
   refine onC_mk _ D ?_
   simp -implicitDefEqProofs [bl]
   refine onC_mk _ O ?_
   simp -implicitDefEqProofs [bytesA,rowBytes,w1,w2,hs1]
   refine onC_mk _ C ?_
   simp -implicitDefEqProofs [tn]
  ·have q0:val q≠0:=by rw [qv];omega
   have c0:cmpN (val q) 0=1:=by unfold cmpN;rw [if_neg (by omega),if_neg q0]
   rw [c0] at C
   have eR:R=dec (val q)++(UInt8.ofNat (48+d)::s):=by rw [h2,dec_ge g,hd,qv];simp
   have fin: ∀σ',Weak σ' ⟨[(0,bl q),(3,bl ten),(4,.str (UInt8.ofNat (48+d)::s))],[],[]⟩→K σ':=
    fun σ' hσ=>hK (q,UInt8.ofNat (48+d)::s) σ' ⟨by simp only;omega,eR⟩ (by simp only;omega) hσ
   clear hq hr hd h2 qv rv wd q1 r1 hlt q0 hR hK hlen eR
   simp -implicitDefEqProofs [bl]
   refine onC_mk _ D ?_
   simp -implicitDefEqProofs [bl]
   refine onC_mk _ O ?_
   simp -implicitDefEqProofs [bytesA,rowBytes,w1,w2,hs1]
   refine onC_mk _ C ?_
   simp -implicitDefEqProofs
   refine fin _ ?_
   apply weak_mk<;>simp [bl,tn]
 ·simp [hR]
 ·apply weak_mk<;>simp [bl]
open Go.Proofs
def byteAv (b:UInt8):AV:= .int .u8 b.toNat
def bufC (k:Nat) (s:List UInt8):List AV:=List.replicate k (.int .u8 0)++s.map byteAv
theorem bufC_len (k:Nat) (s:List UInt8):(bufC k s).length=k+s.length:=by simp [bufC]
theorem bufC_set (j:Nat) (b:UInt8) (s:List UInt8):List.take j (bufC (j+1) s)++byteAv b::List.drop (j+1) (bufC (j+1) s)=bufC j (b::s):=by
 have h1:List.take j (bufC (j+1) s)=List.replicate j (.int .u8 0):=by
  unfold bufC;rw [List.replicate_succ',List.append_assoc,List.take_left' (by simp)]
 have h2:List.drop (j+1) (bufC (j+1) s)=s.map byteAv:=by unfold bufC;rw [List.drop_left' (by simp)]
 rw [h1,h2];rfl
theorem idsL_bytes (s:List UInt8):idsL (s.map byteAv)=[]:=by
 induction s with
 |nil=>rfl
 |cons x r ih=>simp [idsL,byteAv,AV.ids,ih]
theorem idsL_app (a b:List AV):idsL (a++b)=idsL a++idsL b:=by
 induction a with
 |nil=>rfl
 |cons x r ih=>simp [idsL,ih]
theorem bufC_ids (k:Nat) (s:List UInt8):idsL (bufC k s)=[]:=by
 unfold bufC;rw [idsL_app,idsL_bytes,List.append_nil]
 induction k with
 |zero=>rfl
 |succ k ih=>simp [List.replicate_succ,idsL,AV.ids,ih]
theorem bytes_of (s:List UInt8):byteCells (s.map byteAv)=some s:=by
 induction s with
 |nil=>rfl
 |cons x r ih=>simp [byteCells,byteAv,ih]
theorem buf_bytes (k n:Nat) (s:List UInt8) (h:s.length≤n):byteCells (((bufC k s).drop k).take n)=some s:=by
 have:(bufC k s).drop k=s.map byteAv:=by unfold bufC;rw [List.drop_left' (by simp)]
 rw [this,List.take_of_length_le (by simpa using h),bytes_of]
open Go.Proofs
def readN (s:List UInt8):Nat×Nat:=if okDec s then (if undec s<340282366920938463463374607431768211456 then (undec s,0) else (0,3)) else (0,5)
theorem undec_take (s:List UInt8) (i:Nat) (h:i<s.length):undec (s.take (i+1))=10*undec (s.take i)+((s[i]).toNat - 48):=by
 rw [List.take_succ_eq_append_getElem h,undec_snoc]
theorem all_take (s:List UInt8) (i:Nat) (h:i<s.length) (hd:isDig s[i]=true) (ha:(s.take i).all isDig=true):(s.take (i+1)).all isDig=true:=by
 rw [List.take_succ_eq_append_getElem h,List.all_append,ha];simpa using hd
theorem readN_bad {s:List UInt8} (h:okDec s=false):readN s=(0,5):=by unfold readN;rw [h];rfl
theorem all_bad {s:List UInt8} {i:Nat} (h:i<s.length) (hd:isDig s[i]=false):okDec s=false:=by
 unfold okDec
 have:s.all isDig=false:=by
  rw [Bool.eq_false_iff];intro h2
  rw [List.all_eq_true] at h2
  have:=h2 s[i] (List.getElem_mem h)
  rw [hd] at this;cases this
 rw [this];simp
end Go.Ai
