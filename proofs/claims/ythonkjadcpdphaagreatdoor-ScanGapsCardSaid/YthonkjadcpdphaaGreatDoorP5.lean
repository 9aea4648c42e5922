/- P5: a part of the proof: the rules, or what functions compute. Conditions: as each theorem says. -/
import Derived.Test.YthonkjadcpdphaaGreatDoorP1
import Derived.Test.YthonkjadcpdphaaGreatDoorAiExt
set_option linter.unusedSimpArgs false
set_option linter.unusedVariables false
set_option maxRecDepth 20000
namespace Go.Ai
open Go.Proofs

def bl (l:List Bool):AV:= .sl (l.map fun b=>[.bool b])
def atL (l:List Bool) (i:Nat):Nat:=if l.getD i false then 1 else 0
theorem at_spec (l:List Bool) (i:Nat):Sp Tryz.prog gl 212 [bl l,.int .i64 i] (.int .i64 (atL l i)):=by
 refine s212 rfl rfl ?_
 by_cases hi:i<l.length
 ·cases h:l[i]<;>simp [a212,c212,bl,hi,h,atL]
 ·simp [a212,c212,bl,hi,atL]

def val:List Bool→Nat
 |[]=>0
 |b::r=>b.toNat+2*val r
theorem atL_le (l:List Bool) (i:Nat):atL l i≤1:=by unfold atL;split<;>omega

theorem atL_hi (l:List Bool) (i:Nat) (h:l.length≤i):atL l i=0:=by simp [atL,h]
def bitsOf (n k:Nat):List Bool:=(List.range k).map fun i=>n / 2^i%2==1
theorem val_append (a b:List Bool):val (a++b)=val a+2^a.length*val b:=by
 induction a with
 |nil=>simp [val]
 |cons x r ih=>simp [val,ih,Nat.pow_succ,Nat.mul_add];rw [show 2^r.length*2=2*2^r.length by omega,Nat.mul_assoc];omega
theorem bitsOf_succ (n k:Nat):bitsOf n (k+1)=bitsOf n k++[n / 2^k%2==1]:=by simp [bitsOf,List.range_succ]
theorem bitsOf_len (n k:Nat):(bitsOf n k).length=k:=by simp [bitsOf]
theorem bitsOf_val (n k:Nat):val (bitsOf n k)=n%2^k:=by
 induction k with
 |zero=>simp [bitsOf,val,Nat.mod_one]
 |succ k ih=>
  rw [bitsOf_succ,val_append,ih,bitsOf_len,Nat.pow_succ,Nat.mod_mul]
  congr 1
  rcases Nat.mod_two_eq_zero_or_one (n / 2^k) with h|h<;>simp [val,h]
theorem bitsOf_val128 (n:Nat) (h:n<340282366920938463463374607431768211456):val (bitsOf n 128)=n:=by
 rw [bitsOf_val];exact Nat.mod_eq_of_lt (by simpa using h)
theorem bit_hi (n i:Nat) (h:64≤i):n / 2^i=n / 18446744073709551616 / 2^(i%64+(i - i%64 - 64)):=by
 rw [Nat.div_div_eq_div_mul,show (18446744073709551616:Nat)=2^64 from rfl,←Nat.pow_add]
 congr 2;omega
theorem bit_lo (n i:Nat) (h:i<64):n / 2^i%2=n%18446744073709551616 / 2^i%2:=by
 have e:(18446744073709551616:Nat)=2^i*2^(64 - i):=by
  rw [←Nat.pow_add,show i+(64 - i)=64 by omega]
 rw [e,Nat.mod_mul_right_div_self]
 have e2:2^(64 - i)=2*2^(63 - i):=by rw [←Nat.pow_succ',Nat.succ_eq_add_one,show 63 - i+1=64 - i by omega]
 rw [e2,Nat.mod_mul_right_mod]
theorem shr_u64 (x i:Nat) (h:i<64):(x:Int).fdiv (2^min i IntKind.u64.bits)=((x / 2^i:Nat):Int):=by
 rw [show min i IntKind.u64.bits=i by show min i 64=i;omega,Int.fdiv_eq_ediv_of_nonneg _ (Int.pow_nonneg (by decide))]
 simp
theorem bits_spec (n:Nat) (hn:n<340282366920938463463374607431768211456):Sp Tryz.prog gl 113 [wide n] (bl (bitsOf n 128)):=by
 refine s113 rfl rfl ?_
 simp [c113,wide]
 refine wp_lp (α:=Nat) (fun i=>⟨[(1,.ptr (.n 1) 0),(3,bl (bitsOf n i)),(4,i6 i)],[(.n 1,[u (n / 18446744073709551616),u (n%18446744073709551616)])],[(.s 3,1)]⟩)
  (fun i=>i≤128) (fun i=>128 - i) ?_ 0 (by omega) ?_
 ·intro i hi
  have t1:IntKind.i64.wrap ((i:Int)+1)=i+1:=by rw [wrap_i64]<;>omega
  have t2:IntKind.u64.wrap ((i:Int).tmod 64)=(i%64:Nat):=by rw [Int.tmod_eq_emod_of_nonneg (by omega),wrap_u64]<;>omega
  have t3:0≤IntKind.u64.wrap ((i:Int).tmod 64):=by rw [t2];omega
  have bit: ∀m j:Nat,m<18446744073709551616→m / 2^(i%64)%2=n / 2^i%2→(((m:Int).fdiv (2^min (IntKind.u64.wrap ((i:Int).tmod 64)).toNat IntKind.u64.bits)).tmod 2==1)=(n / 2^i%2==1):=by
   intro m j hm e
   rw [t2,Int.toNat_natCast,shr_u64 _ _ (by omega),Int.tmod_eq_emod_of_nonneg (Int.natCast_nonneg _),Bool.eq_iff_iff]
   simp only [beq_iff_eq]
   generalize m / 2^(i%64)=q at e ⊢
   generalize n / 2^i=r at e ⊢
   omega
  simp [bl]
  refine onB_dec (fun h=>?_) (fun h=>?_)
  ·have hl:(bitsOf n i).length+1≤lim:=by rw [bitsOf_len];unfold lim;omega
   simp
   refine onB_dec (fun h6=>?_) (fun h6=>?_)
   ·have b1:=bit (n / 18446744073709551616) 0 (by omega) (by rw [bit_hi n i (by omega),show i%64+(i - i%64 - 64)=i%64 by omega])
    simp [t3]
    refine ⟨hl,by rintro r (⟨-,h⟩|⟨-,h⟩)<;>simp [←h],lpQ_mk (i+1) (by omega) (by omega) ?_⟩
    simp at b1
    apply weak_mk<;>simp [bl,bitsOf_succ,t1,b1]
   ·have b1:=bit (n%18446744073709551616) 0 (by omega) (by rw [bit_lo n i (by omega),Nat.mod_eq_of_lt (show i<64 by omega)])
    simp [t3]
    refine ⟨hl,by rintro r (⟨-,h⟩|⟨-,h⟩)<;>simp [←h],lpQ_mk (i+1) (by omega) (by omega) ?_⟩
    simp at b1
    apply weak_mk<;>simp [bl,bitsOf_succ,t1,b1]
  ·obtain rfl:i=128:=by omega
   simp
 ·apply weak_mk<;>simp [bl,bitsOf]

theorem drop_cons {α:Type} {l:List α} {i:Nat} (h:i<l.length):l.drop i=l[i]::l.drop (i+1):=List.drop_eq_getElem_cons h
def cmpN (x y:Nat):Int:=if x<y then -1 else if x=y then 0 else 1
theorem val_drop (l:List Bool) (i:Nat):val (l.drop i)=atL l i+2*val (l.drop (i+1)):=by
 by_cases h:i<l.length
 ·rw [drop_cons h];simp [val,atL,h];cases l[i]<;>simp
 ·rw [List.drop_eq_nil_of_le (by omega),List.drop_eq_nil_of_le (by omega)];simp [val,atL_hi l i (by omega)]
theorem val_split (l:List Bool) (i:Nat): ∃r,r<2^i∧val l=r+2^i*val (l.drop i):=by
 induction i with
 |zero=>exact ⟨0,by simp,by simp⟩
 |succ i ih=>
  obtain ⟨r,h1,h2⟩:=ih
  refine ⟨r+2^i*atL l i,?_,?_⟩
  ·have:=atL_le l i
   have:2^i*atL l i≤2^i*1:=Nat.mul_le_mul (Nat.le_refl _) this
   rw [Nat.pow_succ];omega
  ·rw [h2,val_drop,Nat.mul_add,Nat.pow_succ,Nat.mul_assoc];omega
theorem cmp_at (a b:List Bool) (i:Nat) (h:val (a.drop (i+1))=val (b.drop (i+1))) (hne:atL a i≠atL b i):cmpN (val a) (val b)=(atL a i:Int) - atL b i:=by
 obtain ⟨r,r1,r2⟩:=val_split a i
 obtain ⟨s,s1,s2⟩:=val_split b i
 have e1:=val_drop a i
 have e2:=val_drop b i
 have a1:=atL_le a i
 have b1:=atL_le b i
 rw [h] at e1
 have hx:2^i*val (a.drop i)=2^i*atL a i+2^i*(2*val (b.drop (i+1))):=by rw [e1,Nat.mul_add]
 have hy:2^i*val (b.drop i)=2^i*atL b i+2^i*(2*val (b.drop (i+1))):=by rw [e2,Nat.mul_add]
 rcases (by omega:atL a i=0∧atL b i=1∨atL a i=1∧atL b i=0) with ⟨h1,h2⟩|⟨h1,h2⟩
 ·rw [h1] at hx;rw [h2] at hy
  have:val a<val b:=by omega
  simp [cmpN,this,h1,h2]
 ·rw [h1] at hx;rw [h2] at hy
  have:val b<val a:=by omega
  simp [cmpN,h1,h2,show ¬val a<val b by omega,show val a≠val b by omega]
theorem compare_spec (a b:List Bool) (ha:a.length≤1000000) (hb:b.length≤1000000):Sp Tryz.prog gl 164 [bl a,bl b] (i6 (cmpN (val a) (val b))):=by
 refine s164 rfl rfl ?_
 by_cases g:a.length<b.length
 all_goals
  simp [c164,bl,g]
  refine wp_lp (α:=Nat) (fun k=>⟨[(0,bl a),(1,bl b),(6,i6 ((k:Int) - 1))],[],[]⟩)
   (fun k=>k≤1000000∧val (a.drop k)=val (b.drop k)) (fun k=>k) ?_ (max a.length b.length) ?_ ?_
  ·rintro k ⟨h1,h2⟩
   have t1:IntKind.i64.wrap ((k:Int) - 1 - 1)=k - 1 - 1:=by rw [wrap_i64]<;>omega
   simp [bl]
   refine onB_dec (fun h=>?_) (fun h=>?_)
   ·have e1:(k:Int) - 1=((k - 1:Nat):Int):=by omega
    have e2:k - 1+1=k:=by omega
    have x1:=atL_le a (k - 1)
    have y1:=atL_le b (k - 1)
    have t2:IntKind.i64.wrap ((atL a (k - 1):Int) - atL b (k - 1))=atL a (k - 1) - atL b (k - 1):=by rw [wrap_i64]<;>omega
    simp
    refine onC_mk _ (e1▸at_spec a (k - 1)) ?_
    simp
    refine onC_mk _ (e1▸at_spec b (k - 1)) ?_
    simp
    by_cases h3:atL a (k - 1)=atL b (k - 1)
    ·simp [h3]
     refine lpQ_mk (k - 1) ⟨by omega,?_⟩ (by omega) ?_
     ·rw [val_drop a,val_drop b,e2,h2,h3]
     ·apply weak_mk<;>simp [bl]
      rw [t1,e1]
    ·have h4:((atL a (k - 1):Int)!=atL b (k - 1))=true:=by rw [bne_iff_ne];omega
     rw [h4]
     simp
     refine onC_mk _ (e1▸at_spec a (k - 1)) ?_
     simp
     refine onC_mk _ (e1▸at_spec b (k - 1)) ?_
     simp
     rw [t2,cmp_at a b (k - 1) (by rw [e2];exact h2) h3]
   ·obtain rfl:k=0:=by omega
    simp at h2
    simp [cmpN,h2]
  ·exact ⟨by omega,by rw [List.drop_eq_nil_of_le (by omega),List.drop_eq_nil_of_le (by omega)]⟩
  ·have t3:IntKind.i64.wrap ((max a.length b.length:Nat) - 1:Int)=(max a.length b.length:Nat) - 1:=by rw [wrap_i64]<;>omega
   apply weak_mk<;>simp [bl]
   rw [wrap_i64 (by omega) (by omega)]
   omega
open Go.Proofs
theorem val_lt (l:List Bool):val l<2^l.length:=by
 induction l with
 |nil=>simp [val]
 |cons x r ih=>simp only [val,List.length_cons,Nat.pow_succ];cases x<;>simp<;>omega
theorem bitsOf_cons (b:Bool) (n k:Nat):bitsOf (b.toNat+2*n) (k+1)=b::bitsOf n k:=by
 unfold bitsOf
 rw [List.range_succ_eq_map,List.map_cons,List.map_map]
 congr 1
 ·cases b<;>simp<;>omega
 ·apply List.map_congr_left
  intro i _
  simp only [Function.comp,Nat.pow_succ]
  rw [Nat.mul_comm (2^i) 2,←Nat.div_div_eq_div_mul]
  have:(b.toNat+2*n) / 2=n:=by cases b<;>simp<;>omega
  rw [this]
theorem val_cons (b:Bool) (l:List Bool):val (b::l)=b.toNat+2*val l:=by cases b<;>simp [val]
theorem bits_val (l:List Bool):bitsOf (val l) l.length=l:=by
 induction l with
 |nil=>rfl
 |cons x r ih=>rw [val_cons,List.length_cons,bitsOf_cons,ih]
theorem bits_eq {l:List Bool} {n k:Nat} (h1:val l=n) (h2:l.length=k):l=bitsOf n k:=by rw [←h1,←h2,bits_val]
def minusL:List Bool→List Bool→Bool→List Bool
 |[],_,_=>[]
 |x::r,b,c=>((x.toNat+atL b 0+c.toNat)%2==1)::minusL r (b.drop 1) (decide (x.toNat<atL b 0+c.toNat))
theorem minusL_len (a b:List Bool) (c:Bool):(minusL a b c).length=a.length:=by
 induction a generalizing b c with
 |nil=>rfl
 |cons x r ih=>simp [minusL,ih]
theorem minusL_val (a b:List Bool) (c:Bool) (h:val b+c.toNat≤val a):val (minusL a b c)=val a - val b - c.toNat:=by
 induction a generalizing b c with
 |nil=>simp [minusL,val] at h ⊢
 |cons x r ih=>
  have e:=val_drop b 0
  rw [List.drop_zero] at e
  have hb:=atL_le b 0
  rw [val_cons] at h
  simp only [minusL,val_cons]
  generalize atL b 0=y at *
  have hx:x.toNat≤1:=by cases x<;>simp
  have hc:c.toNat≤1:=by cases c<;>simp
  generalize x.toNat=x' at *
  generalize c.toNat=c' at *
  have hd:(decide (x'<y+c')).toNat=if x'<y+c' then 1 else 0:=by split<;>rename_i q<;>simp [q]
  have h1:((x'+y+c')%2==1).toNat=(x'+y+c')%2:=by rcases Nat.mod_two_eq_zero_or_one (x'+y+c') with q|q<;>simp [q]
  rw [ih _ _ (by rw [hd];simp only [Nat.zero_add] at e;split<;>omega),hd,h1]
  simp only [Nat.zero_add] at e
  split<;>omega
theorem minusL_step (a b:List Bool) (i:Nat) (c:Bool) (h:i<a.length):
  minusL (a.drop i) (b.drop i) c=((atL a i+atL b i+c.toNat)%2==1)::minusL (a.drop (i+1)) (b.drop (i+1)) (decide (atL a i<atL b i+c.toNat)):=by
 rw [drop_cons h]
 have e1:(a[i]).toNat=atL a i:=by simp [atL,h];cases a[i]<;>rfl
 have e2:atL (b.drop i) 0=atL b i:=by simp [atL]
 simp only [minusL,e1,e2,List.drop_drop]
theorem minus_spec (a b:List Bool) (ha:a.length≤1000000) (hb:b.length≤1000000):Sp Tryz.prog gl 211 [bl a,bl b] (bl (minusL a b false)):=by
 refine s211 rfl rfl ?_
 simp -implicitDefEqProofs [c211]
 refine wp_lpk (α:=Nat×List Bool×Bool) (fun x=>⟨[(0,bl a),(1,bl b),(5,bl x.2.1),(6,.int .i64 x.2.2.toNat),(7,.int .i64 x.1)],[],[(.s 5,1)]⟩)
  (fun x=>x.1≤a.length∧x.2.1.length=x.1∧x.2.1++minusL (a.drop x.1) (b.drop x.1) x.2.2=minusL a b false) (fun x=>a.length - x.1) ?_ (0,[],false) ?_ ?_
 ·rintro K ⟨i,out,c⟩ hK ⟨h1,h0,h2⟩
  simp only at h1 h2 h0
  by_cases q:i<a.length
  ·have a1:=atL_le a i
   have a2:=atL_le b i
   have hc:c.toNat≤1:=by cases c<;>simp
   have e:=minusL_step a b i c q
   have A1:=at_spec a i
   have A2:=at_spec b i
   generalize hx:atL a i=x at *
   generalize hy:atL b i=y at *
   generalize hz:c.toNat=z at *
   have t1:IntKind.i64.wrap ((x:Int) - y)=x - y:=by rw [wrap_i64]<;>omega
   have t2:IntKind.i64.wrap ((x:Int) - y - z)=x - y - z:=by rw [wrap_i64]<;>omega
   have t3:IntKind.i64.wrap ((x:Int) - y - z+2)=x - y - z+2:=by rw [wrap_i64]<;>omega
   have t4:IntKind.i64.wrap (i+1)=(i+1):=by rw [wrap_i64]<;>omega
   have hlim:out.length+1≤lim:=by unfold lim;omega
   have fin: ∀(σ':St),Weak σ' ⟨[(0,bl a),(1,bl b),(5,bl (out++[(x+y+z)%2==1])),(6,.int .i64 (decide (x<y+z)).toNat),(7,.int .i64 (i+1:Nat))],[],[(.s 5,1)]⟩→K σ':=
    fun σ' hσ=>hK (i+1,out++[(x+y+z)%2==1],decide (x<y+z)) σ' ⟨by simp only;omega,by simp [h0],by simp only [List.append_assoc,List.singleton_append];rw [←h2,e]⟩ (by simp only;omega) hσ
   simp -implicitDefEqProofs [bl,q]
   refine onC_mk _ A1 ?_
   simp -implicitDefEqProofs
   refine onC_mk _ A2 ?_
   simp -implicitDefEqProofs
   simp only [t1,t2]
   by_cases g:x<y+z
   ·have g1:((x:Int) - y - z<0):=by omega
    have b1:(((x:Int) - y - z+2)==1)=((x+y+z)%2==1):=by rw [Bool.eq_iff_iff];simp;omega
    simp -implicitDefEqProofs [g1]
    simp only [t3]
    refine ⟨hlim,by rintro r (⟨-,h⟩|⟨-,h⟩)<;>simp [←h],fin _ ?_⟩
    apply weak_mk<;>simp [bl,t4,b1,g]
   ·have g1: ¬((x:Int) - y - z<0):=by omega
    have b1:(((x:Int) - y - z)==1)=((x+y+z)%2==1):=by rw [Bool.eq_iff_iff];simp;omega
    simp -implicitDefEqProofs [g1]
    refine ⟨hlim,by rintro r (⟨-,h⟩|⟨-,h⟩)<;>simp [←h],fin _ ?_⟩
    apply weak_mk<;>simp [bl,t4,b1,g]
  ·obtain rfl:i=a.length:=by omega
   rw [List.drop_eq_nil_of_le (Nat.le_refl _),minusL,List.append_nil] at h2
   rw [←h2]
   simp -implicitDefEqProofs [bl]
 ·simp
 ·apply weak_mk<;>simp [bl]
theorem minus_le (a b:List Bool) (ha:a.length≤1000000) (hb:b.length≤1000000) (h:val b≤val a):Sp Tryz.prog gl 211 [bl a,bl b] (bl (bitsOf (val a - val b) a.length)):=by
 rw [←bits_eq (by rw [minusL_val _ _ _ (by simpa using h)];simp) (minusL_len a b false)]
 exact minus_spec a b ha hb
theorem val_take_succ (l:List Bool) (i:Nat) (h:i<l.length):val (l.take (i+1))=val (l.take i)+2^i*(l[i]).toNat:=by
 rw [List.take_succ_eq_append_getElem h,val_append,List.length_take,Nat.min_eq_left (by omega)]
 cases l[i]<;>simp [val]
theorem val_take_lt (l:List Bool) (i:Nat):val (l.take i)<2^i:=
 Nat.lt_of_lt_of_le (val_lt _) (Nat.pow_le_pow_right (by omega) (by rw [List.length_take];omega))
theorem val_take_le (l:List Bool) (i:Nat):val (l.take i)≤val l:=by
 have:l=l.take i++l.drop i:=(List.take_append_drop i l).symm
 rw [this,val_append,List.take_append_drop]
 exact Nat.le_add_right _ _
theorem shl1_u64 (i:Nat) (h:i<64):IntKind.u64.wrap (1*2^(min i IntKind.u64.bits))=((2^i:Nat):Int):=by
 rw [show min i IntKind.u64.bits=i by show min i 64=i;omega]
 have h1:(2:Nat)^i≤2^63:=Nat.pow_le_pow_right (by omega) (by omega)
 have h2:(2:Nat)^63=9223372036854775808:=rfl
 rw [Int.one_mul,show ((2:Int)^i)=((2^i:Nat):Int) by simp]
 generalize 2^i=x at *
 rw [wrap_u64]<;>omega
theorem of_hi (v i:Nat) (h:64≤i):(v+2^i) / 18446744073709551616=v / 18446744073709551616+2^(i - 64)∧(v+2^i)%18446744073709551616=v%18446744073709551616:=by
 have e:(2:Nat)^i=2^(i - 64)*18446744073709551616:=by
  rw [show (18446744073709551616:Nat)=2^64 from rfl,←Nat.pow_add];congr 1;omega
 rw [e];omega
theorem of_lo (v i:Nat) (h:i<64) (hv:v<2^i):(v+2^i) / 18446744073709551616=v / 18446744073709551616∧(v+2^i)%18446744073709551616=v%18446744073709551616+2^i:=by
 have h1:(2:Nat)^i≤2^63:=Nat.pow_le_pow_right (by omega) (by omega)
 have h2:(2:Nat)^63=9223372036854775808:=rfl
 omega
theorem of_spec (l:List Bool) (hl:l.length≤1000000):
  Sp Tryz.prog gl 163 [bl l] (if val l<340282366920938463463374607431768211456 then .tup [wide (val l),.bool true] else .tup [wide 0,.bool false]):=by
 refine s163 rfl rfl ?_
 obtain ⟨R,hR⟩: ∃R,R=(if val l<340282366920938463463374607431768211456 then AV.tup [wide (val l),.bool true] else .tup [wide 0,.bool false]):=⟨_,rfl⟩
 rw [←hR]
 simp -implicitDefEqProofs [c163]
 refine wp_lpk (α:=Nat) (fun i=>⟨[(0,bl l),(2,.ptr (.n 2) 0),(4,.ptr (.n 4) 0),(5,i6 i)],[(.n 4,[u (val (l.take i) / 18446744073709551616),u (val (l.take i)%18446744073709551616)]),(.n 2,[u 0,u 0])],[]⟩)
  (fun i=>i≤l.length∧val (l.take i)<340282366920938463463374607431768211456) (fun i=>l.length - i) ?_ 0 ?_ ?_
 ·rintro K i hK ⟨h1,h2⟩
  have t1:IntKind.i64.wrap ((i:Int)+1)=i+1:=by rw [wrap_i64]<;>omega
  have hv:=val_take_lt l i
  by_cases g:i<l.length
  ·have e:=val_take_succ l i g
   have e':=val_take_le l (i+1)
   obtain ⟨v,hv'⟩: ∃v,v=val (l.take i):=⟨_,rfl⟩
   rw [←hv'] at hv h2 e ⊢
   cases hb:l[i]
   ·rw [hb] at e
    simp at e
    simp -implicitDefEqProofs [bl,g,hb]
    refine hK (i+1) _ ⟨by omega,by rw [e];exact h2⟩ (by omega) ?_
    apply weak_mk<;>simp [bl,t1,e]
   ·rw [hb] at e
    simp at e
    by_cases g2:128≤i
    ·have: ¬val l<340282366920938463463374607431768211456:=by
      have h3:(2:Nat)^128≤2^i:=Nat.pow_le_pow_right (by omega) g2
      have h4:(2:Nat)^128=340282366920938463463374607431768211456:=rfl
      omega
     rw [if_neg this] at hR
     subst hR
     have g3:(128:Int)≤i:=by omega
     simp -implicitDefEqProofs [bl,g,hb,g3,wide]
    ·have hlt:val (l.take (i+1))<340282366920938463463374607431768211456:=by
      have h3:=val_take_lt l (i+1)
      have h4:(2:Nat)^(i+1)≤2^128:=Nat.pow_le_pow_right (by omega) (by omega)
      have h5:(2:Nat)^128=340282366920938463463374607431768211456:=rfl
      omega
     have g3: ¬(128:Int)≤i:=by omega
     by_cases g4:64≤i
     ·have g5:(64:Int)≤i:=by omega
      have t2:IntKind.i64.wrap ((i:Int) - 64)=((i - 64:Nat):Int):=by rw [wrap_i64]<;>omega
      have t3:IntKind.u64.wrap ((i - 64:Nat):Int)=((i - 64:Nat):Int):=by rw [wrap_u64]<;>omega
      have t4:=shl1_u64 (i - 64) (by omega)
      obtain ⟨q1,q2⟩:=of_hi v i g4
      have t5:IntKind.u64.wrap ((v / 18446744073709551616:Nat)+(2^(i - 64):Nat):Int)=((v+2^i) / 18446744073709551616:Nat):=by
       rw [q1];rw [wrap_u64]<;>omega
      rw [←e] at t5 q2
      obtain ⟨V,hV⟩: ∃V,V=val (l.take (i+1)):=⟨_,rfl⟩
      have fin: ∀(σ':St),Weak σ' ⟨[(0,bl l),(2,.ptr (.n 2) 0),(4,.ptr (.n 4) 0),(5,i6 (i+1:Nat))],[(.n 4,[u (V / 18446744073709551616),u (V%18446744073709551616)]),(.n 2,[u 0,u 0])],[]⟩→K σ':=
       fun σ' hσ=>hK (i+1) σ' ⟨by omega,hlt⟩ (by omega) (hV▸hσ)
      rw [←hV] at t5 q2
      rw [q2] at fin
      obtain ⟨A,hA⟩: ∃A,A=v / 18446744073709551616:=⟨_,rfl⟩
      obtain ⟨B,hB⟩: ∃B,B=v%18446744073709551616:=⟨_,rfl⟩
      obtain ⟨C,hC⟩: ∃C,C=V / 18446744073709551616:=⟨_,rfl⟩
      obtain ⟨D,hD⟩: ∃D,D=2^(i - 64):=⟨_,rfl⟩
      rw [←hA,←hC,←hD] at t5
      rw [←hA,←hB]
      rw [←hB,←hC] at fin
      rw [←hD] at t4
      clear hA hB hC hD q1 q2 hV hv' e e' hK h2 hv hR hlt
      simp -implicitDefEqProofs [bl,g,hb,g3,g5]
      rw [Int.one_mul] at t4
      simp only [t2,t3,Int.toNat_natCast]
      simp -implicitDefEqProofs
      rw [t4,t5]
      refine fin _ ?_
      apply weak_mk<;>simp [bl,t1]
     ·have g5: ¬(64:Int)≤i:=by omega
      have t3:IntKind.u64.wrap (i:Int)=(i:Int):=by rw [wrap_u64]<;>omega
      have t4:=shl1_u64 i (by omega)
      obtain ⟨q1,q2⟩:=of_lo v i (by omega) hv
      have t5:IntKind.u64.wrap ((v%18446744073709551616:Nat)+(2^i:Nat):Int)=((v+2^i)%18446744073709551616:Nat):=by
       rw [q2];rw [wrap_u64]<;>omega
      rw [←e] at t5 q1
      obtain ⟨V,hV⟩: ∃V,V=val (l.take (i+1)):=⟨_,rfl⟩
      have fin: ∀(σ':St),Weak σ' ⟨[(0,bl l),(2,.ptr (.n 2) 0),(4,.ptr (.n 4) 0),(5,i6 (i+1:Nat))],[(.n 4,[u (V / 18446744073709551616),u (V%18446744073709551616)]),(.n 2,[u 0,u 0])],[]⟩→K σ':=
       fun σ' hσ=>hK (i+1) σ' ⟨by omega,hlt⟩ (by omega) (hV▸hσ)
      rw [←hV] at t5 q1
      rw [q1] at fin
      obtain ⟨A,hA⟩: ∃A,A=v / 18446744073709551616:=⟨_,rfl⟩
      obtain ⟨B,hB⟩: ∃B,B=v%18446744073709551616:=⟨_,rfl⟩
      obtain ⟨C,hC⟩: ∃C,C=V%18446744073709551616:=⟨_,rfl⟩
      obtain ⟨D,hD⟩: ∃D,D=2^i:=⟨_,rfl⟩
      rw [←hB,←hC,←hD] at t5
      rw [←hA,←hB]
      rw [←hA,←hC] at fin
      rw [←hD] at t4
      clear hA hB hC hD q1 q2 hV hv' e e' hK h2 hv hR hlt
      simp -implicitDefEqProofs [bl,g,hb,g3,g5]
      rw [Int.one_mul] at t4
      simp only [t3,Int.toNat_natCast]
      simp -implicitDefEqProofs
      rw [t4,t5]
      refine fin _ ?_
      apply weak_mk<;>simp [bl,t1]
  ·obtain rfl:i=l.length:=by omega
   rw [List.take_length] at h2 ⊢
   rw [if_pos h2] at hR
   subst hR
   simp -implicitDefEqProofs [bl,wide]
 ·simp [val]
 ·apply weak_mk<;>simp [bl,val]
open Go.Proofs
theorem dm_of {x N q r:Nat} (h:x=N*q+r) (hr:r<N):x / N=q∧x%N=r:=by
 subst h
 rw [Nat.mul_add_div (by omega),Nat.mul_add_mod,Nat.div_eq_of_lt hr,Nat.mod_eq_of_lt hr]
 exact ⟨rfl,rfl⟩
def qc (j:Nat) (B:List Bool):List AV:=(List.replicate j false++B).map AV.bool
theorem qc_succ (j:Nat) (B:List Bool):qc (j+1) B=qc j (false::B):=by
 unfold qc;rw [List.replicate_succ',List.append_assoc];rfl
theorem qc_set (j:Nat) (B:List Bool):List.take j (qc (j+1) B)++AV.bool true::List.drop (j+1) (qc (j+1) B)=qc j (true::B):=by
 have h1:List.take j (qc (j+1) B)=(List.replicate j false).map AV.bool:=by
  rw [qc_succ];unfold qc;rw [List.map_append,List.take_left' (by simp)]
 have h2:List.drop (j+1) (qc (j+1) B)=B.map AV.bool:=by
  unfold qc;rw [List.map_append,List.drop_left' (by simp)]
 rw [h1,h2];unfold qc;simp
theorem qc_len (j:Nat) (B:List Bool):(qc j B).length=j+B.length:=by simp [qc]
theorem idsL_bools (q:List Bool):idsL (q.map AV.bool)=[]:=by
 induction q with
 |nil=>rfl
 |cons x r ih=>simp [idsL,AV.ids,ih]
theorem qc_ids (j:Nat) (B:List Bool):idsL (qc j B)=[]:=idsL_bools _
theorem cmpN_ge (a b:Nat):0≤cmpN a b↔b≤a:=by
 unfold cmpN;split
 ·omega
 ·split<;>omega
theorem divide_spec (a n:List Bool) (ha:a.length≤1000000) (hn:n.length≤1000000) (h0:0<val n):
  Sp Tryz.prog gl 162 [bl a,bl n] (.tup [bl (bitsOf (val a / val n) a.length),bl (bitsOf (val a%val n) a.length)]):=by
 refine s162 rfl rfl ?_
 have hlim:a.length≤lim:=by unfold lim;omega
 have t0:IntKind.i64.wrap ((a.length:Int) - 1)=a.length - 1:=by rw [wrap_i64]<;>omega
 simp -implicitDefEqProofs [c162,bl,hlim]
 refine wp_lpk (α:=Nat) (fun k=>⟨[(0,bl a),(1,bl n),(6,.ms (.n 11) 0 a.length 1),(7,bl (bitsOf (val (a.drop k)%val n) (a.length - k))),(8,i6 ((k:Int) - 1))],
  [(.n 11,qc k (bitsOf (val (a.drop k) / val n) (a.length - k)))],[]⟩) (fun k=>k≤a.length) (fun k=>k) ?_ a.length ?_ ?_
 ·rintro K k hK hk
  cases k with
  |zero=>
   have e1:val (a.drop 0)=val a:=by rw [List.drop_zero]
   rw [e1,Nat.sub_zero]
   obtain ⟨q,hq⟩: ∃q,q=bitsOf (val a / val n) a.length:=⟨_,rfl⟩
   have hql:q.length=a.length:=by rw [hq,bitsOf_len]
   rw [←hq]
   obtain ⟨l,hl⟩: ∃l,l=bitsOf (val a%val n) a.length:=⟨_,rfl⟩
   rw [←hl]
   have hqc:qc 0 q=(q.map fun b=>[AV.bool b]).flatten:=by
    have: ∀q:List Bool,q.map AV.bool=(q.map fun b=>[AV.bool b]).flatten:=by
     intro q;induction q with
     |nil=>rfl
     |cons x r ih=>rw [List.map_cons,List.map_cons,List.flatten_cons,←ih];rfl
    unfold qc;rw [List.replicate_zero,List.nil_append];exact this q
   obtain ⟨X,hX⟩: ∃X,X=qc 0 q:=⟨_,rfl⟩
   rw [←hX] at hqc ⊢
   clear hX hq hl hK e1
   simp -implicitDefEqProofs [bl]
   refine .inr (.inl ⟨4,.n 11,a.length,1,q.map (fun b=>[AV.bool b]),⟨?_,?_,?_,?_,?_,?_,?_⟩,?_⟩)
   ·simp [lk]
   ·simp [lkB,hqc]
   ·rfl
   ·simp [hql]
   ·intro r hr;simp at hr;rcases hr with ⟨-,h⟩|⟨-,h⟩<;>simp [←h]
   ·have: ∀q:List Bool,idsL (q.map fun b=>[AV.bool b]).flatten=[]:=by
     intro q;induction q with
     |nil=>rfl
     |cons x r ih=>simp [idsL,AV.ids,ih]
    exact this q
   ·simp [rmB]
   ·simp [frzSt,postA,resA,oneA,purE,lk,AV.ids,shut,shutL]
  |succ j=>
   have hj:j<a.length:=by omega
   have ed:=drop_cons hj
   have eV:val (a.drop j)=(a[j]).toNat+2*val (a.drop (j+1)):=by rw [ed,val_cons]
   have hVl:val (a.drop (j+1))<2^(a.length - (j+1)):=by have:=val_lt (a.drop (j+1));rwa [List.length_drop] at this
   have el:a.length - j=a.length - (j+1)+1:=by omega
   obtain ⟨V,hV⟩: ∃V,V=val (a.drop (j+1)):=⟨_,rfl⟩
   obtain ⟨V',hV'⟩: ∃V',V'=val (a.drop j):=⟨_,rfl⟩
   rw [←hV] at eV hVl ⊢
   rw [←hV'] at eV
   have hKj:=fun σ' h=>hK j σ' (by omega) (by omega) h
   simp only [←hV'] at hKj
   obtain ⟨N,hN⟩: ∃N,N=val n:=⟨_,rfl⟩
   rw [←hN] at h0 hKj ⊢
   have dmV:=Nat.div_add_mod V N
   have hm:=Nat.mod_lt V h0
   obtain ⟨q,hq⟩: ∃q,q=V / N:=⟨_,rfl⟩
   obtain ⟨r,hr⟩: ∃r,r=V%N:=⟨_,rfl⟩
   have hrV:r≤V:=by rw [hr];exact Nat.mod_le _ _
   rw [←hq,←hr] at dmV
   rw [←hr] at hm
   rw [←hq,←hr]
   obtain ⟨m,hm'⟩: ∃m,m=a.length - (j+1):=⟨_,rfl⟩
   rw [←hm'] at el hVl ⊢
   simp only [el] at hKj
   obtain ⟨b,hb⟩: ∃b,b=a[j]:=⟨_,rfl⟩
   rw [←hb] at eV
   have eL:val (bitsOf r m)=r:=by rw [bitsOf_val,Nat.mod_eq_of_lt (by omega)]
   have hLl:=bitsOf_len r m
   have hL0:b::bitsOf r m=bitsOf (b.toNat+2*r) (m+1):=(bitsOf_cons b r m).symm
   have hB1:true::bitsOf q m=bitsOf (1+2*q) (m+1):=(bitsOf_cons true q m).symm
   have hB0:false::bitsOf q m=bitsOf (2*q) (m+1):=by have:=(bitsOf_cons false q m).symm;simpa using this
   obtain ⟨L,hL⟩: ∃L,L=bitsOf r m:=⟨_,rfl⟩
   rw [←hL] at eL hLl hL0 ⊢
   have eW:val (b::L)=b.toNat+2*r:=by rw [val_cons,eL]
   have hb1:b.toNat≤1:=by cases b<;>simp
   have C:=compare_spec (b::L) n (by simp;omega) hn
   have M:=fun h=>minus_le (b::L) n (by simp;omega) hn h
   rw [←hN,eW] at C M
   have hcc:=cmpN_ge (b.toNat+2*r) N
   obtain ⟨cc,hc⟩: ∃cc,cc=cmpN (b.toNat+2*r) N:=⟨_,rfl⟩
   rw [←hc] at C hcc
   have Bs:=qc_set j (bitsOf q m)
   have Bn:=qc_succ j (bitsOf q m)
   have Bl:=qc_len (j+1) (bitsOf q m)
   rw [bitsOf_len] at Bl
   have Bi:=qc_ids (j+1) (bitsOf q m)
   have Bi2:=qc_ids j (true::bitsOf q m)
   rw [←Bs] at Bi2
   rw [hB1] at Bs
   rw [hB0] at Bn
   obtain ⟨X,hX⟩: ∃X,X=qc (j+1) (bitsOf q m):=⟨_,rfl⟩
   rw [←hX] at Bs Bn Bl Bi Bi2 ⊢
   have e8:((j+1:Nat):Int) - 1=j:=by omega
   have t1:IntKind.i64.wrap ((j:Int) - 1)=j - 1:=by rw [wrap_i64]<;>omega
   have hlimL:1+L.length≤lim:=by unfold lim;omega
   have hXl:j+1≤X.length:=by omega
   rw [e8]
   by_cases g:N≤b.toNat+2*r
   ·have M:=M g
    have gc:=hcc.2 g
    have key:V' / N=1+2*q∧V'%N=b.toNat+2*r - N:=by
     apply dm_of
     ·rw [eV,←dmV,Nat.mul_add,Nat.mul_add,Nat.mul_one,Nat.mul_left_comm N 2 q];omega
     ·omega
    rw [key.1,key.2] at hKj
    have eM:(b::L).length=m+1:=by simp [hLl]
    rw [eM] at M
    rw [←Bs] at hKj
    obtain ⟨L2,hL2⟩: ∃L2,L2=bitsOf (b.toNat+2*r - N) (m+1):=⟨_,rfl⟩
    rw [←hL2] at M hKj
    clear Bs Bn hcc hX key hL2 hL hq hr hN hV hV' hc hL0 hB1 hB0 eV dmV ed Bl
    subst hb
    simp -implicitDefEqProofs [bl,hj]
    refine ⟨hlimL,by rintro r (⟨-,h⟩|⟨-,h⟩)<;>simp [←h],?_⟩
    refine onC_mk _ C ?_
    simp -implicitDefEqProofs [gc]
    refine onC_mk _ M ?_
    simp -implicitDefEqProofs [hj,hXl]
    refine hKj _ ?_
    apply weak_mk<;>simp [bl,t1,wkL_refl,Bi,Bi2]
   ·have gc: ¬0≤cc:=fun h=>g (hcc.1 h)
    have key:V' / N=2*q∧V'%N=b.toNat+2*r:=by
     apply dm_of
     ·rw [eV,←dmV,Nat.mul_add,Nat.mul_left_comm N 2 q];omega
     ·omega
    rw [key.1,key.2,←Bn,←hL0] at hKj
    clear Bs Bn hcc hX key hL hq hr hN hV hV' hc hL0 hB1 hB0 eV dmV ed Bl M
    subst hb
    simp -implicitDefEqProofs [bl,hj]
    refine ⟨hlimL,by rintro r (⟨-,h⟩|⟨-,h⟩)<;>simp [←h],?_⟩
    refine onC_mk _ C ?_
    simp -implicitDefEqProofs [gc]
    refine hKj _ ?_
    apply weak_mk<;>simp [bl,t1,wkL_refl,Bi,Bi2]
 ·exact Nat.le_refl _
 ·rw [List.drop_eq_nil_of_le (Nat.le_refl _),Nat.sub_self]
  have e1:bitsOf (val [] / val n) 0=[]:=rfl
  have e2:bitsOf (val []%val n) 0=[]:=rfl
  rw [e1,e2]
  have:qc a.length []=List.replicate a.length (AV.bool false):=by unfold qc;simp
  have hi:=qc_ids a.length []
  rw [this] at hi ⊢
  apply weak_mk<;>simp [bl,t0,hi]
open Go.Proofs

open Go.Proofs

section
variable {x:Nat} (hx:x<18446744073709551616)
include hx
set_option linter.unusedSectionVars false
end
end Go.Ai
set_option linter.unusedSectionVars false
namespace Go.Ai
open Go.Proofs
section
variable {Q:AE→St→Prop} {Y s y1 y0 un v v0:Nat}
end

end Go.Ai
