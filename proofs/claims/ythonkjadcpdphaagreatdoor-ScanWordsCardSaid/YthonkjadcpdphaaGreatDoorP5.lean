/- P5: a part of the proof: the rules, or what functions compute. Conditions: as each theorem says. -/
import Derived.Test.YthonkjadcpdphaaGreatDoorP1
import Derived.Test.YthonkjadcpdphaaGreatDoorAiExt
set_option linter.unusedSimpArgs false
set_option linter.unusedVariables false
set_option maxRecDepth 20000
namespace Go.Ai
open Go.Proofs

def bl (l:List Bool):AV:= .sl (l.map fun b=>[.bool b])
def atL (l:List Bool) (i:Nat):Nat:=if l.getD i false then 1 else 0
theorem at_spec (l:List Bool) (i:Nat):Sp Tryz.prog gl 212 [bl l,.int .i64 i] (.int .i64 (atL l i)):=by
 refine s212 rfl rfl ?_
 by_cases hi:i<l.length
 ·cases h:l[i]<;>simp [a212,c212,bl,hi,h,atL]
 ·simp [a212,c212,bl,hi,atL]

def plusL:List Bool→List Bool→Bool→List Bool
 |[],[],c=>if c then [true] else []
 |a::r,[],c=>(a^^c)::plusL r [] (a&&c)
 |[],b::s,c=>(b^^c)::plusL [] s (b&&c)
 |a::r,b::s,c=>(a^^b^^c)::plusL r s (a&&b||a&&c||b&&c)
def val:List Bool→Nat
 |[]=>0
 |b::r=>b.toNat+2*val r
theorem plusL_val (a b:List Bool) (c:Bool):val (plusL a b c)=val a+val b+c.toNat:=by
 induction a generalizing b c with
 |nil=>
  induction b generalizing c with
  |nil=>cases c<;>simp [plusL,val]
  |cons x s ih=>cases x<;>cases c<;>simp [plusL,val,ih]<;>omega
 |cons y r ih=>
  cases b with
  |nil=>cases y<;>cases c<;>simp [plusL,val,ih]<;>omega
  |cons x s=>cases x<;>cases y<;>cases c<;>simp [plusL,val,ih]<;>omega
theorem plusL_len (a b:List Bool) (c:Bool):(plusL a b c).length≤max a.length b.length+1:=by
 induction a generalizing b c with
 |nil=>
  induction b generalizing c with
  |nil=>cases c<;>simp [plusL]
  |cons x s ih=>have:=ih (x&&c);simp [plusL] at this ⊢;omega
 |cons y r ih=>
  cases b with
  |nil=>have:=ih [] (y&&c);simp [plusL] at this ⊢;omega
  |cons x s=>have:=ih s (y&&x||y&&c||x&&c);simp [plusL] at this ⊢;omega
theorem plusL_step (a b:List Bool) (i:Nat) (c:Bool) (h:i<a.length∨i<b.length∨c=true):
  plusL (a.drop i) (b.drop i) c=((atL a i+atL b i+c.toNat)%2==1)::plusL (a.drop (i+1)) (b.drop (i+1)) ((atL a i+atL b i+c.toNat) / 2==1):=by
 by_cases ha:i<a.length
 ·by_cases hb:i<b.length
  ·rw [List.drop_eq_getElem_cons ha,List.drop_eq_getElem_cons hb]
   cases h1:a[i]<;>cases h2:b[i]<;>cases c<;>simp [plusL,atL,ha,hb,h1,h2]
  ·rw [List.drop_eq_getElem_cons ha,List.drop_eq_nil_of_le (by omega:b.length≤i),List.drop_eq_nil_of_le (by omega:b.length≤i+1)]
   cases h1:a[i]<;>cases c<;>simp [plusL,atL,ha,hb,h1]
 ·by_cases hb:i<b.length
  ·rw [List.drop_eq_getElem_cons hb,List.drop_eq_nil_of_le (by omega:a.length≤i),List.drop_eq_nil_of_le (by omega:a.length≤i+1)]
   cases h2:b[i]<;>cases c<;>simp [plusL,atL,ha,hb,h2]
  ·rw [List.drop_eq_nil_of_le (by omega:a.length≤i),List.drop_eq_nil_of_le (by omega:b.length≤i),List.drop_eq_nil_of_le (by omega:a.length≤i+1),List.drop_eq_nil_of_le (by omega:b.length≤i+1)]
   have hc:c=true:=by simpa [ha,hb] using h
   subst hc;simp [plusL,atL,ha,hb]
theorem plusL_end (a b:List Bool) (i:Nat) (h1:a.length≤i) (h2:b.length≤i):plusL (a.drop i) (b.drop i) false=[]:=by
 rw [List.drop_eq_nil_of_le h1,List.drop_eq_nil_of_le h2];simp [plusL]
theorem atL_le (l:List Bool) (i:Nat):atL l i≤1:=by unfold atL;split<;>omega

theorem atL_hi (l:List Bool) (i:Nat) (h:l.length≤i):atL l i=0:=by simp [atL,h]
theorem half_eq: ∀x:Nat,x≤3→((x / 2==1).toNat:Nat)=x / 2
 |0,_=>rfl
 |1,_=>rfl
 |2,_=>rfl
 |3,_=>rfl
 |x+4,h=>by omega

theorem plus_spec (a b:List Bool) (ha:a.length≤1000000) (hb:b.length≤1000000):Sp Tryz.prog gl 183 [bl a,bl b] (bl (plusL a b false)):=by
 refine s183 rfl rfl ?_
 simp [c183]
 refine wp_lp (α:=Nat×List Bool×Bool) (fun x=>⟨[(0,bl a),(1,bl b),(5,bl x.2.1),(6,.int .i64 x.2.2.toNat),(7,.int .i64 x.1)],[],[(.s 5,1)]⟩)
  (fun x=>x.1+x.2.2.toNat≤max a.length b.length+1∧x.2.1.length=x.1∧x.2.1++plusL (a.drop x.1) (b.drop x.1) x.2.2=plusL a b false) (fun x=>a.length+b.length+2 - x.1) ?_ (0,[],false) ?_ ?_
 ·rintro ⟨i,out,c⟩ ⟨h1,h0,h2⟩
  simp only at h1 h2 h0
  have a1:=atL_le a i
  have a2:=atL_le b i
  have b1:=atL_hi a i
  have b2:=atL_hi b i
  have hc:c.toNat≤1:=by cases c<;>simp
  have hd:c=true↔c.toNat=1:=by cases c<;>simp
  generalize hx:atL a i=x at *
  generalize hy:atL b i=y at *
  have t1:IntKind.i64.wrap (x+y)=(x+y):=by rw [wrap_i64]<;>omega
  have t2:IntKind.i64.wrap (x+y+(c.toNat:Int))=x+y+c.toNat:=by rw [wrap_i64]<;>omega
  have t3:IntKind.i64.wrap ((x+y+c.toNat:Int).tdiv 2)=(x+y+c.toNat) / 2:=by rw [Int.tdiv_eq_ediv_of_nonneg (by omega),wrap_i64]<;>omega
  have t4:IntKind.i64.wrap (i+1)=(i+1):=by rw [wrap_i64]<;>omega
  have t5:(x+y+c.toNat:Int).tmod 2=(x+y+c.toNat)%2:=by rw [Int.tmod_eq_emod_of_nonneg];omega
  have t6:((x+y+c.toNat:Int)%2==1)=((x+y+c.toNat)%2==1):=by rw [Bool.eq_iff_iff];simp;omega
  have t7:(((x+y+c.toNat) / 2==1).toNat:Int)=(x+y+c.toNat) / 2:=by rw [half_eq _ (by omega)];simp
  have hlim:out.length+1≤lim:=by unfold lim;omega
  by_cases q:i<a.length∨i<b.length∨c=true
  ·have e:=plusL_step a b i c q
   rw [hx,hy] at e
   have t8:=half_eq (x+y+c.toNat) (by omega)
   by_cases g1:i<a.length
   ·simp [bl,g1]
    refine onC_mk _ (hx▸at_spec a i) ?_
    simp
    refine onC_mk _ (hy▸at_spec b i) ?_
    simp
    simp only [t1,t2,t3,t4,t5]
    refine ⟨hlim,by rintro r (⟨-,h⟩|⟨-,h⟩)<;>simp [←h],lpQ_mk (i+1,out++[(x+y+c.toNat)%2==1],(x+y+c.toNat) / 2==1) ?_ ?_ ?_⟩
    ·simp only [List.length_append,List.length_singleton,List.append_assoc,List.singleton_append]
     exact ⟨by omega,by omega,by rw [←h2,e]⟩
    ·simp only;omega
    ·apply weak_mk<;>simp [bl,t1,t2,t3,t4,t5,t6,t7]
   ·by_cases g2:i<b.length
    ·simp [bl,g1,g2]
     refine onC_mk _ (hx▸at_spec a i) ?_
     simp
     refine onC_mk _ (hy▸at_spec b i) ?_
     simp
     simp only [t1,t2,t3,t4,t5]
     refine ⟨hlim,by rintro r (⟨-,h⟩|⟨-,h⟩)<;>simp [←h],lpQ_mk (i+1,out++[(x+y+c.toNat)%2==1],(x+y+c.toNat) / 2==1) ?_ ?_ ?_⟩
     ·simp only [List.length_append,List.length_singleton,List.append_assoc,List.singleton_append]
      exact ⟨by omega,by omega,by rw [←h2,e]⟩
     ·simp only;omega
     ·apply weak_mk<;>simp [bl,t1,t2,t3,t4,t5,t6,t7]
    ·obtain rfl:c=true:=by simpa [g1,g2] using q
     simp [bl,g1,g2]
     refine onC_mk _ (hx▸at_spec a i) ?_
     simp
     refine onC_mk _ (hy▸at_spec b i) ?_
     simp at t1 t2 t3 t4 t5 t6 t7
     simp
     simp only [t1,t2,t3,t4,t5]
     refine ⟨hlim,by rintro r (⟨-,h⟩|⟨-,h⟩)<;>simp [←h],lpQ_mk (i+1,out++[(x+y+1)%2==1],(x+y+1) / 2==1) ?_ ?_ ?_⟩
     ·simp only [List.length_append,List.length_singleton,List.append_assoc,List.singleton_append]
      simp at t8 e h1
      exact ⟨by omega,by omega,by rw [←h2,e]⟩
     ·simp at h1 ⊢;omega
     ·apply weak_mk<;>simp [bl,t1,t2,t3,t4,t5,t6,t7]
  ·have hf:c=false:=by cases c<;>simp_all
   subst hf
   have g1: ¬i<a.length:=fun h=>q (.inl h)
   have g2: ¬i<b.length:=fun h=>q (.inr (.inl h))
   simp [bl,g1,g2]
   rw [plusL_end a b i (by omega) (by omega)] at h2
   simpa [bl] using congrArg bl h2
 ·simp
 ·apply weak_mk<;>simp [bl]

def bitsOf (n k:Nat):List Bool:=(List.range k).map fun i=>n / 2^i%2==1
theorem val_append (a b:List Bool):val (a++b)=val a+2^a.length*val b:=by
 induction a with
 |nil=>simp [val]
 |cons x r ih=>simp [val,ih,Nat.pow_succ,Nat.mul_add];rw [show 2^r.length*2=2*2^r.length by omega,Nat.mul_assoc];omega
theorem bitsOf_succ (n k:Nat):bitsOf n (k+1)=bitsOf n k++[n / 2^k%2==1]:=by simp [bitsOf,List.range_succ]
theorem bitsOf_len (n k:Nat):(bitsOf n k).length=k:=by simp [bitsOf]
theorem bitsOf_val (n k:Nat):val (bitsOf n k)=n%2^k:=by
 induction k with
 |zero=>simp [bitsOf,val,Nat.mod_one]
 |succ k ih=>
  rw [bitsOf_succ,val_append,ih,bitsOf_len,Nat.pow_succ,Nat.mod_mul]
  congr 1
  rcases Nat.mod_two_eq_zero_or_one (n / 2^k) with h|h<;>simp [val,h]
theorem bitsOf_val128 (n:Nat) (h:n<340282366920938463463374607431768211456):val (bitsOf n 128)=n:=by
 rw [bitsOf_val];exact Nat.mod_eq_of_lt (by simpa using h)
theorem bit_hi (n i:Nat) (h:64≤i):n / 2^i=n / 18446744073709551616 / 2^(i%64+(i - i%64 - 64)):=by
 rw [Nat.div_div_eq_div_mul,show (18446744073709551616:Nat)=2^64 from rfl,←Nat.pow_add]
 congr 2;omega
theorem bit_lo (n i:Nat) (h:i<64):n / 2^i%2=n%18446744073709551616 / 2^i%2:=by
 have e:(18446744073709551616:Nat)=2^i*2^(64 - i):=by
  rw [←Nat.pow_add,show i+(64 - i)=64 by omega]
 rw [e,Nat.mod_mul_right_div_self]
 have e2:2^(64 - i)=2*2^(63 - i):=by rw [←Nat.pow_succ',Nat.succ_eq_add_one,show 63 - i+1=64 - i by omega]
 rw [e2,Nat.mod_mul_right_mod]
theorem shr_u64 (x i:Nat) (h:i<64):(x:Int).fdiv (2^min i IntKind.u64.bits)=((x / 2^i:Nat):Int):=by
 rw [show min i IntKind.u64.bits=i by show min i 64=i;omega,Int.fdiv_eq_ediv_of_nonneg _ (Int.pow_nonneg (by decide))]
 simp
theorem bits_spec (n:Nat) (hn:n<340282366920938463463374607431768211456):Sp Tryz.prog gl 113 [wide n] (bl (bitsOf n 128)):=by
 refine s113 rfl rfl ?_
 simp [c113,wide]
 refine wp_lp (α:=Nat) (fun i=>⟨[(1,.ptr (.n 1) 0),(3,bl (bitsOf n i)),(4,i6 i)],[(.n 1,[u (n / 18446744073709551616),u (n%18446744073709551616)])],[(.s 3,1)]⟩)
  (fun i=>i≤128) (fun i=>128 - i) ?_ 0 (by omega) ?_
 ·intro i hi
  have t1:IntKind.i64.wrap ((i:Int)+1)=i+1:=by rw [wrap_i64]<;>omega
  have t2:IntKind.u64.wrap ((i:Int).tmod 64)=(i%64:Nat):=by rw [Int.tmod_eq_emod_of_nonneg (by omega),wrap_u64]<;>omega
  have t3:0≤IntKind.u64.wrap ((i:Int).tmod 64):=by rw [t2];omega
  have bit: ∀m j:Nat,m<18446744073709551616→m / 2^(i%64)%2=n / 2^i%2→(((m:Int).fdiv (2^min (IntKind.u64.wrap ((i:Int).tmod 64)).toNat IntKind.u64.bits)).tmod 2==1)=(n / 2^i%2==1):=by
   intro m j hm e
   rw [t2,Int.toNat_natCast,shr_u64 _ _ (by omega),Int.tmod_eq_emod_of_nonneg (Int.natCast_nonneg _),Bool.eq_iff_iff]
   simp only [beq_iff_eq]
   generalize m / 2^(i%64)=q at e ⊢
   generalize n / 2^i=r at e ⊢
   omega
  simp [bl]
  refine onB_dec (fun h=>?_) (fun h=>?_)
  ·have hl:(bitsOf n i).length+1≤lim:=by rw [bitsOf_len];unfold lim;omega
   simp
   refine onB_dec (fun h6=>?_) (fun h6=>?_)
   ·have b1:=bit (n / 18446744073709551616) 0 (by omega) (by rw [bit_hi n i (by omega),show i%64+(i - i%64 - 64)=i%64 by omega])
    simp [t3]
    refine ⟨hl,by rintro r (⟨-,h⟩|⟨-,h⟩)<;>simp [←h],lpQ_mk (i+1) (by omega) (by omega) ?_⟩
    simp at b1
    apply weak_mk<;>simp [bl,bitsOf_succ,t1,b1]
   ·have b1:=bit (n%18446744073709551616) 0 (by omega) (by rw [bit_lo n i (by omega),Nat.mod_eq_of_lt (show i<64 by omega)])
    simp [t3]
    refine ⟨hl,by rintro r (⟨-,h⟩|⟨-,h⟩)<;>simp [←h],lpQ_mk (i+1) (by omega) (by omega) ?_⟩
    simp at b1
    apply weak_mk<;>simp [bl,bitsOf_succ,t1,b1]
  ·obtain rfl:i=128:=by omega
   simp
 ·apply weak_mk<;>simp [bl,bitsOf]

def timesL:List Bool→List Bool→List Bool→List Bool
 |out,_,[]=>out
 |out,sh,b::r=>timesL (if b then plusL out sh false else out) (false::sh) r
theorem timesL_val (out sh b:List Bool):val (timesL out sh b)=val out+val sh*val b:=by
 induction b generalizing out sh with
 |nil=>simp [timesL,val]
 |cons x r ih=>
  simp only [timesL,ih,val]
  cases x<;>simp [plusL_val,Nat.mul_add,Nat.add_assoc]
  ·rw [Nat.mul_assoc,Nat.mul_left_comm]
  ·rw [Nat.mul_assoc,Nat.mul_left_comm]
theorem timesL_len (out sh b:List Bool) (h:out.length≤sh.length):(timesL out sh b).length≤sh.length+b.length:=by
 induction b generalizing out sh with
 |nil=>simpa [timesL] using h
 |cons x r ih=>
  simp only [timesL,List.length_cons]
  have:=ih (if x then plusL out sh false else out) (false::sh) (by
   have:=plusL_len out sh false
   cases x<;>simp<;>omega)
  simp only [List.length_cons] at this
  omega
theorem drop_cons {α:Type} {l:List α} {i:Nat} (h:i<l.length):l.drop i=l[i]::l.drop (i+1):=List.drop_eq_getElem_cons h
theorem times_spec_l (a b:List Bool) (ha:a.length≤400000) (hb:b.length≤400000):Sp Tryz.prog gl 184 [bl a,bl b] (bl (timesL [] a b)):=by
 refine s184 rfl rfl ?_
 simp [c184,bl]
 refine ⟨by unfold lim;omega,by rintro r (⟨-,h⟩|⟨-,h⟩)<;>simp [←h],?_⟩
 refine wp_lp (α:=Nat×List Bool×List Bool) (fun x=>⟨[(0,bl a),(1,bl b),(5,bl x.2.1),(6,bl x.2.2),(7,i6 x.1)],[],[]⟩)
  (fun x=>x.1≤b.length∧x.2.2.length=a.length+x.1∧x.2.1.length≤a.length+x.1∧timesL x.2.1 x.2.2 (b.drop x.1)=timesL [] a b) (fun x=>b.length - x.1) ?_ (0,[],a) ?_ ?_
 ·rintro ⟨i,out,sh⟩ ⟨h1,h2,h3,h4⟩
  simp only at h1 h2 h3 h4
  have t1:IntKind.i64.wrap ((i:Int)+1)=i+1:=by rw [wrap_i64]<;>omega
  have hl:sh.length+1≤lim:=by unfold lim;omega
  simp [bl]
  refine onB_dec (fun h=>?_) (fun h=>?_)
  ·rw [drop_cons h,timesL] at h4
   cases hbi:b[i]
   ·rw [hbi] at h4
    simp [h,hbi]
    refine ⟨by omega,by rintro r (⟨-,h⟩|⟨-,h⟩)<;>simp [←h],lpQ_mk (i+1,out,false::sh) ⟨by simp;omega,by simp;omega,by simp;omega,by simpa using h4⟩ (by simp;omega) ?_⟩
    apply weak_mk<;>simp [bl,t1]
   ·rw [hbi] at h4
    simp [h,hbi]
    refine onC_mk _ (plus_spec out sh (by omega) (by omega)) ?_
    simp
    have:=plusL_len out sh false
    refine ⟨by omega,by rintro r (⟨-,h⟩|⟨-,h⟩)<;>simp [←h],lpQ_mk (i+1,plusL out sh false,false::sh) ⟨by simp;omega,by simp;omega,by simp;omega,by simpa using h4⟩ (by simp;omega) ?_⟩
    apply weak_mk<;>simp [bl,t1]
  ·rw [List.drop_eq_nil_of_le (by omega),timesL] at h4
   simp [h4]
 ·simp
 ·apply weak_mk<;>simp [bl]

open Go.Proofs
theorem val_lt (l:List Bool):val l<2^l.length:=by
 induction l with
 |nil=>simp [val]
 |cons x r ih=>simp only [val,List.length_cons,Nat.pow_succ];cases x<;>simp<;>omega
theorem val_take_succ (l:List Bool) (i:Nat) (h:i<l.length):val (l.take (i+1))=val (l.take i)+2^i*(l[i]).toNat:=by
 rw [List.take_succ_eq_append_getElem h,val_append,List.length_take,Nat.min_eq_left (by omega)]
 cases l[i]<;>simp [val]
theorem val_take_lt (l:List Bool) (i:Nat):val (l.take i)<2^i:=
 Nat.lt_of_lt_of_le (val_lt _) (Nat.pow_le_pow_right (by omega) (by rw [List.length_take];omega))
theorem val_take_le (l:List Bool) (i:Nat):val (l.take i)≤val l:=by
 have:l=l.take i++l.drop i:=(List.take_append_drop i l).symm
 rw [this,val_append,List.take_append_drop]
 exact Nat.le_add_right _ _
theorem shl1_u64 (i:Nat) (h:i<64):IntKind.u64.wrap (1*2^(min i IntKind.u64.bits))=((2^i:Nat):Int):=by
 rw [show min i IntKind.u64.bits=i by show min i 64=i;omega]
 have h1:(2:Nat)^i≤2^63:=Nat.pow_le_pow_right (by omega) (by omega)
 have h2:(2:Nat)^63=9223372036854775808:=rfl
 rw [Int.one_mul,show ((2:Int)^i)=((2^i:Nat):Int) by simp]
 generalize 2^i=x at *
 rw [wrap_u64]<;>omega
theorem of_hi (v i:Nat) (h:64≤i):(v+2^i) / 18446744073709551616=v / 18446744073709551616+2^(i - 64)∧(v+2^i)%18446744073709551616=v%18446744073709551616:=by
 have e:(2:Nat)^i=2^(i - 64)*18446744073709551616:=by
  rw [show (18446744073709551616:Nat)=2^64 from rfl,←Nat.pow_add];congr 1;omega
 rw [e];omega
theorem of_lo (v i:Nat) (h:i<64) (hv:v<2^i):(v+2^i) / 18446744073709551616=v / 18446744073709551616∧(v+2^i)%18446744073709551616=v%18446744073709551616+2^i:=by
 have h1:(2:Nat)^i≤2^63:=Nat.pow_le_pow_right (by omega) (by omega)
 have h2:(2:Nat)^63=9223372036854775808:=rfl
 omega
theorem of_spec (l:List Bool) (hl:l.length≤1000000):
  Sp Tryz.prog gl 163 [bl l] (if val l<340282366920938463463374607431768211456 then .tup [wide (val l),.bool true] else .tup [wide 0,.bool false]):=by
 refine s163 rfl rfl ?_
 obtain ⟨R,hR⟩: ∃R,R=(if val l<340282366920938463463374607431768211456 then AV.tup [wide (val l),.bool true] else .tup [wide 0,.bool false]):=⟨_,rfl⟩
 rw [←hR]
 simp -implicitDefEqProofs [c163]
 refine wp_lpk (α:=Nat) (fun i=>⟨[(0,bl l),(2,.ptr (.n 2) 0),(4,.ptr (.n 4) 0),(5,i6 i)],[(.n 4,[u (val (l.take i) / 18446744073709551616),u (val (l.take i)%18446744073709551616)]),(.n 2,[u 0,u 0])],[]⟩)
  (fun i=>i≤l.length∧val (l.take i)<340282366920938463463374607431768211456) (fun i=>l.length - i) ?_ 0 ?_ ?_
 ·rintro K i hK ⟨h1,h2⟩
  have t1:IntKind.i64.wrap ((i:Int)+1)=i+1:=by rw [wrap_i64]<;>omega
  have hv:=val_take_lt l i
  by_cases g:i<l.length
  ·have e:=val_take_succ l i g
   have e':=val_take_le l (i+1)
   obtain ⟨v,hv'⟩: ∃v,v=val (l.take i):=⟨_,rfl⟩
   rw [←hv'] at hv h2 e ⊢
   cases hb:l[i]
   ·rw [hb] at e
    simp at e
    simp -implicitDefEqProofs [bl,g,hb]
    refine hK (i+1) _ ⟨by omega,by rw [e];exact h2⟩ (by omega) ?_
    apply weak_mk<;>simp [bl,t1,e]
   ·rw [hb] at e
    simp at e
    by_cases g2:128≤i
    ·have: ¬val l<340282366920938463463374607431768211456:=by
      have h3:(2:Nat)^128≤2^i:=Nat.pow_le_pow_right (by omega) g2
      have h4:(2:Nat)^128=340282366920938463463374607431768211456:=rfl
      omega
     rw [if_neg this] at hR
     subst hR
     have g3:(128:Int)≤i:=by omega
     simp -implicitDefEqProofs [bl,g,hb,g3,wide]
    ·have hlt:val (l.take (i+1))<340282366920938463463374607431768211456:=by
      have h3:=val_take_lt l (i+1)
      have h4:(2:Nat)^(i+1)≤2^128:=Nat.pow_le_pow_right (by omega) (by omega)
      have h5:(2:Nat)^128=340282366920938463463374607431768211456:=rfl
      omega
     have g3: ¬(128:Int)≤i:=by omega
     by_cases g4:64≤i
     ·have g5:(64:Int)≤i:=by omega
      have t2:IntKind.i64.wrap ((i:Int) - 64)=((i - 64:Nat):Int):=by rw [wrap_i64]<;>omega
      have t3:IntKind.u64.wrap ((i - 64:Nat):Int)=((i - 64:Nat):Int):=by rw [wrap_u64]<;>omega
      have t4:=shl1_u64 (i - 64) (by omega)
      obtain ⟨q1,q2⟩:=of_hi v i g4
      have t5:IntKind.u64.wrap ((v / 18446744073709551616:Nat)+(2^(i - 64):Nat):Int)=((v+2^i) / 18446744073709551616:Nat):=by
       rw [q1];rw [wrap_u64]<;>omega
      rw [←e] at t5 q2
      obtain ⟨V,hV⟩: ∃V,V=val (l.take (i+1)):=⟨_,rfl⟩
      have fin: ∀(σ':St),Weak σ' ⟨[(0,bl l),(2,.ptr (.n 2) 0),(4,.ptr (.n 4) 0),(5,i6 (i+1:Nat))],[(.n 4,[u (V / 18446744073709551616),u (V%18446744073709551616)]),(.n 2,[u 0,u 0])],[]⟩→K σ':=
       fun σ' hσ=>hK (i+1) σ' ⟨by omega,hlt⟩ (by omega) (hV▸hσ)
      rw [←hV] at t5 q2
      rw [q2] at fin
      obtain ⟨A,hA⟩: ∃A,A=v / 18446744073709551616:=⟨_,rfl⟩
      obtain ⟨B,hB⟩: ∃B,B=v%18446744073709551616:=⟨_,rfl⟩
      obtain ⟨C,hC⟩: ∃C,C=V / 18446744073709551616:=⟨_,rfl⟩
      obtain ⟨D,hD⟩: ∃D,D=2^(i - 64):=⟨_,rfl⟩
      rw [←hA,←hC,←hD] at t5
      rw [←hA,←hB]
      rw [←hB,←hC] at fin
      rw [←hD] at t4
      clear hA hB hC hD q1 q2 hV hv' e e' hK h2 hv hR hlt
      simp -implicitDefEqProofs [bl,g,hb,g3,g5]
      rw [Int.one_mul] at t4
      simp only [t2,t3,Int.toNat_natCast]
      simp -implicitDefEqProofs
      rw [t4,t5]
      refine fin _ ?_
      apply weak_mk<;>simp [bl,t1]
     ·have g5: ¬(64:Int)≤i:=by omega
      have t3:IntKind.u64.wrap (i:Int)=(i:Int):=by rw [wrap_u64]<;>omega
      have t4:=shl1_u64 i (by omega)
      obtain ⟨q1,q2⟩:=of_lo v i (by omega) hv
      have t5:IntKind.u64.wrap ((v%18446744073709551616:Nat)+(2^i:Nat):Int)=((v+2^i)%18446744073709551616:Nat):=by
       rw [q2];rw [wrap_u64]<;>omega
      rw [←e] at t5 q1
      obtain ⟨V,hV⟩: ∃V,V=val (l.take (i+1)):=⟨_,rfl⟩
      have fin: ∀(σ':St),Weak σ' ⟨[(0,bl l),(2,.ptr (.n 2) 0),(4,.ptr (.n 4) 0),(5,i6 (i+1:Nat))],[(.n 4,[u (V / 18446744073709551616),u (V%18446744073709551616)]),(.n 2,[u 0,u 0])],[]⟩→K σ':=
       fun σ' hσ=>hK (i+1) σ' ⟨by omega,hlt⟩ (by omega) (hV▸hσ)
      rw [←hV] at t5 q1
      rw [q1] at fin
      obtain ⟨A,hA⟩: ∃A,A=v / 18446744073709551616:=⟨_,rfl⟩
      obtain ⟨B,hB⟩: ∃B,B=v%18446744073709551616:=⟨_,rfl⟩
      obtain ⟨C,hC⟩: ∃C,C=V%18446744073709551616:=⟨_,rfl⟩
      obtain ⟨D,hD⟩: ∃D,D=2^i:=⟨_,rfl⟩
      rw [←hB,←hC,←hD] at t5
      rw [←hA,←hB]
      rw [←hA,←hC] at fin
      rw [←hD] at t4
      clear hA hB hC hD q1 q2 hV hv' e e' hK h2 hv hR hlt
      simp -implicitDefEqProofs [bl,g,hb,g3,g5]
      rw [Int.one_mul] at t4
      simp only [t3,Int.toNat_natCast]
      simp -implicitDefEqProofs
      rw [t4,t5]
      refine fin _ ?_
      apply weak_mk<;>simp [bl,t1]
  ·obtain rfl:i=l.length:=by omega
   rw [List.take_length] at h2 ⊢
   rw [if_pos h2] at hR
   subst hR
   simp -implicitDefEqProofs [bl,wide]
 ·simp [val]
 ·apply weak_mk<;>simp [bl,val]
open Go.Proofs
def qc (j:Nat) (B:List Bool):List AV:=(List.replicate j false++B).map AV.bool
open Go.Proofs

open Go.Proofs

section
variable {x:Nat} (hx:x<18446744073709551616)
include hx
set_option linter.unusedSectionVars false
end
end Go.Ai
set_option linter.unusedSectionVars false
namespace Go.Ai
open Go.Proofs
section
variable {Q:AE→St→Prop} {Y s y1 y0 un v v0:Nat}
end

end Go.Ai
