/- P9: a part of the proof: the rules, or what functions compute. Conditions: as each theorem says. -/
import Derived.Test.YthonkjadcpdphaaGreatDoorP8
import Derived.Test.YthonkjadcpdphaaGreatDoorP1
import Derived.Test.YthonkjadcpdphaaGreatDoorP2
import Derived.Test.YthonkjadcpdphaaGreatDoorP6
import Derived.Test.YthonkjadcpdphaaGreatDoorP7
set_option linter.unusedSimpArgs false
set_option linter.unusedVariables false
set_option maxRecDepth 20000
namespace Go.Ai
def startK (k:Nat):Nat:=aheadN (k / 12) (k%12+1)
def dimK (k:Nat):Nat:=dimN (k / 12) (k%12+1)
theorem dimN_ge (y m:Nat) (h1:1≤m) (h2:m≤12):28≤dimN y m∧dimN y m≤31:=by
 unfold dimN
 rw [if_neg (by omega)]
 split
 ·split<;>omega
 ·omega
theorem dim_dec (y:Nat):dimN y 12=31:=by simp [dimN]
theorem startK_next (k:Nat) (h:12≤k):startK (k+1)=startK k+dimK k:=by
 unfold startK dimK
 by_cases h1:k%12=11
 ·rw [show (k+1) / 12=k / 12+1 by omega,show (k+1)%12=0 by omega,h1]
  have:=ahead_dec (k / 12)
  rw [show (11:Nat)+1=12 from rfl,dim_dec]
  exact this
 ·rw [show (k+1) / 12=k / 12 by omega,show (k+1)%12=k%12+1 by omega]
  exact ahead_month _ _ (by omega) (by omega) (by omega)
theorem startK_le (k:Nat) (h:12≤k): ∀d,startK k+28*d≤startK (k+d)
 |0=>by simp
 |d+1=>by
  have i1:=startK_le k h d
  have i2:=startK_next (k+d) (by omega)
  have i3:=dimN_ge ((k+d) / 12) ((k+d)%12+1) (by omega) (by omega)
  have i4:dimK (k+d)=dimN ((k+d) / 12) ((k+d)%12+1):=rfl
  rw [show k+(d+1)=k+d+1 by omega]
  omega
theorem startK_uniq {j k n:Nat} (hj:12≤j) (hk:12≤k) (j1:startK j≤n) (j2:n<startK j+dimK j) (k1:startK k≤n) (k2:n<startK k+dimK k):j=k:=by
 rw [←startK_next j hj] at j2
 rw [←startK_next k hk] at k2
 rcases Nat.lt_trichotomy j k with h|h|h
 ·have:=startK_le (j+1) (by omega) (k - (j+1))
  rw [show j+1+(k - (j+1))=k by omega] at this
  omega
 ·exact h
 ·have:=startK_le (k+1) (by omega) (j - (k+1))
  rw [show k+1+(j - (k+1))=j by omega] at this
  omega
theorem startK_at {y m:Nat} (h1:1≤m) (h2:m≤12):startK (12*y+(m - 1))=aheadN y m∧dimK (12*y+(m - 1))=dimN y m:=by
 unfold startK dimK
 rw [show (12*y+(m - 1)) / 12=y by omega,show (12*y+(m - 1))%12+1=m by omega]
 exact ⟨rfl,rfl⟩
theorem month_uniq {y m y' m' n:Nat} (hy:1≤y) (h1:1≤m) (h2:m≤12) (hy':1≤y') (h1':1≤m') (h2':m'≤12)
  (a1:aheadN y m≤n) (a2:n<aheadN y m+dimN y m) (b1:aheadN y' m'≤n) (b2:n<aheadN y' m'+dimN y' m'):y=y'∧m=m':=by
 have e:=startK_at (y:=y) h1 h2
 have e':=startK_at (y:=y') h1' h2'
 have:=startK_uniq (j:=12*y+(m - 1)) (k:=12*y'+(m' - 1)) (n:=n) (by omega) (by omega) (by rw [e.1];exact a1) (by rw [e.1,e.2];exact a2) (by rw [e'.1];exact b1) (by rw [e'.1,e'.2];exact b2)
 constructor<;>omega
theorem ahead_le_year (y:Nat) (hy:1≤y) (m:Nat) (h1:1≤m) (h2:m≤12):aheadN y 1≤aheadN y m∧aheadN y m+28≤aheadN (y+1) 1:=by
 have e:=startK_at (y:=y) h1 h2
 have e1:=startK_at (y:=y) (m:=1) (by omega) (by omega)
 have e2:=startK_at (y:=y+1) (m:=1) (by omega) (by omega)
 have i1:=startK_le (12*y) (by omega) (m - 1)
 have i2:=startK_le (12*y+(m - 1)) (by omega) (12 - (m - 1))
 rw [show 12*y+(m - 1)+(12 - (m - 1))=12*(y+1)+(1 - 1) by omega] at i2
 simp only [Nat.sub_self,Nat.add_zero] at e1 e2 i2
 rw [e.1] at i1 i2
 rw [e1.1] at i1
 rw [e2.1] at i2
 omega
theorem ahead_years1 (y:Nat) (hy:1≤y):aheadN y 1+336≤aheadN (y+1) 1:=by
 have i3:=ahead_year y hy
 have i4:336≤diyN y:=by unfold diyN;split<;>omega
 rw [i3]
 exact Nat.add_le_add_left i4 _
theorem ahead_years (y:Nat) (hy:1≤y) (d:Nat):aheadN y 1+336*d≤aheadN (y+d) 1:=by
 induction d with
 |zero=>exact Nat.le_refl _
 |succ d ih=>
  have i3:=ahead_years1 (y+d) (Nat.le_trans hy (Nat.le_add_right _ _))
  have e:336*(d+1)=336*d+336:=Nat.mul_succ 336 d
  have e2:y+(d+1)=y+d+1:=(Nat.add_assoc y d 1).symm
  rw [e,e2,←Nat.add_assoc (aheadN y 1)]
  exact Nat.le_trans (Nat.add_le_add_right ih 336) i3
open Go.Proofs
theorem tdivL {x y:Int} {a b:Nat} (hx:x=a) (hy:y=b):x.tdiv y=((a / b:Nat):Int):=by subst hx hy;exact (Int.ofNat_tdiv a b).symm
theorem tmodL {x y:Int} {a b:Nat} (hx:x=a) (hy:y=b):x.tmod y=((a%b:Nat):Int):=by subst hx hy;exact (Int.ofNat_tmod a b).symm
theorem wr {x:Int} (h1: -4000000000000000000≤x) (h2:x≤4000000000000000000):IntKind.i64.wrap x=x:=by rw [wrap_i64]<;>omega
theorem ahead_lt {y m:Nat} (hy:y≤20000) (h1:1≤m) (h2:m≤12):aheadN y m≤10000000:=by
 unfold aheadN;split<;>omega
theorem cahead_spec (y m:Nat) (hy1:1≤y) (hy:y≤20000) (h1:1≤m) (h2:m≤12):Sp Tryz.prog gl 271 [.agg [i6 y,i6 m,i6 1]] (i6 (aheadN y m)):=by
 refine s271 rfl rfl ?_
 have run: ∀(Y p:Nat),Y≤20000→p≤20→
   IntKind.i64.wrap (IntKind.i64.wrap (IntKind.i64.wrap (IntKind.i64.wrap (IntKind.i64.wrap (IntKind.i64.wrap (IntKind.i64.wrap (365*(Y:Int))+IntKind.i64.wrap ((Y:Int).tdiv 4)) - IntKind.i64.wrap ((Y:Int).tdiv 100))+IntKind.i64.wrap ((Y:Int).tdiv 400))+
    IntKind.i64.wrap ((IntKind.i64.wrap (IntKind.i64.wrap (153*(p:Int))+2)).tdiv 5))+1) - 1)=((365*Y+Y / 4 - Y / 100+Y / 400+(153*p+2) / 5:Nat):Int):=by
  intro Y p hY hp
  rw [tdivL (x:=(Y:Int)) (y:=4) (a:=Y) (b:=4) rfl rfl,tdivL (x:=(Y:Int)) (y:=100) (a:=Y) (b:=100) rfl rfl,tdivL (x:=(Y:Int)) (y:=400) (a:=Y) (b:=400) rfl rfl]
  rw [wr (x:=153*(p:Int)) (by omega) (by omega),wr (x:=153*(p:Int)+2) (by omega) (by omega),tdivL (x:=153*(p:Int)+2) (y:=5) (a:=153*p+2) (b:=5) (by omega) rfl]
  have h4:Y / 100≤365*Y:=by omega
  generalize h5:Y / 4=Y4 at *
  generalize h6:Y / 100=Y1 at *
  generalize h7:Y / 400=Y0 at *
  generalize h8:(153*p+2) / 5=pp at *
  have l4:Y4≤20000:=by omega
  have l1:Y1≤20000:=by omega
  have l0:Y0≤20000:=by omega
  have lp:pp≤1000:=by omega
  rw [wr (x:=365*(Y:Int)) (by omega) (by omega),wr (x:=(Y4:Int)) (by omega) (by omega),wr (x:=(Y1:Int)) (by omega) (by omega),wr (x:=(Y0:Int)) (by omega) (by omega),wr (x:=(pp:Int)) (by omega) (by omega)]
  rw [wr (x:=365*(Y:Int)+Y4) (by omega) (by omega),wr (x:=365*(Y:Int)+Y4 - Y1) (by omega) (by omega),wr (x:=365*(Y:Int)+Y4 - Y1+Y0) (by omega) (by omega),wr (x:=365*(Y:Int)+Y4 - Y1+Y0+pp) (by omega) (by omega)]
  rw [wr (x:=365*(Y:Int)+Y4 - Y1+Y0+pp+1) (by omega) (by omega),wr (by omega) (by omega)]
  omega
 have t1:IntKind.i64.wrap ((m:Int) - 3)=(m:Int) - 3:=wr (by omega) (by omega)
 by_cases g:m<3
 ·have R:=run (y - 1) (m+9) (by omega) (by omega)
  have e:aheadN y m=365*(y - 1)+(y - 1) / 4 - (y - 1) / 100+(y - 1) / 400+(153*(m+9)+2) / 5:=by unfold aheadN;rw [if_pos g]
  rw [e,←R]
  have g':(m:Int) - 3<0:=by omega
  have t2:IntKind.i64.wrap ((y:Int) - 1)=(y - 1:Nat):=by rw [wr]<;>omega
  have t3:IntKind.i64.wrap ((m:Int) - 3+12)=(m+9:Nat):=by rw [wr]<;>omega
  clear R run e
  generalize ((y - 1:Nat):Int)=Y at *
  generalize ((m+9:Nat):Int)=p at *
  simp -implicitDefEqProofs [c271]
  simp only [t1]
  simp -implicitDefEqProofs [g']
  simp only [t1,t2,t3]
 ·have R:=run y (m - 3) (by omega) (by omega)
  have e:aheadN y m=365*y+y / 4 - y / 100+y / 400+(153*(m - 3)+2) / 5:=by unfold aheadN;rw [if_neg g]
  rw [e,←R]
  have g': ¬((m:Int) - 3<0):=by omega
  have t3:(m:Int) - 3=(m - 3:Nat):=by omega
  clear R run e
  rw [t3] at t1 g'
  simp -implicitDefEqProofs [c271]
  rw [t3]
  simp only [t1]
  simp -implicitDefEqProofs [g']
open Go.Proofs
theorem epoch_spec:Sp Tryz.prog gl 270 [] (i6 719468):=by
 refine s270 rfl rfl ?_
 have A:=cahead_spec 1970 1 (by omega) (by omega) (by omega) (by omega)
 rw [epochN] at A
 simp -implicitDefEqProofs [c270]
 refine onC_mk _ A ?_
 simp -implicitDefEqProofs
def stN (y m:Nat):Nat:=if 12<m then aheadN (y+1) (m - 12) else aheadN y m
theorem ahead_ge {y m:Nat} (hy:1970≤y) (h1:1≤m) (h2:m≤12):719468≤aheadN y m:=by
 have e1:=ahead_years 1970 (by omega) (y - 1970)
 rw [epochN,show 1970+(y - 1970)=y by omega] at e1
 have e2:=(ahead_le_year y (by omega) m h1 h2).1
 exact Nat.le_trans (Nat.le_trans (Nat.le_add_right _ _) e1) e2
theorem stN_ge {y m:Nat} (hy:1970≤y) (h1:1≤m) (h2:m≤15):719468≤stN y m:=by
 unfold stN
 split
 ·exact ahead_ge (by omega) (by omega) (by omega)
 ·exact ahead_ge hy h1 (by omega)
theorem stN_lt {y m:Nat} (hy:y≤19999) (h1:1≤m) (h2:m≤15):stN y m≤10000000:=by
 unfold stN
 split
 ·exact ahead_lt (by omega) (by omega) (by omega)
 ·exact ahead_lt (by omega) h1 (by omega)
theorem start_spec (y m:Nat) (hy1:1970≤y) (hy:y≤19999) (h1:1≤m) (h2:m≤15):Sp Tryz.prog gl 240 [i6 y,i6 m] (i6 (86400*(stN y m - 719468):Nat)):=by
 refine s240 rfl rfl ?_
 have E:=epoch_spec
 have ge:=stN_ge hy1 h1 h2
 have lt:=stN_lt hy h1 h2
 have w1:IntKind.i64.wrap ((stN y m:Int) - 719468)=(stN y m:Int) - 719468:=wr (by omega) (by omega)
 have w2:IntKind.i64.wrap (((stN y m:Int) - 719468)*86400)=(86400*(stN y m - 719468):Nat):=by rw [wr]<;>omega
 by_cases g:12<m
 ·have g':(12:Int)<m:=by omega
  have A:=cahead_spec (y+1) (m - 12) (by omega) (by omega) (by omega) (by omega)
  have e:stN y m=aheadN (y+1) (m - 12):=by unfold stN;rw [if_pos g]
  rw [←e] at A
  have t1:IntKind.i64.wrap ((y:Int)+1)=(y+1:Nat):=by rw [wr]<;>omega
  have t2:IntKind.i64.wrap ((m:Int) - 12)=(m - 12:Nat):=by rw [wr]<;>omega
  clear e
  generalize ((86400*(stN y m - 719468):Nat):Int)=V at *
  generalize ((stN y m:Nat):Int)=S at *
  generalize ((y+1:Nat):Int)=Y at *
  generalize ((m - 12:Nat):Int)=M at *
  simp -implicitDefEqProofs [c240,g,g']
  simp only [t1,t2]
  refine onC_mk _ A ?_
  simp -implicitDefEqProofs
  refine onC_mk _ E ?_
  simp -implicitDefEqProofs
  simp only [w1,w2]
 ·have g': ¬(12:Int)<m:=by omega
  have A:=cahead_spec y m (by omega) (by omega) h1 (by omega)
  have e:stN y m=aheadN y m:=by unfold stN;rw [if_neg g]
  rw [←e] at A
  clear e
  generalize ((86400*(stN y m - 719468):Nat):Int)=V at *
  generalize ((stN y m:Nat):Int)=S at *
  simp -implicitDefEqProofs [c240,g,g']
  refine onC_mk _ A ?_
  simp -implicitDefEqProofs
  refine onC_mk _ E ?_
  simp -implicitDefEqProofs
  simp only [w1,w2]
def dayN (n:Nat):Nat:=rest2N n+1 - (153*moN n+2) / 5
theorem cat_spec (t:Nat) (ht:t≤253402300799):Sp Tryz.prog gl 239 [i6 t] (.tup [.agg [i6 (yearN (t / 86400+719468)),i6 (monthN (t / 86400+719468)),i6 (dayN (t / 86400+719468))],i6 0]):=by
 refine s239 rfl rfl ?_
 obtain ⟨z,hz,E⟩ : ∃ z : Int,z=719468∧Sp Tryz.prog gl 270 [] (i6 z) := ⟨_,rfl,epoch_spec⟩
 have c1: ¬((253402300799:Int)<t):=by omega
 have c1': ¬(253402300799<t):=by omega
 have c0: ¬((t:Int)<0):=by omega
 have e1:=tdivL (x:=(t:Int)) (y:=86400) (a:=t) (b:=86400) rfl rfl
 have f1:(t:Int) / 86400=(t / 86400:Nat):=by omega
 have Tl:t / 86400≤2932896:=by omega
 generalize t / 86400=T at *
 have w1:IntKind.i64.wrap (T:Int)=T:=wr (by omega) (by omega)
 have w2:IntKind.i64.wrap ((T:Int)+z)=(T+719468:Nat):=by rw [wr]<;>omega
 generalize hn:T+719468=n at *
 have nl:n≤3652364:=by omega
 have hc:cenN n=(4*n+3) / 146097:=rfl
 have hr:restN n=n - 146097*cenN n / 4:=rfl
 have hy:yrN n=(4*restN n+3) / 1461:=rfl
 have hr2:rest2N n=restN n - 1461*yrN n / 4:=rfl
 have hm:moN n=(5*rest2N n+2) / 153:=rfl
 have hd:dayN n=rest2N n+1 - (153*moN n+2) / 5:=rfl
 have hY:yearN n=if 9<moN n then 100*cenN n+yrN n+1 else 100*cenN n+yrN n:=rfl
 have hM:monthN n=if 9<moN n then moN n - 9 else moN n+3:=rfl
 have r1:=rest_le n
 have r2:=yr_le n
 have r3:=mo_le n
 generalize cenN n=c at *
 generalize restN n=r at *
 generalize yrN n=y at *
 generalize rest2N n=q at *
 generalize moN n=m at *
 generalize dayN n=D at *
 generalize yearN n=Y at *
 generalize monthN n=M at *
 have cl:c≤100:=by omega
 have yl:y≤99:=by omega
 have k1:146097*c / 4≤n:=r1.1
 have k2:1461*y / 4≤r:=r2.2.1
 have k3:(153*m+2) / 5≤q:=by omega
 have w3:IntKind.i64.wrap (4*(n:Int))=4*(n:Int):=wr (by omega) (by omega)
 have w4:IntKind.i64.wrap (4*(n:Int)+3)=4*(n:Int)+3:=wr (by omega) (by omega)
 have e2:(4*(n:Int)+3).tdiv 146097=(c:Int):=(tdivL (x:=4*(n:Int)+3) (y:=146097) (a:=4*n+3) (b:=146097) (by omega) rfl).trans (by rw [←hc])
 have w5:IntKind.i64.wrap (c:Int)=c:=wr (by omega) (by omega)
 have w6:IntKind.i64.wrap (146097*(c:Int))=146097*(c:Int):=wr (by omega) (by omega)
 have e3:(146097*(c:Int)).tdiv 4=(146097*c / 4:Nat):=tdivL (x:=146097*(c:Int)) (y:=4) (a:=146097*c) (b:=4) (by omega) rfl
 have w7:IntKind.i64.wrap ((146097*c / 4:Nat):Int)=(146097*c / 4:Nat):=wr (by omega) (by omega)
 have w8:IntKind.i64.wrap ((n:Int) - (146097*c / 4:Nat))=(r:Int):=by rw [wr]<;>omega
 have w9:IntKind.i64.wrap (4*(r:Int))=4*(r:Int):=wr (by omega) (by omega)
 have w10:IntKind.i64.wrap (4*(r:Int)+3)=4*(r:Int)+3:=wr (by omega) (by omega)
 have e4:(4*(r:Int)+3).tdiv 1461=(y:Int):=(tdivL (x:=4*(r:Int)+3) (y:=1461) (a:=4*r+3) (b:=1461) (by omega) rfl).trans (by rw [←hy])
 have w11:IntKind.i64.wrap (y:Int)=y:=wr (by omega) (by omega)
 have w12:IntKind.i64.wrap (1461*(y:Int))=1461*(y:Int):=wr (by omega) (by omega)
 have e5:(1461*(y:Int)).tdiv 4=(1461*y / 4:Nat):=tdivL (x:=1461*(y:Int)) (y:=4) (a:=1461*y) (b:=4) (by omega) rfl
 have w13:IntKind.i64.wrap ((1461*y / 4:Nat):Int)=(1461*y / 4:Nat):=wr (by omega) (by omega)
 have w14:IntKind.i64.wrap ((r:Int) - (1461*y / 4:Nat))=(q:Int):=by rw [wr]<;>omega
 have w15:IntKind.i64.wrap (5*(q:Int))=5*(q:Int):=wr (by omega) (by omega)
 have w16:IntKind.i64.wrap (5*(q:Int)+2)=5*(q:Int)+2:=wr (by omega) (by omega)
 have e6:(5*(q:Int)+2).tdiv 153=(m:Int):=(tdivL (x:=5*(q:Int)+2) (y:=153) (a:=5*q+2) (b:=153) (by omega) rfl).trans (by rw [←hm])
 have w17:IntKind.i64.wrap (m:Int)=m:=wr (by omega) (by omega)
 have w18:IntKind.i64.wrap (100*(c:Int))=100*(c:Int):=wr (by omega) (by omega)
 have w19:IntKind.i64.wrap (100*(c:Int)+y)=100*(c:Int)+y:=wr (by omega) (by omega)
 have w20:IntKind.i64.wrap ((m:Int)+3)=(m:Int)+3:=wr (by omega) (by omega)
 have w21:IntKind.i64.wrap (153*(m:Int))=153*(m:Int):=wr (by omega) (by omega)
 have w22:IntKind.i64.wrap (153*(m:Int)+2)=153*(m:Int)+2:=wr (by omega) (by omega)
 have e7:(153*(m:Int)+2).tdiv 5=((153*m+2) / 5:Nat):=tdivL (x:=153*(m:Int)+2) (y:=5) (a:=153*m+2) (b:=5) (by omega) rfl
 have w23:IntKind.i64.wrap (((153*m+2) / 5:Nat):Int)=((153*m+2) / 5:Nat):=wr (by omega) (by omega)
 have w24:IntKind.i64.wrap ((q:Int) - ((153*m+2) / 5:Nat))=(q:Int) - ((153*m+2) / 5:Nat):=wr (by omega) (by omega)
 have w25:IntKind.i64.wrap ((q:Int) - ((153*m+2) / 5:Nat)+1)=(D:Int):=by rw [wr]<;>omega
 clear hc hr hy hr2 hm hd r1 r2 k1 k2 k3
 generalize ((146097*c / 4:Nat):Int)=x1 at *
 generalize ((1461*y / 4:Nat):Int)=x2 at *
 generalize (((153*m+2) / 5:Nat):Int)=x3 at *
 simp -implicitDefEqProofs [c239,c0,c1,c1']
 try simp only [e1,w1]
 try simp only [f1,w1]
 refine onC_mk _ E ?_
 simp -implicitDefEqProofs
 simp only [w2,w3,w4,e2,w5,w6,e3,w7,w8,w9,w10,e4,w11,w12,e5,w13,w14,w15,w16,e6,w17,w18,w19,w20,w21,w22,e7,w23,w24,w25]
 by_cases g:9<m
 ·have g':(12:Int)<(m:Int)+3:=by omega
  rw [if_pos g] at hY hM
  have w26:IntKind.i64.wrap (100*(c:Int)+y+1)=(Y:Int):=by rw [wr]<;>omega
  have w27:IntKind.i64.wrap ((m:Int)+3 - 12)=(M:Int):=by rw [wr]<;>omega
  clear hY hM
  generalize (m:Int)+3=m3 at *
  generalize 100*(c:Int)+(y:Int)=cy at *
  simp -implicitDefEqProofs [g']
  simp only [w26,w27]
  trivial
 ·have g': ¬(12:Int)<(m:Int)+3:=by omega
  rw [if_neg g] at hY hM
  have hY':100*(c:Int)+(y:Int)=(Y:Int):=by omega
  have hM':(m:Int)+3=(M:Int):=by omega
  clear hY hM
  generalize (m:Int)+3=m3 at *
  generalize 100*(c:Int)+(y:Int)=cy at *
  subst hY' hM'
  simp -implicitDefEqProofs [g']
open Go.Proofs
theorem at_ok (n:Nat) (h:719468≤n) (h2:n≤3652364):1970≤yearN n∧yearN n≤10100∧1≤monthN n∧monthN n≤12∧aheadN (yearN n) (monthN n)≤n∧n<aheadN (yearN n) (monthN n)+dimN (yearN n) (monthN n):=by
 have r1:=rest_le n
 have r2:=yr_le n
 have c1:cenN n≤100:=by unfold cenN;omega
 have h0:1≤100*cenN n+yrN n:=by unfold cenN at *;omega
 obtain ⟨m1,m2,m3,m4⟩:=ahead_in n h0
 have yl:yearN n≤10100:=by unfold yearN;split<;>omega
 refine ⟨?_,yl,m1,m2,m3,m4⟩
 rcases Nat.lt_or_ge (yearN n) 1970 with hy|hy
 ·exfalso
  have y1:1≤yearN n:=by unfold yearN;split<;>omega
  obtain ⟨s1,s2⟩:=startK_at (y:=yearN n) m1 m2
  have nx:=startK_next (12*yearN n+(monthN n - 1)) (by omega)
  have le:=startK_le (12*yearN n+(monthN n - 1)+1) (by omega) (23640 - (12*yearN n+(monthN n - 1)+1))
  have e:12*yearN n+(monthN n - 1)+1+(23640 - (12*yearN n+(monthN n - 1)+1))=23640:=by omega
  rw [e] at le
  have e2:startK 23640=719468:=by decide
  omega
 ·exact hy
theorem stN_next {y m:Nat} (hy:1≤y) (h1:1≤m) (h2:m≤12):stN y (m+1)=stN y m+dimN y m:=by
 unfold stN
 rw [if_neg (show ¬12<m by omega)]
 by_cases h:m=12
 ·subst h
  rw [if_pos (by omega),dim_dec]
  exact ahead_dec y
 ·rw [if_neg (by omega)]
  exact ahead_month y m hy h1 (by omega)
def dayOf (t:Nat):Nat:=t / 86400+719468
def fstM (s n:Nat):Nat:=monthN n - (monthN n - 1)%s
def perF (s t:Nat):Nat:=86400*(stN (yearN (dayOf t)) (fstM s (dayOf t)) - 719468)
def perT (s t:Nat):Nat:=86400*(stN (yearN (dayOf t)) (fstM s (dayOf t)+s) - 719468)
theorem fstM_ok {s n:Nat} (hs:s=1∨s=3) (h1:1≤monthN n) (h2:monthN n≤12):1≤fstM s n∧fstM s n≤monthN n∧monthN n<fstM s n+s∧fstM s n+s≤13:=by
 unfold fstM
 rcases hs with rfl|rfl<;>omega
theorem cperiod_spec (s t:Nat) (hs:s=1∨s=3) (ht:t≤253402300799):Sp Tryz.prog gl 201 [i6 t,i6 s] (.tup [i6 (perF s t),i6 (perT s t),i6 0]):=by
 refine s201 rfl rfl ?_
 have A:=cat_spec t ht
 have hn:=at_ok (dayOf t) (by unfold dayOf;omega) (by unfold dayOf;omega)
 unfold perF perT
 have e0:t / 86400+719468=dayOf t:=rfl
 rw [e0] at A
 obtain ⟨y1,y2,m1,m2,-,-⟩:=hn
 have f:=fstM_ok (n:=dayOf t) hs m1 m2
 have S1:=start_spec (yearN (dayOf t)) (fstM s (dayOf t)) (by omega) (by omega) (by omega) (by omega)
 have S2:=start_spec (yearN (dayOf t)) (fstM s (dayOf t)+s) (by omega) (by omega) (by omega) (by omega)
 have ef:(((monthN (dayOf t):Nat):Int) - (((monthN (dayOf t):Nat):Int) - 1).tmod s)=(fstM s (dayOf t):Nat):=by
  rw [tmodL (x:=((monthN (dayOf t):Nat):Int) - 1) (y:=(s:Int)) (a:=monthN (dayOf t) - 1) (b:=s) (by omega) rfl]
  have:(monthN (dayOf t) - 1)%s≤monthN (dayOf t) - 1:=Nat.mod_le _ _
  unfold fstM
  omega
 have mb:((((monthN (dayOf t):Nat):Int) - 1).tmod s)≤12∧0≤((((monthN (dayOf t):Nat):Int) - 1).tmod s):=by
  rw [tmodL (x:=((monthN (dayOf t):Nat):Int) - 1) (y:=(s:Int)) (a:=monthN (dayOf t) - 1) (b:=s) (by omega) rfl]
  have:(monthN (dayOf t) - 1)%s≤monthN (dayOf t) - 1:=Nat.mod_le _ _
  omega
 have s0: ¬((s:Int)=0):=by omega
 have s0': ¬(s=0):=by omega
 generalize fstM s (dayOf t)=F at *
 clear e0
 generalize yearN (dayOf t)=Y at *
 generalize monthN (dayOf t)=M at *
 generalize dayN (dayOf t)=D at *
 obtain ⟨V1,hV1⟩: ∃V,V=86400*(stN Y F - 719468):=⟨_,rfl⟩
 obtain ⟨V2,hV2⟩: ∃V,V=86400*(stN Y (F+s) - 719468):=⟨_,rfl⟩
 rw [←hV1] at S1 ⊢
 rw [←hV2] at S2 ⊢
 clear hV1 hV2
 have w1:IntKind.i64.wrap ((M:Int) - 1)=(M:Int) - 1:=wr (by omega) (by omega)
 have w3:IntKind.i64.wrap ((M:Int) - ((M:Int) - 1).tmod s)=(F:Int):=by rw [ef];exact wr (by omega) (by omega)
 have w4:IntKind.i64.wrap ((F:Int)+s)=(F+s:Nat):=by rw [wr]<;>omega
 generalize ((F+s:Nat):Int)=F2 at *
 clear ef mb
 generalize hq:((M:Int) - 1).tmod s=q at *
 simp -implicitDefEqProofs [c201]
 refine onC_mk _ A ?_
 simp -implicitDefEqProofs [s0,s0']
 simp only [w1,hq,w3,w4]
 refine onC_mk _ S1 ?_
 simp -implicitDefEqProofs [s0,s0']
 try simp only [w1,hq,w3,w4]
 refine onC_mk _ S2 ?_
 simp -implicitDefEqProofs
theorem cmonth_spec (t:Nat) (ht:t≤253402300799):Sp Tryz.prog gl 146 [i6 t] (.tup [i6 (perF 1 t),i6 (perT 1 t),i6 0]):=by
 refine s146 rfl rfl ?_
 have A:=cperiod_spec 1 t (.inl rfl) ht
 simp -implicitDefEqProofs [c146]
 refine onC_mk _ A ?_
 simp -implicitDefEqProofs
theorem cquarter_spec (t:Nat) (ht:t≤253402300799):Sp Tryz.prog gl 147 [i6 t] (.tup [i6 (perF 3 t),i6 (perT 3 t),i6 0]):=by
 refine s147 rfl rfl ?_
 have A:=cperiod_spec 3 t (.inr rfl) ht
 simp -implicitDefEqProofs [c147]
 refine onC_mk _ A ?_
 simp -implicitDefEqProofs
open Go.Proofs
def tkB (n:Int):Bool:=decide (0≤n)&&decide (n≤253402300799)
def epB (e:Nat):Bool:=decide (1≤e)&&decide (e≤4611686018427387904)
def alRight (a:Al):Bool:=
 if a.ph=0 then decide (a.si=0)&&(decide (a.cl=0)&&decide (a.e=0))
 else if a.ph=1 then decide (a.e=0)&&(decide (a.cl=0)&&tkB a.si)
 else if a.ph=2 then epB a.e&&(decide (a.cl=0)&&tkB a.si)
 else if a.ph=3 then epB a.e&&(tkB a.si&&(tkB a.cl&&decide (a.si≤a.cl)))
 else false
def alFires (a:Al):Bool:=alRight a&&decide (2≤a.ph)
def ctB (g t:Nat):Bool:=decide (g≤t)&&decide (t≤9223372036854775807)
def windowsF (g:GV):Bool:=g.ws.all (fun w=>ctB w.g w.n)&&decide (g.ws.map WV.w=winP g.g)
def perFT (c now:Int):Int×Int:=if tkB now=true then (if c=1 then ((perF 1 now.toNat:Nat),(perT 1 now.toNat:Nat)) else if c=2 then ((perF 3 now.toNat:Nat),(perT 3 now.toNat:Nat)) else (0,0)) else (0,0)
def periodF (now:Int) (g:GV):Bool:=
 decide (g.fr=(perFT g.g.c now).1)&&(decide (g.tl=(perFT g.g.c now).2)&&(if g.g.c=0 then decide (g.cg=0)&&decide (g.cn=0) else ctB g.cg g.cn))
def alOk (now:Int) (ep:Nat) (a:Al):Bool:=alRight a&&(decide (a.si≤now)&&(decide (a.cl≤now)&&decide (a.e≤ep)))
def alertsF (now:Int) (ep:Nat) (g:GV):Bool:=decide (g.al.length=g.g.ru.length)&&g.al.all (alOk now ep)
def epsF (l:List Al):List Nat:=(l.filter alFires).map Al.e
def freshF:List Nat→List Nat→Bool
 |_,[]=>true
 |s,e::r=>decide (e∉s)&&freshF (s++[e]) r
def goalF (now:Int) (ep:Nat) (nm:List (List UInt8)) (nb:List Nat) (g:GV) (fs:List Fd):List Fd:=
 fadd (fadd (fadd (fadd (fadd fs (goalP g.g&&decide (g.g.n∉nm)) 3 g.g.n) (windowsF g) 4 g.g.n) (periodF now g) 5 g.g.n) (alertsF now ep g) 6 g.g.n) (freshF nb (epsF g.al)) 7 g.g.n
def goalsF (now:Int) (ep:Nat):List (List UInt8)→List Nat→List GV→List Fd→List Fd
 |_,_,[],fs=>fs
 |nm,nb,g::r,fs=>goalsF now ep (nm++[g.g.n]) (nb++epsF g.al) r (goalF now ep nm nb g fs)
def firesP (g:GV) (k:Ky):Bool:=(g.al.zip g.g.ru).any fun p=>alFires p.1&&(decide (k.f=false)&&(decide (k.g=g.g.n)&&(decide (k.r=p.2.n)&&(decide (k.p=p.2.p)&&decide (k.e=p.1.e)))))
def firesF (gs:List GV) (k:Ky):Bool:=gs.any (firesP · k)
theorem fadd_len (fs:List Fd) (ok:Bool) (k:Int) (n:List UInt8):(fadd fs ok k n).length≤fs.length+1:=by
 unfold fadd;split<;>simp
theorem goalF_len (now:Int) (ep:Nat) (nm:List (List UInt8)) (nb:List Nat) (g:GV) (fs:List Fd):(goalF now ep nm nb g fs).length≤fs.length+5:=by
 unfold goalF
 refine Nat.le_trans (fadd_len _ _ _ _) ?_
 refine Nat.le_trans (Nat.succ_le_succ (fadd_len _ _ _ _)) ?_
 refine Nat.le_trans (Nat.succ_le_succ (Nat.succ_le_succ (fadd_len _ _ _ _))) ?_
 refine Nat.le_trans (Nat.succ_le_succ (Nat.succ_le_succ (Nat.succ_le_succ (fadd_len _ _ _ _)))) ?_
 exact Nat.succ_le_succ (Nat.succ_le_succ (Nat.succ_le_succ (Nat.succ_le_succ (fadd_len _ _ _ _))))
theorem freshF_iff: ∀(l:List Al) (s:List Nat),freshF s (epsF l)=true↔ ∀k (h:k<l.length),alFires l[k]=true→l[k].e∉s++epsF (l.take k)
 |[],s=>by simp [epsF,freshF]
 |a::l,s=>by
  cases ha:alFires a with
  |false=>
   have e1:epsF (a::l)=epsF l:=by simp [epsF,ha]
   rw [e1,freshF_iff l s]
   constructor
   ·intro h k hk hf
    cases k with
    |zero=>simp only [List.getElem_cons_zero] at hf;rw [ha] at hf;exact absurd hf (by decide)
    |succ k=>
     have:=h k (by simpa using hk) (by simpa using hf)
     simpa [epsF,ha] using this
   ·intro h k hk hf
    have:=h (k+1) (by simpa using hk) (by simpa using hf)
    simpa [epsF,ha] using this
  |true=>
   have e1:epsF (a::l)=a.e::epsF l:=by simp [epsF,ha]
   rw [e1,freshF,Bool.and_eq_true,decide_eq_true_iff,freshF_iff l (s++[a.e])]
   constructor
   ·rintro ⟨h0,h⟩ k hk hf
    cases k with
    |zero=>simpa [epsF] using h0
    |succ k=>
     have:=h k (by simpa using hk) (by simpa using hf)
     simpa [epsF,ha] using this
   ·intro h
    refine ⟨by have:=h 0 (by simp) (by simpa using ha);rw [List.getElem_cons_zero] at this;simpa [epsF] using this,?_⟩
    intro k hk hf
    have:=h (k+1) (by simpa using hk) (by simpa using hf)
    simpa [epsF,ha] using this
open Go.Proofs
theorem idsL_appW (a b:List AV):idsL (a++b)=idsL a++idsL b:=by
 induction a with
 |nil=>rfl
 |cons x r ih=>simp only [List.cons_append,idsL,ih,List.append_assoc]
theorem win_nil (e:List (Nat×AV)) (row:List AV) (pm:List (Pl×Nat)) (l3:lk e 3= .nils):
  wpA (SpH Tryz.prog gl) (AC.tl 4 c145) (postF [.t 2] (.sl [])) ⟨e,[(.n 1,row)],pm⟩:=by
 have S:=Sp.h (d:=30) sortNil_spec
 have C:=compactNil_spec 32
 simp only [c145,AC.tl]
 simp -implicitDefEqProofs [l3]
 refine onH_mk _ _ S ⟨?_,?_,?_,?_,?_,?_,?_⟩ ?_
 iterate 7 (· simp [l3])
 simp -implicitDefEqProofs [l3]
 refine onH_mk _ _ C ⟨?_,?_,?_,?_,?_,?_,?_⟩ ?_
 iterate 7 (· simp [l3])
 simp -implicitDefEqProofs [l3,postF]
theorem win_all (x:Gl) (hl:x.ru.length≤10) (b:Id) (hb:b= .n 19∨b= .n 28) (e:List (Nat×AV)) (bx:List (Id×List AV)) (pm:List (Pl×Nat)) (l3:lk e 3= .ms b 0 (allW x).length 1) (hbx:bx=[(.n 1,x.row),(b,intCells .i64 (allW x))]∨bx=[(b,intCells .i64 (allW x)),(.n 1,x.row)]):
  wpA (SpH Tryz.prog gl) (AC.tl 4 c145) (postF [.t 2] (.sl (intRows (winP x)))) ⟨e,bx,pm⟩:=
 win_tail (allW x) (by have:=allW_len x;omega) b hb e x.row rfl l3 bx pm hbx
theorem win_roll (x:Gl) (hl:x.ru.length≤10) (e:List (Nat×AV)) (l1:lk e 1= .ptr (.n 1) 0)
  (h:(ruW x.ru=[]∧lk e 3= .nils)∨(ruW x.ru≠[]∧lk e 3= .ms (.n 19) 0 (ruW x.ru).length 1)):
  wpA (SpH Tryz.prog gl) (AC.tl 3 c145) (postF [.t 2] (.sl (intRows (winP x)))) ⟨e,if ruW x.ru=[] then [(.n 1,x.row)] else [(.n 1,x.row),(.n 19,intCells .i64 (ruW x.ru))],[]⟩:=by
 have ec:AC.tl 3 c145=AC.cutAt 1 (AC.tl 4 c145) (AC.tl 3 c145):=rfl
 rw [ec]
 have TA:=win_all x hl
 have TN:=fun e pm=>win_nil e x.row pm
 have hx:x.row=[.str x.n,.int .u32 x.t,i6 x.g,i6 x.a,i6 x.o,i6 x.c,.sl (x.lb.map Lb.row),.sl (x.ru.map Ru.row)]:=rfl
 have hlim:lim=140737488355328:=rfl
 have hrow:idsL x.row=[]:=rfl
 have hw:allW x=ruW x.ru++(if x.o=0 then [] else [x.o]):=rfl
 have hwn:x.o=0→ruW x.ru=[]→winP x=[]:=fun h1 h2=>by
  unfold winP allW
  rw [h2,if_pos h1]
  simp [sortI,compactI,Lib.compact,Lib.compactUpTo]
 have hlen:=ruW_len x.ru
 generalize AC.tl 4 c145=T at *
 simp only [c145,AC.tl,AC.cutAt]
 rw [hx] at TA TN hrow ⊢
 generalize winP x=W at *
 generalize x.lb.map Lb.row=LB at *
 generalize x.ru.map Ru.row=RU at *
 generalize ruW x.ru=L at *
 generalize allW x=AL at *
 rcases h with ⟨h1,h3⟩|⟨h1,h3⟩
 ·subst h1
  simp only [if_true]
  by_cases h0:x.o=0
  ·have hW:=hwn h0 rfl
   subst hW
   rw [h0] at TN ⊢
   simp -implicitDefEqProofs [l1,h3]
   refine TN _ _ ?_
   simp -implicitDefEqProofs [h3]
  ·rw [if_neg h0,List.nil_append] at hw
   subst hw
   have TA:=TA (.n 28) (.inr rfl)
   have hne:(x.o !=0)=true:=by simpa using h0
   have ei:intCells .i64 [x.o]=[i6 x.o]:=rfl
   rw [ei] at TA
   simp -implicitDefEqProofs [l1,h0,h3,hlim,hne]
   refine TA _ _ _ ?_ (.inr rfl)
   simp -implicitDefEqProofs
 ·rw [if_neg h1]
  by_cases h0:x.o=0
  ·rw [if_pos h0,List.append_nil] at hw
   subst hw
   have TA:=TA (.n 19) (.inl rfl)
   rw [h0] at TA ⊢
   simp -implicitDefEqProofs [l1,h3]
   refine TA _ _ _ ?_ (.inl rfl)
   simp -implicitDefEqProofs [h3]
  ·rw [if_neg h0] at hw
   subst hw
   have TA:=TA (.n 28) (.inr rfl)
   rw [intCells_app,List.length_append] at TA
   have ei:intCells .i64 [x.o]=[i6 x.o]:=rfl
   rw [ei] at TA
   have hcl:=intCells_len .i64 L
   have hci:=intCells_ids .i64 L
   have hne:(x.o !=0)=true:=by simpa using h0
   have hll:(L.length+1)*8≤140737488355328:=by omega
   generalize intCells .i64 L=CL at *
   simp -implicitDefEqProofs [l1,h0,h3,hlim,hcl,hci,hne,hll]
   refine TA _ _ _ ?_ (.inr rfl)
   simp -implicitDefEqProofs
theorem win_spec (x:Gl) (hl:x.ru.length≤10):Sp Tryz.prog gl 145 [.agg x.row] (.sl (intRows (winP x))):=by
 refine s145 rfl rfl ?_
 have ec:c145=AC.cutAt 3 (AC.tl 3 c145) c145:=rfl
 rw [ec]
 have T:=win_roll x hl
 generalize AC.tl 3 c145=TT at T ⊢
 have hx:x.row=[.str x.n,.int .u32 x.t,i6 x.g,i6 x.a,i6 x.o,i6 x.c,.sl (x.lb.map Lb.row),.sl (x.ru.map Ru.row)]:=rfl
 have hlim:lim=140737488355328:=rfl
 have rat: ∀i (h:i<x.ru.length),∀h2,(x.ru.map Ru.row)[i]'h2=[.str x.ru[i].n,.bool x.ru[i].p,i6 x.ru[i].l,i6 x.ru[i].s,u x.ru[i].f,i6 x.ru[i].w,i6 x.ru[i].k]:=fun i h h2=>by simp [Ru.row]
 have rl:(x.ru.map Ru.row).length=x.ru.length:=by simp
 generalize winP x=W at *
 rw [hx] at T ⊢
 generalize x.lb.map Lb.row=LB at *
 generalize x.ru.map Ru.row=RU at *
 generalize x.ru=ru at *
 simp only [c145,AC.cutAt]
 simp -implicitDefEqProofs [rl]
 refine wp_lpk (α:=Nat×List Int) (fun z=>stW [.str x.n,.int .u32 x.t,i6 x.g,i6 x.a,i6 x.o,i6 x.c,.sl LB,.sl RU] RU ru.length z.1 z.2) (fun z=>z.1≤ru.length∧z.2=ruW (ru.take z.1)) (fun z=>ru.length - z.1) ?_ (0,[]) ?_ ?_
 ·rintro K ⟨i,acc⟩ hK ⟨h1,h2⟩
  simp only at h1 h2
  by_cases g:i<ru.length
  ·have t1:IntKind.i64.wrap ((i:Int)+1)=(i+1:Nat):=by rw [wrap_i64]<;>omega
   have ra:=rat i g
   have gR:i<RU.length:=by omega
   have es:ruW (ru.take (i+1))=acc++[ru[i].l,ru[i].s]:=by
    rw [List.take_succ_eq_append_getElem g,h2]
    simp only [ruW,List.flatMap_append,List.flatMap_cons,List.flatMap_nil,List.append_nil]
   have fin: ∀σ',Weak σ' (stW [.str x.n,.int .u32 x.t,i6 x.g,i6 x.a,i6 x.o,i6 x.c,.sl LB,.sl RU] RU ru.length (i+1) (acc++[ru[i].l,ru[i].s]))→K σ':=
    fun σ' hσ=>hK (i+1,acc++[ru[i].l,ru[i].s]) σ' ⟨by simp only;omega,es.symm⟩ (by simp only;omega) hσ
   have al:acc.length≤2*i:=by
    rw [h2,ruW_len,List.length_take];omega
   rw [stW_ne (by simp)] at fin
   rw [intCells_app,List.length_append] at fin
   have ei:intCells .i64 [ru[i].l,ru[i].s]=[i6 ru[i].l,i6 ru[i].s]:=rfl
   rw [ei] at fin
   clear hK T rat h2 es
   by_cases ha:acc=[]
   ·subst ha
    simp only [stW]
    have e0:intCells .i64 []=[]:=rfl
    rw [e0] at fin
    simp -implicitDefEqProofs [g,gR,ra,hlim]
    refine fin _ ?_
    refine weak_mk ?_ ?_ ?_ ?_ ?_ ?_<;>simp -implicitDefEqProofs [t1]
   ·rw [stW_ne ha]
    have hcl:=intCells_len .i64 acc
    have hci:=intCells_ids .i64 acc
    have hll:(acc.length+2)*8≤140737488355328:=by omega
    generalize intCells .i64 acc=CL at *
    have hci2:idsL (CL++[i6 ru[i].l,i6 ru[i].s])=[]:=by rw [idsL_appW,hci];rfl
    simp -implicitDefEqProofs [g,gR,ra,hlim,hcl,hci,hll]
    refine fin _ ?_
    refine weak_mk ?_ ?_ ?_ ?_ ?_ ?_<;>simp -implicitDefEqProofs [t1,hci2]
  ·obtain rfl:i=ru.length:=by omega
   rw [List.take_length] at h2
   clear hK rat
   subst h2
   by_cases ha:ruW ru=[]
   ·have T:=fun e l1 l3=>T e l1 (.inl ⟨ha,l3⟩)
    simp only [ha,if_true] at T
    rw [ha]
    simp only [stW]
    simp -implicitDefEqProofs
    refine T _ ?_ ?_<;>simp -implicitDefEqProofs
   ·have T:=fun e l1 l3=>T e l1 (.inr ⟨ha,l3⟩)
    simp only [ha,if_false] at T
    rw [stW_ne ha]
    simp -implicitDefEqProofs
    refine T _ ?_ ?_<;>simp -implicitDefEqProofs
 ·exact ⟨Nat.zero_le _,by simp [ruW]⟩
 ·simp only [stW]
  refine weak_mk ?_ ?_ ?_ ?_ ?_ ?_<;>simp -implicitDefEqProofs
end Go.Ai
