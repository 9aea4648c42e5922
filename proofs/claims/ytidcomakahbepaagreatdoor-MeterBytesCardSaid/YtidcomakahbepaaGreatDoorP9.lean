/- P9: a part of the proof: the rules, or what functions compute. Conditions: as each theorem says. -/
import Derived.Test.YtidcomakahbepaaGreatDoorP8
set_option linter.unusedSimpArgs false
set_option linter.unusedVariables false
set_option maxRecDepth 20000
namespace Go.Ai
open Go.Proofs
theorem epoch_spec:Sp Tryz.prog gl 219 [] (i6 719468):=by
 refine s219 rfl rfl ?_
 have A:=cahead_spec 1970 1 (by omega) (by omega) (by omega) (by omega)
 rw [epochN] at A
 simp -implicitDefEqProofs [c219]
 refine onC_mk _ A ?_
 simp -implicitDefEqProofs
def stN (y m:Nat):Nat:=if 12<m then aheadN (y+1) (m - 12) else aheadN y m
theorem ahead_ge {y m:Nat} (hy:1970≤y) (h1:1≤m) (h2:m≤12):719468≤aheadN y m:=by
 have e1:=ahead_years 1970 (by omega) (y - 1970)
 rw [epochN,show 1970+(y - 1970)=y by omega] at e1
 have e2:=(ahead_le_year y (by omega) m h1 h2).1
 exact Nat.le_trans (Nat.le_trans (Nat.le_add_right _ _) e1) e2
theorem stN_ge {y m:Nat} (hy:1970≤y) (h1:1≤m) (h2:m≤15):719468≤stN y m:=by
 unfold stN
 split
 ·exact ahead_ge (by omega) (by omega) (by omega)
 ·exact ahead_ge hy h1 (by omega)
theorem stN_lt {y m:Nat} (hy:y≤19999) (h1:1≤m) (h2:m≤15):stN y m≤10000000:=by
 unfold stN
 split
 ·exact ahead_lt (by omega) (by omega) (by omega)
 ·exact ahead_lt (by omega) h1 (by omega)
theorem start_spec (y m:Nat) (hy1:1970≤y) (hy:y≤19999) (h1:1≤m) (h2:m≤15):Sp Tryz.prog gl 209 [i6 y,i6 m] (i6 (86400*(stN y m - 719468):Nat)):=by
 refine s209 rfl rfl ?_
 have E:=epoch_spec
 have ge:=stN_ge hy1 h1 h2
 have lt:=stN_lt hy h1 h2
 have w1:IntKind.i64.wrap ((stN y m:Int) - 719468)=(stN y m:Int) - 719468:=wr (by omega) (by omega)
 have w2:IntKind.i64.wrap (((stN y m:Int) - 719468)*86400)=(86400*(stN y m - 719468):Nat):=by rw [wr]<;>omega
 by_cases g:12<m
 ·have g':(12:Int)<m:=by omega
  have A:=cahead_spec (y+1) (m - 12) (by omega) (by omega) (by omega) (by omega)
  have e:stN y m=aheadN (y+1) (m - 12):=by unfold stN;rw [if_pos g]
  rw [←e] at A
  have t1:IntKind.i64.wrap ((y:Int)+1)=(y+1:Nat):=by rw [wr]<;>omega
  have t2:IntKind.i64.wrap ((m:Int) - 12)=(m - 12:Nat):=by rw [wr]<;>omega
  clear e
  generalize ((86400*(stN y m - 719468):Nat):Int)=V at *
  generalize ((stN y m:Nat):Int)=S at *
  generalize ((y+1:Nat):Int)=Y at *
  generalize ((m - 12:Nat):Int)=M at *
  simp -implicitDefEqProofs [c209,g,g']
  simp only [t1,t2]
  refine onC_mk _ A ?_
  simp -implicitDefEqProofs
  refine onC_mk _ E ?_
  simp -implicitDefEqProofs
  simp only [w1,w2]
 ·have g': ¬(12:Int)<m:=by omega
  have A:=cahead_spec y m (by omega) (by omega) h1 (by omega)
  have e:stN y m=aheadN y m:=by unfold stN;rw [if_neg g]
  rw [←e] at A
  clear e
  generalize ((86400*(stN y m - 719468):Nat):Int)=V at *
  generalize ((stN y m:Nat):Int)=S at *
  simp -implicitDefEqProofs [c209,g,g']
  refine onC_mk _ A ?_
  simp -implicitDefEqProofs
  refine onC_mk _ E ?_
  simp -implicitDefEqProofs
  simp only [w1,w2]
def dayN (n:Nat):Nat:=rest2N n+1 - (153*moN n+2) / 5
theorem cat_spec (t:Nat) (ht:t≤253402300799):Sp Tryz.prog gl 208 [i6 t] (.tup [.agg [i6 (yearN (t / 86400+719468)),i6 (monthN (t / 86400+719468)),i6 (dayN (t / 86400+719468))],i6 0]):=by
 refine s208 rfl rfl ?_
 have E:=epoch_spec
 have c1: ¬((253402300799:Int)<t):=by omega
 have c1': ¬(253402300799<t):=by omega
 have c0: ¬((t:Int)<0):=by omega
 have e1:=tdivL (x:=(t:Int)) (y:=86400) (a:=t) (b:=86400) rfl rfl
 have f1:(t:Int) / 86400=(t / 86400:Nat):=by omega
 have Tl:t / 86400≤2932896:=by omega
 generalize t / 86400=T at *
 have w1:IntKind.i64.wrap (T:Int)=T:=wr (by omega) (by omega)
 have w2:IntKind.i64.wrap ((T:Int)+719468)=(T+719468:Nat):=by rw [wr]<;>omega
 generalize hn:T+719468=n at *
 have nl:n≤3652364:=by omega
 have hc:cenN n=(4*n+3) / 146097:=rfl
 have hr:restN n=n - 146097*cenN n / 4:=rfl
 have hy:yrN n=(4*restN n+3) / 1461:=rfl
 have hr2:rest2N n=restN n - 1461*yrN n / 4:=rfl
 have hm:moN n=(5*rest2N n+2) / 153:=rfl
 have hd:dayN n=rest2N n+1 - (153*moN n+2) / 5:=rfl
 have hY:yearN n=if 9<moN n then 100*cenN n+yrN n+1 else 100*cenN n+yrN n:=rfl
 have hM:monthN n=if 9<moN n then moN n - 9 else moN n+3:=rfl
 have r1:=rest_le n
 have r2:=yr_le n
 have r3:=mo_le n
 generalize cenN n=c at *
 generalize restN n=r at *
 generalize yrN n=y at *
 generalize rest2N n=q at *
 generalize moN n=m at *
 generalize dayN n=D at *
 generalize yearN n=Y at *
 generalize monthN n=M at *
 have cl:c≤100:=by omega
 have yl:y≤99:=by omega
 have k1:146097*c / 4≤n:=r1.1
 have k2:1461*y / 4≤r:=r2.2.1
 have k3:(153*m+2) / 5≤q:=by omega
 have w3:IntKind.i64.wrap (4*(n:Int))=4*(n:Int):=wr (by omega) (by omega)
 have w4:IntKind.i64.wrap (4*(n:Int)+3)=4*(n:Int)+3:=wr (by omega) (by omega)
 have e2:(4*(n:Int)+3).tdiv 146097=(c:Int):=(tdivL (x:=4*(n:Int)+3) (y:=146097) (a:=4*n+3) (b:=146097) (by omega) rfl).trans (by rw [←hc])
 have w5:IntKind.i64.wrap (c:Int)=c:=wr (by omega) (by omega)
 have w6:IntKind.i64.wrap (146097*(c:Int))=146097*(c:Int):=wr (by omega) (by omega)
 have e3:(146097*(c:Int)).tdiv 4=(146097*c / 4:Nat):=tdivL (x:=146097*(c:Int)) (y:=4) (a:=146097*c) (b:=4) (by omega) rfl
 have w7:IntKind.i64.wrap ((146097*c / 4:Nat):Int)=(146097*c / 4:Nat):=wr (by omega) (by omega)
 have w8:IntKind.i64.wrap ((n:Int) - (146097*c / 4:Nat))=(r:Int):=by rw [wr]<;>omega
 have w9:IntKind.i64.wrap (4*(r:Int))=4*(r:Int):=wr (by omega) (by omega)
 have w10:IntKind.i64.wrap (4*(r:Int)+3)=4*(r:Int)+3:=wr (by omega) (by omega)
 have e4:(4*(r:Int)+3).tdiv 1461=(y:Int):=(tdivL (x:=4*(r:Int)+3) (y:=1461) (a:=4*r+3) (b:=1461) (by omega) rfl).trans (by rw [←hy])
 have w11:IntKind.i64.wrap (y:Int)=y:=wr (by omega) (by omega)
 have w12:IntKind.i64.wrap (1461*(y:Int))=1461*(y:Int):=wr (by omega) (by omega)
 have e5:(1461*(y:Int)).tdiv 4=(1461*y / 4:Nat):=tdivL (x:=1461*(y:Int)) (y:=4) (a:=1461*y) (b:=4) (by omega) rfl
 have w13:IntKind.i64.wrap ((1461*y / 4:Nat):Int)=(1461*y / 4:Nat):=wr (by omega) (by omega)
 have w14:IntKind.i64.wrap ((r:Int) - (1461*y / 4:Nat))=(q:Int):=by rw [wr]<;>omega
 have w15:IntKind.i64.wrap (5*(q:Int))=5*(q:Int):=wr (by omega) (by omega)
 have w16:IntKind.i64.wrap (5*(q:Int)+2)=5*(q:Int)+2:=wr (by omega) (by omega)
 have e6:(5*(q:Int)+2).tdiv 153=(m:Int):=(tdivL (x:=5*(q:Int)+2) (y:=153) (a:=5*q+2) (b:=153) (by omega) rfl).trans (by rw [←hm])
 have w17:IntKind.i64.wrap (m:Int)=m:=wr (by omega) (by omega)
 have w18:IntKind.i64.wrap (100*(c:Int))=100*(c:Int):=wr (by omega) (by omega)
 have w19:IntKind.i64.wrap (100*(c:Int)+y)=100*(c:Int)+y:=wr (by omega) (by omega)
 have w20:IntKind.i64.wrap ((m:Int)+3)=(m:Int)+3:=wr (by omega) (by omega)
 have w21:IntKind.i64.wrap (153*(m:Int))=153*(m:Int):=wr (by omega) (by omega)
 have w22:IntKind.i64.wrap (153*(m:Int)+2)=153*(m:Int)+2:=wr (by omega) (by omega)
 have e7:(153*(m:Int)+2).tdiv 5=((153*m+2) / 5:Nat):=tdivL (x:=153*(m:Int)+2) (y:=5) (a:=153*m+2) (b:=5) (by omega) rfl
 have w23:IntKind.i64.wrap (((153*m+2) / 5:Nat):Int)=((153*m+2) / 5:Nat):=wr (by omega) (by omega)
 have w24:IntKind.i64.wrap ((q:Int) - ((153*m+2) / 5:Nat))=(q:Int) - ((153*m+2) / 5:Nat):=wr (by omega) (by omega)
 have w25:IntKind.i64.wrap ((q:Int) - ((153*m+2) / 5:Nat)+1)=(D:Int):=by rw [wr]<;>omega
 clear hc hr hy hr2 hm hd r1 r2 k1 k2 k3
 generalize ((146097*c / 4:Nat):Int)=x1 at *
 generalize ((1461*y / 4:Nat):Int)=x2 at *
 generalize (((153*m+2) / 5:Nat):Int)=x3 at *
 simp -implicitDefEqProofs [c208,c0,c1,c1']
 try simp only [e1,w1]
 try simp only [f1,w1]
 refine onC_mk _ E ?_
 simp -implicitDefEqProofs
 simp only [w2,w3,w4,e2,w5,w6,e3,w7,w8,w9,w10,e4,w11,w12,e5,w13,w14,w15,w16,e6,w17,w18,w19,w20,w21,w22,e7,w23,w24,w25]
 by_cases g:9<m
 ·have g':(12:Int)<(m:Int)+3:=by omega
  rw [if_pos g] at hY hM
  have w26:IntKind.i64.wrap (100*(c:Int)+y+1)=(Y:Int):=by rw [wr]<;>omega
  have w27:IntKind.i64.wrap ((m:Int)+3 - 12)=(M:Int):=by rw [wr]<;>omega
  clear hY hM
  generalize (m:Int)+3=m3 at *
  generalize 100*(c:Int)+(y:Int)=cy at *
  simp -implicitDefEqProofs [g']
  simp only [w26,w27]
  trivial
 ·have g': ¬(12:Int)<(m:Int)+3:=by omega
  rw [if_neg g] at hY hM
  have hY':100*(c:Int)+(y:Int)=(Y:Int):=by omega
  have hM':(m:Int)+3=(M:Int):=by omega
  clear hY hM
  generalize (m:Int)+3=m3 at *
  generalize 100*(c:Int)+(y:Int)=cy at *
  subst hY' hM'
  simp -implicitDefEqProofs [g']
open Go.Proofs
theorem at_ok (n:Nat) (h:719468≤n) (h2:n≤3652364):1970≤yearN n∧yearN n≤10100∧1≤monthN n∧monthN n≤12∧aheadN (yearN n) (monthN n)≤n∧n<aheadN (yearN n) (monthN n)+dimN (yearN n) (monthN n):=by
 have r1:=rest_le n
 have r2:=yr_le n
 have c1:cenN n≤100:=by unfold cenN;omega
 have h0:1≤100*cenN n+yrN n:=by unfold cenN at *;omega
 obtain ⟨m1,m2,m3,m4⟩:=ahead_in n h0
 have yl:yearN n≤10100:=by unfold yearN;split<;>omega
 refine ⟨?_,yl,m1,m2,m3,m4⟩
 rcases Nat.lt_or_ge (yearN n) 1970 with hy|hy
 ·exfalso
  have y1:1≤yearN n:=by unfold yearN;split<;>omega
  obtain ⟨s1,s2⟩:=startK_at (y:=yearN n) m1 m2
  have nx:=startK_next (12*yearN n+(monthN n - 1)) (by omega)
  have le:=startK_le (12*yearN n+(monthN n - 1)+1) (by omega) (23640 - (12*yearN n+(monthN n - 1)+1))
  have e:12*yearN n+(monthN n - 1)+1+(23640 - (12*yearN n+(monthN n - 1)+1))=23640:=by omega
  rw [e] at le
  have e2:startK 23640=719468:=by decide
  omega
 ·exact hy
theorem stN_next {y m:Nat} (hy:1≤y) (h1:1≤m) (h2:m≤12):stN y (m+1)=stN y m+dimN y m:=by
 unfold stN
 rw [if_neg (show ¬12<m by omega)]
 by_cases h:m=12
 ·subst h
  rw [if_pos (by omega),dim_dec]
  exact ahead_dec y
 ·rw [if_neg (by omega)]
  exact ahead_month y m hy h1 (by omega)
def dayOf (t:Nat):Nat:=t / 86400+719468
def fstM (s n:Nat):Nat:=monthN n - (monthN n - 1)%s
def perF (s t:Nat):Nat:=86400*(stN (yearN (dayOf t)) (fstM s (dayOf t)) - 719468)
def perT (s t:Nat):Nat:=86400*(stN (yearN (dayOf t)) (fstM s (dayOf t)+s) - 719468)
theorem fstM_ok {s n:Nat} (hs:s=1∨s=3) (h1:1≤monthN n) (h2:monthN n≤12):1≤fstM s n∧fstM s n≤monthN n∧monthN n<fstM s n+s∧fstM s n+s≤13:=by
 unfold fstM
 rcases hs with rfl|rfl<;>omega
theorem cperiod_spec (s t:Nat) (hs:s=1∨s=3) (ht:t≤253402300799):Sp Tryz.prog gl 181 [i6 t,i6 s] (.tup [i6 (perF s t),i6 (perT s t),i6 0]):=by
 refine s181 rfl rfl ?_
 have A:=cat_spec t ht
 have hn:=at_ok (dayOf t) (by unfold dayOf;omega) (by unfold dayOf;omega)
 unfold perF perT
 have e0:t / 86400+719468=dayOf t:=rfl
 rw [e0] at A
 obtain ⟨y1,y2,m1,m2,-,-⟩:=hn
 have f:=fstM_ok (n:=dayOf t) hs m1 m2
 have S1:=start_spec (yearN (dayOf t)) (fstM s (dayOf t)) (by omega) (by omega) (by omega) (by omega)
 have S2:=start_spec (yearN (dayOf t)) (fstM s (dayOf t)+s) (by omega) (by omega) (by omega) (by omega)
 have ef:(((monthN (dayOf t):Nat):Int) - (((monthN (dayOf t):Nat):Int) - 1).tmod s)=(fstM s (dayOf t):Nat):=by
  rw [tmodL (x:=((monthN (dayOf t):Nat):Int) - 1) (y:=(s:Int)) (a:=monthN (dayOf t) - 1) (b:=s) (by omega) rfl]
  have:(monthN (dayOf t) - 1)%s≤monthN (dayOf t) - 1:=Nat.mod_le _ _
  unfold fstM
  omega
 have mb:((((monthN (dayOf t):Nat):Int) - 1).tmod s)≤12∧0≤((((monthN (dayOf t):Nat):Int) - 1).tmod s):=by
  rw [tmodL (x:=((monthN (dayOf t):Nat):Int) - 1) (y:=(s:Int)) (a:=monthN (dayOf t) - 1) (b:=s) (by omega) rfl]
  have:(monthN (dayOf t) - 1)%s≤monthN (dayOf t) - 1:=Nat.mod_le _ _
  omega
 have s0: ¬((s:Int)=0):=by omega
 have s0': ¬(s=0):=by omega
 generalize fstM s (dayOf t)=F at *
 clear e0
 generalize yearN (dayOf t)=Y at *
 generalize monthN (dayOf t)=M at *
 generalize dayN (dayOf t)=D at *
 obtain ⟨V1,hV1⟩: ∃V,V=86400*(stN Y F - 719468):=⟨_,rfl⟩
 obtain ⟨V2,hV2⟩: ∃V,V=86400*(stN Y (F+s) - 719468):=⟨_,rfl⟩
 rw [←hV1] at S1 ⊢
 rw [←hV2] at S2 ⊢
 clear hV1 hV2
 have w1:IntKind.i64.wrap ((M:Int) - 1)=(M:Int) - 1:=wr (by omega) (by omega)
 have w3:IntKind.i64.wrap ((M:Int) - ((M:Int) - 1).tmod s)=(F:Int):=by rw [ef];exact wr (by omega) (by omega)
 have w4:IntKind.i64.wrap ((F:Int)+s)=(F+s:Nat):=by rw [wr]<;>omega
 generalize ((F+s:Nat):Int)=F2 at *
 clear ef mb
 generalize hq:((M:Int) - 1).tmod s=q at *
 simp -implicitDefEqProofs [c181]
 refine onC_mk _ A ?_
 simp -implicitDefEqProofs [s0,s0']
 simp only [w1,hq,w3,w4]
 refine onC_mk _ S1 ?_
 simp -implicitDefEqProofs [s0,s0']
 try simp only [w1,hq,w3,w4]
 refine onC_mk _ S2 ?_
 simp -implicitDefEqProofs
theorem cmonth_spec (t:Nat) (ht:t≤253402300799):Sp Tryz.prog gl 139 [i6 t] (.tup [i6 (perF 1 t),i6 (perT 1 t),i6 0]):=by
 refine s139 rfl rfl ?_
 have A:=cperiod_spec 1 t (.inl rfl) ht
 simp -implicitDefEqProofs [c139]
 refine onC_mk _ A ?_
 simp -implicitDefEqProofs
theorem cquarter_spec (t:Nat) (ht:t≤253402300799):Sp Tryz.prog gl 140 [i6 t] (.tup [i6 (perF 3 t),i6 (perT 3 t),i6 0]):=by
 refine s140 rfl rfl ?_
 have A:=cperiod_spec 3 t (.inr rfl) ht
 simp -implicitDefEqProofs [c140]
 refine onC_mk _ A ?_
 simp -implicitDefEqProofs
open Go.Proofs
theorem rleap_spec (y:Nat):Sp Tryz.prog gl 193 [i6 y] (.bool (leapN y)):=by
 refine s193 rfl rfl ?_
 have m1:=tmodL (x:=(y:Int)) (y:=400) (a:=y) (b:=400) rfl rfl
 have m2:=tmodL (x:=(y:Int)) (y:=4) (a:=y) (b:=4) rfl rfl
 have m3:=tmodL (x:=(y:Int)) (y:=100) (a:=y) (b:=100) rfl rfl
 have n1:(y:Int)%400=(y%400:Nat):=by omega
 have n2:(y:Int)%4=(y%4:Nat):=by omega
 have n3:(y:Int)%100=(y%100:Nat):=by omega
 unfold leapN
 generalize y%400=a at *
 generalize y%4=b at *
 generalize y%100=c at *
 by_cases g1:a=0
 ·subst g1
  simp -implicitDefEqProofs [c193,m1,n1]
  try simp
 ·have g1':((a:Int)==0)=false:=by rw [beq_eq_false_iff_ne];omega
  by_cases g2:b=0
  ·subst g2
   by_cases g3:c=0
   ·subst g3
    simp -implicitDefEqProofs [c193,m1,n1,m2,n2,m3,n3,g1,g1']
    try simp [g1]
   ·have g3':((c:Int)==0)=false:=by rw [beq_eq_false_iff_ne];omega
    simp -implicitDefEqProofs [c193,m1,n1,m2,n2,m3,n3,g1,g1',g3,g3']
    try simp [g1,g3]
  ·have g2':((b:Int)==0)=false:=by rw [beq_eq_false_iff_ne];omega
   simp -implicitDefEqProofs [c193,m1,n1,m2,n2,m3,n3,g1,g1',g2,g2']
   try simp [g1,g2]
theorem ryear_spec (y:Nat):Sp Tryz.prog gl 192 [i6 y] (i6 (diyN y)):=by
 refine s192 rfl rfl ?_
 have L:=rleap_spec y
 unfold diyN
 cases h:leapN y<;>rw [h] at L<;>(simp -implicitDefEqProofs [c192];refine onC_mk _ L ?_;simp -implicitDefEqProofs)
theorem w64_0:IntKind.i64.wrap 0=0:=by decide
theorem w64_1:IntKind.i64.wrap 1=1:=by decide
theorem w64_2:IntKind.i64.wrap 2=2:=by decide
theorem w64_3:IntKind.i64.wrap 3=3:=by decide
theorem w64_4:IntKind.i64.wrap 4=4:=by decide
theorem w64_5:IntKind.i64.wrap 5=5:=by decide
theorem w64_6:IntKind.i64.wrap 6=6:=by decide
theorem w64_7:IntKind.i64.wrap 7=7:=by decide
theorem w64_8:IntKind.i64.wrap 8=8:=by decide
theorem w64_9:IntKind.i64.wrap 9=9:=by decide
theorem w64_10:IntKind.i64.wrap 10=10:=by decide
theorem w64_11:IntKind.i64.wrap 11=11:=by decide
theorem rdays_spec (y m:Nat) (h1:1≤m) (h2:m≤12):Sp Tryz.prog gl 163 [i6 y,i6 m] (i6 (dimN y m)):=by
 refine s163 rfl rfl ?_
 have L:=rleap_spec y
 have e2:m=2∨m≠2:=by omega
 rcases e2 with rfl|h3
 ·unfold dimN
  cases h:leapN y<;>rw [h] at L<;>(simp -implicitDefEqProofs [c163];refine onC_mk _ L ?_;simp -implicitDefEqProofs [w64_0,w64_1,w64_2,w64_3,w64_4,w64_5,w64_6,w64_7,w64_8,w64_9,w64_10,w64_11])
 ·have:m=1∨m=3∨m=4∨m=5∨m=6∨m=7∨m=8∨m=9∨m=10∨m=11∨m=12:=by omega
  rcases this with rfl|rfl|rfl|rfl|rfl|rfl|rfl|rfl|rfl|rfl|rfl<;>simp -implicitDefEqProofs [c163,dimN,w64_0,w64_1,w64_2,w64_3,w64_4,w64_5,w64_6,w64_7,w64_8,w64_9,w64_10,w64_11]
open Go.Proofs
theorem year_le {y n:Nat} (hy:1970≤y) (h:aheadN y 1≤n) (hn:n≤3652364):y≤12000:=by
 have e1:=ahead_years 1970 (by omega) (y - 1970)
 rw [epochN,show 1970+(y - 1970)=y by omega] at e1
 omega
theorem diyN_le (y:Nat):365≤diyN y∧diyN y≤366:=by unfold diyN;split<;>omega
set_option maxHeartbeats 1600000 in
theorem rat05_spec (t:Nat) (ht:t≤253402300799):Sp Tryz.prog gl 161 [i6 t] (.agg [i6 (yearN (dayOf t)),i6 (monthN (dayOf t)),i6 (dayOf t - aheadN (yearN (dayOf t)) (monthN (dayOf t))+1:Nat)]):=by
 refine s161 rfl rfl ?_
 obtain ⟨a1,a2,a3,a4,a5,a6⟩:=at_ok (dayOf t) (by unfold dayOf;omega) (by unfold dayOf;omega)
 have e1:=tdivL (x:=(t:Int)) (y:=86400) (a:=t) (b:=86400) rfl rfl
 have f1:(t:Int) / 86400=(t / 86400:Nat):=by omega
 have hn:t / 86400=dayOf t - aheadN 1970 1:=by rw [epochN];unfold dayOf;omega
 have h0:aheadN 1970 1≤dayOf t:=by rw [epochN];unfold dayOf;omega
 have h9:dayOf t≤3652364:=by unfold dayOf;omega
 generalize dayOf t=n at *
 have h00:(1970:Nat)≤1970:=Nat.le_refl _
 obtain ⟨y0,hy0⟩: ∃y0,y0=1970:=⟨_,rfl⟩
 have hy0':((1970:Int))=((y0:Nat):Int):=by rw [hy0];rfl
 rw [←hy0] at h0 hn h00
 rw [hn] at e1 f1
 have w0:IntKind.i64.wrap ((n - aheadN y0 1:Nat):Int)=(n - aheadN y0 1:Nat):=by
  generalize aheadN y0 1=a at *
  rw [wr]<;>omega
 have hy9:1970≤y0:=by omega
 clear hn h00 hy0
 simp -implicitDefEqProofs [c161]
 simp only [e1,f1,w0,hy0']
 refine wp_lpk (α:=Nat) (fun y=>⟨[(3,i6 (n - aheadN y 1:Nat)),(4,.ptr (.n 4) 0),(2,.ptr (.n 2) 0)],[(.n 4,[i6 y,i6 1,i6 0]),(.n 2,[i6 0,i6 0,i6 0])],[]⟩) (fun y=>1970≤y∧aheadN y 1≤n) (fun y=>20000 - y) ?_ y0 ?_ ?_
 ·rintro K y hK ⟨g1,g2⟩
  have yl:=year_le g1 g2 h9
  have Y:=ryear_spec y
  have nx:=ahead_year y (by omega)
  have dl:=diyN_le y
  by_cases g:diyN y≤n - aheadN y 1
  ·have g':((diyN y:Nat):Int)≤(n - aheadN y 1:Nat):=by omega
   have w1:IntKind.i64.wrap (((n - aheadN y 1:Nat):Int) - (diyN y:Nat))=(n - aheadN (y+1) 1:Nat):=by rw [wr]<;>omega
   have w2:IntKind.i64.wrap ((y:Int)+1)=(y+1:Nat):=by rw [wr]<;>omega
   have fin: ∀σ',Weak σ' ⟨[(3,i6 (n - aheadN (y+1) 1:Nat)),(4,.ptr (.n 4) 0),(2,.ptr (.n 2) 0)],[(.n 4,[i6 (y+1:Nat),i6 1,i6 0]),(.n 2,[i6 0,i6 0,i6 0])],[]⟩→K σ':=
    fun σ' hσ=>hK (y+1) σ' ⟨by omega,by omega⟩ (by omega) hσ
   clear hK nx dl
   generalize ((n - aheadN (y+1) 1:Nat):Int)=N2 at *
   generalize ((y+1:Nat):Int)=y2 at *
   generalize n - aheadN y 1=N at *
   generalize diyN y=D at *
   simp -implicitDefEqProofs
   refine onC_mk _ Y ?_
   simp -implicitDefEqProofs [g,g']
   refine onC_mk _ Y ?_
   simp -implicitDefEqProofs
   simp only [w1,w2]
   refine fin _ ?_
   refine weak_mk ?_ ?_ ?_ ?_ ?_ ?_<;>simp -implicitDefEqProofs
  ·have g': ¬(((diyN y:Nat):Int)≤(n - aheadN y 1:Nat)):=by omega
   have lt:n<aheadN (y+1) 1:=by omega
   clear hK
   have key: ∀Q:AE→St→Prop,True:=fun _=>trivial
   have hD: ∀v,v=diyN y→True:=fun _ _=>trivial
   have Y':=Y
   generalize hN:n - aheadN y 1=N at *
   generalize diyN y=D at *
   simp -implicitDefEqProofs
   refine onC_mk _ Y ?_
   simp -implicitDefEqProofs [g,g']
   refine wp_lpk (α:=Nat) (fun m=>⟨[(3,i6 (n - aheadN y m:Nat)),(4,.ptr (.n 4) 0),(2,.ptr (.n 2) 0)],[(.n 4,[i6 y,i6 m,i6 0]),(.n 2,[i6 0,i6 0,i6 0])],[]⟩) (fun m=>1≤m∧m≤12∧aheadN y m≤n) (fun m=>20 - m) ?_ 1 ?_ ?_
   ·rintro K m hK ⟨k1,k2,k3⟩
    have M:=rdays_spec y m k1 k2
    have dm:=dimN_ge y m k1 k2
    by_cases k:dimN y m≤n - aheadN y m
    ·have k':((dimN y m:Nat):Int)≤(n - aheadN y m:Nat):=by omega
     have m11:m≤11:=by
      rcases Nat.lt_or_ge m 12 with h|h
      ·omega
      ·exfalso
       obtain rfl:m=12:=by omega
       have:=ahead_dec y
       have:=dim_dec y
       omega
     have nm:=ahead_month y m (by omega) k1 m11
     have w1:IntKind.i64.wrap (((n - aheadN y m:Nat):Int) - (dimN y m:Nat))=(n - aheadN y (m+1):Nat):=by rw [wr]<;>omega
     have w2:IntKind.i64.wrap ((m:Int)+1)=(m+1:Nat):=by rw [wr]<;>omega
     have fin: ∀σ',Weak σ' ⟨[(3,i6 (n - aheadN y (m+1):Nat)),(4,.ptr (.n 4) 0),(2,.ptr (.n 2) 0)],[(.n 4,[i6 y,i6 (m+1:Nat),i6 0]),(.n 2,[i6 0,i6 0,i6 0])],[]⟩→K σ':=
      fun σ' hσ=>hK (m+1) σ' ⟨by omega,by omega,by omega⟩ (by omega) hσ
     clear hK nm dm
     generalize ((n - aheadN y (m+1):Nat):Int)=N2 at *
     generalize ((m+1:Nat):Int)=m2 at *
     generalize n - aheadN y m=N1 at *
     generalize dimN y m=D1 at *
     simp -implicitDefEqProofs
     refine onC_mk _ M ?_
     simp -implicitDefEqProofs [k,k']
     refine onC_mk _ M ?_
     simp -implicitDefEqProofs
     simp only [w1,w2]
     refine fin _ ?_
     refine weak_mk ?_ ?_ ?_ ?_ ?_ ?_<;>simp -implicitDefEqProofs
    ·have k': ¬(((dimN y m:Nat):Int)≤(n - aheadN y m:Nat)):=by omega
     obtain ⟨u1,u2⟩:=month_uniq (y:=y) (m:=m) (y':=yearN n) (m':=monthN n) (n:=n) (by omega) k1 k2 (by omega) a3 a4 k3 (by omega) a5 a6
     have w1:IntKind.i64.wrap (((n - aheadN y m:Nat):Int)+1)=(n - aheadN y m+1:Nat):=by rw [wr]<;>omega
     rw [←u1,←u2]
     clear hK
     generalize n - aheadN y m=N1 at *
     generalize dimN y m=D1 at *
     simp -implicitDefEqProofs
     refine onC_mk _ M ?_
     simp -implicitDefEqProofs [k,k']
     simp only [w1]
     try simp -implicitDefEqProofs
   ·exact ⟨by omega,by omega,g2⟩
   ·refine weak_mk ?_ ?_ ?_ ?_ ?_ ?_<;>simp -implicitDefEqProofs [hN]
 ·exact ⟨hy9,h0⟩
 ·refine weak_mk ?_ ?_ ?_ ?_ ?_ ?_<;>simp -implicitDefEqProofs
open Go.Proofs
def offD (y m:Nat):Nat:=aheadN y m - 719468
set_option maxHeartbeats 1600000 in
theorem rtick05_spec (Y M:Nat) (hY:1970≤Y) (hY2:Y≤10100) (hM:1≤M) (hM2:M≤12):Sp Tryz.prog gl 162 [.agg [i6 Y,i6 M,i6 1]] (i6 (86400*(aheadN Y M - 719468):Nat)):=by
 refine s162 rfl rfl ?_
 have e0:offD 1970 1=0:=by unfold offD;rw [epochN]
 have hoff: ∀y m,offD y m=aheadN y m - 719468:=fun _ _=>rfl
 rw [←hoff]
 have ub:=fun y m (h1:y≤20000) (h2:1≤m) (h3:m≤12)=>ahead_lt (y:=y) (m:=m) h1 h2 h3
 have lb:=fun y m (h0:1970≤y) (h2:1≤m) (h3:m≤12)=>ahead_ge (y:=y) (m:=m) h0 h2 h3
 simp -implicitDefEqProofs [c162]
 refine wp_lpk (α:=Nat) (fun y=>⟨[(3,i6 (offD y 1:Nat)),(4,i6 y),(1,.ptr (.n 1) 0)],[(.n 1,[i6 Y,i6 M,i6 1])],[]⟩) (fun y=>1970≤y∧y≤Y) (fun y=>Y - y) ?_ 1970 ?_ ?_
 ·rintro K y hK ⟨g1,g2⟩
  by_cases g:y<Y
  ·have g':(y:Int)<Y:=by omega
   have A:=ryear_spec y
   have nx:=ahead_year y (by omega)
   have o1:=hoff y 1
   have o2:=hoff (y+1) 1
   have u1:=ub y 1 (by omega) (by omega) (by omega)
   have u2:=ub (y+1) 1 (by omega) (by omega) (by omega)
   have l1:=lb y 1 g1 (by omega) (by omega)
   have w1:IntKind.i64.wrap (((offD y 1:Nat):Int)+(diyN y:Nat))=(offD (y+1) 1:Nat):=by rw [wr]<;>omega
   have w2:IntKind.i64.wrap ((y:Int)+1)=(y+1:Nat):=by rw [wr]<;>omega
   have fin: ∀σ',Weak σ' ⟨[(3,i6 (offD (y+1) 1:Nat)),(4,i6 (y+1:Nat)),(1,.ptr (.n 1) 0)],[(.n 1,[i6 Y,i6 M,i6 1])],[]⟩→K σ':=
    fun σ' hσ=>hK (y+1) σ' ⟨by omega,by omega⟩ (by omega) hσ
   clear hK nx o1 o2 hoff u1 u2 l1 ub lb e0
   generalize ((offD (y+1) 1:Nat):Int)=N2 at *
   generalize ((offD y 1:Nat):Int)=N1 at *
   generalize ((y+1:Nat):Int)=y2 at *
   generalize diyN y=D at *
   simp -implicitDefEqProofs [g,g']
   refine onC_mk _ A ?_
   simp -implicitDefEqProofs
   simp only [w1,w2]
   refine fin _ ?_
   refine weak_mk ?_ ?_ ?_ ?_ ?_ ?_<;>simp -implicitDefEqProofs
  ·obtain rfl:y=Y:=by omega
   clear hK
   have g': ¬((y:Int)<y):=by omega
   simp -implicitDefEqProofs [g,g']
   refine wp_lpk (α:=Nat) (fun m=>⟨[(3,i6 (offD y m:Nat)),(5,i6 m),(1,.ptr (.n 1) 0)],[(.n 1,[i6 y,i6 M,i6 1])],[]⟩) (fun m=>1≤m∧m≤M) (fun m=>M - m) ?_ 1 ?_ ?_
   ·rintro K m hK ⟨k1,k2⟩
    have u1:=ub y m (by omega) (by omega) (by omega)
    have l1:=lb y m g1 (by omega) (by omega)
    by_cases k:m<M
    ·have k':(m:Int)<M:=by omega
     have A:=rdays_spec y m k1 (by omega)
     have nm:=ahead_month y m (by omega) k1 (by omega)
     have o1:=hoff y m
     have o2:=hoff y (m+1)
     have u2:=ub y (m+1) (by omega) (by omega) (by omega)
     have w1:IntKind.i64.wrap (((offD y m:Nat):Int)+(dimN y m:Nat))=(offD y (m+1):Nat):=by rw [wr]<;>omega
     have w2:IntKind.i64.wrap ((m:Int)+1)=(m+1:Nat):=by rw [wr]<;>omega
     have fin: ∀σ',Weak σ' ⟨[(3,i6 (offD y (m+1):Nat)),(5,i6 (m+1:Nat)),(1,.ptr (.n 1) 0)],[(.n 1,[i6 y,i6 M,i6 1])],[]⟩→K σ':=
      fun σ' hσ=>hK (m+1) σ' ⟨by omega,by omega⟩ (by omega) hσ
     clear hK nm o1 o2 hoff u1 u2 l1 ub lb e0
     generalize ((offD y (m+1):Nat):Int)=N2 at *
     generalize ((offD y m:Nat):Int)=N1 at *
     generalize ((m+1:Nat):Int)=y2 at *
     generalize dimN y m=D at *
     simp -implicitDefEqProofs [k,k']
     refine onC_mk _ A ?_
     simp -implicitDefEqProofs
     simp only [w1,w2]
     refine fin _ ?_
     refine weak_mk ?_ ?_ ?_ ?_ ?_ ?_<;>simp -implicitDefEqProofs
    ·obtain rfl:m=M:=by omega
     clear hK
     have k': ¬((m:Int)<m):=by omega
     have o1:=hoff y m
     have w0:IntKind.i64.wrap ((1:Int) - 1)=0:=by decide
     have w1:IntKind.i64.wrap ((offD y m:Nat):Int)=(offD y m:Nat):=by rw [wr]<;>omega
     have w3:IntKind.i64.wrap (((offD y m:Nat):Int)+0)=(offD y m:Nat):=by rw [wr]<;>omega
     have w2:IntKind.i64.wrap (86400*((offD y m:Nat):Int))=86400*((offD y m:Nat):Int):=by rw [wr]<;>omega
     clear u1 l1 ub lb e0 hoff o1
     generalize ((offD y m:Nat):Int)=N1 at *
     simp -implicitDefEqProofs [k,k',w0,w1,w3,w64_0]
     try simp only [w0,w1,w3,w2]
     try trivial
   ·exact ⟨by omega,by omega⟩
   ·refine weak_mk ?_ ?_ ?_ ?_ ?_ ?_<;>simp -implicitDefEqProofs
 ·exact ⟨by omega,by omega⟩
 ·refine weak_mk ?_ ?_ ?_ ?_ ?_ ?_<;>simp -implicitDefEqProofs [e0]
open Go.Proofs
def offS (y m:Nat):Nat:=stN y m - 719468
theorem offS_eq (y m:Nat):offS y m=stN y m - 719468:=rfl
theorem perF_eq (s t:Nat):perF s t=86400*offS (yearN (dayOf t)) (fstM s (dayOf t)):=by unfold perF;rw [offS_eq]
theorem perT_eq (s t:Nat):perT s t=86400*offS (yearN (dayOf t)) (fstM s (dayOf t)+s):=by unfold perT;rw [offS_eq]
theorem rtick05_off (Y:Nat) (y1:1970≤Y) (y2:Y≤10100) (m:Nat) (k1:1≤m) (k2:m≤12):Sp Tryz.prog gl 162 [.agg [i6 Y,i6 m,i6 1]] (i6 (86400*offS Y m:Nat)):=by
  have h:=rtick05_spec Y m y1 y2 k1 k2
  have hst:aheadN Y m=stN Y m:=by
    unfold stN
    rw [if_neg (by omega)]
  rw [hst,←offS_eq] at h
  exact h
theorem offS_le (y m:Nat) (k1:1≤m) (k2:m≤15) (k3:y≤12000):offS y m≤10000000:=by
  have:=stN_lt (y:=y) (m:=m) (by omega) k1 k2
  unfold offS;omega
theorem offS_next (y m:Nat) (h:1970≤y) (k1:1≤m) (k2:m≤12):offS y (m+1)=offS y m+dimN y m:=by
  have e:=stN_next (y:=y) (m:=m) (by omega) k1 k2
  have g:=stN_ge (y:=y) (m:=m) h k1 (by omega)
  unfold offS;omega
theorem offV (O:Nat→Nat) (F:Nat): ∃V:Nat→Int,(∀i,V i=((86400*O (F+i):Nat):Int))∧V 0=((86400*O F:Nat):Int):=⟨_,fun _=>rfl,rfl⟩
theorem dimN_le (y m : Nat) : dimN y m ≤ 31 := by unfold dimN; repeat' split
                                                  all_goals omega
set_option maxHeartbeats 1600000 in
theorem rperiod05_spec (s t:Nat) (hs:s=1∨s=3) (ht:t≤253402300799):Sp Tryz.prog gl 112 [i6 t,i6 s] (.tup [i6 (perF s t),i6 (perT s t)]):=by
  refine s112 rfl rfl ?_
  have A:=rat05_spec t ht
  obtain ⟨y1,y2,m1,m2,-,-⟩:=at_ok (dayOf t) (by unfold dayOf;omega) (by unfold dayOf;omega)
  have f:=fstM_ok (n:=dayOf t) hs m1 m2
  have hf:fstM s (dayOf t)%s=1%s:=by
    unfold fstM
    rcases hs with rfl|rfl<;>omega
  rw [perF_eq,perT_eq]
  have T':=rtick05_off (yearN (dayOf t)) y1 y2
  have ub: ∀m,1≤m→m≤15→offS (yearN (dayOf t)) m≤10000000:=fun m k1 k2=>offS_le _ m k1 k2 (by omega)
  have nx: ∀m,1≤m→m≤12→offS (yearN (dayOf t)) (m+1)=offS (yearN (dayOf t)) m+dimN (yearN (dayOf t)) m:=fun m k1 k2=>offS_next _ m y1 k1 k2
  have dl:=dimN_le (yearN (dayOf t))
  have DM:=fun m k1 k2=>rdays_spec (yearN (dayOf t)) m k1 k2
  generalize fstM s (dayOf t)=F at *
  generalize offS (yearN (dayOf t))=O at *
  generalize dimN (yearN (dayOf t))=Dn at *
  generalize (dayOf t - aheadN (yearN (dayOf t)) (monthN (dayOf t))+1)=D at *
  generalize yearN (dayOf t)=Y at *
  generalize monthN (dayOf t)=M at *
  obtain ⟨V,hV,hV0⟩:=offV O F
  rw [←hV s,←hV0]
  simp -implicitDefEqProofs [c112]
  refine onC_mk _ A ?_
  simp -implicitDefEqProofs
  refine wp_lpk (α:=Nat) (fun g=>⟨[(7,i6 g),(1,i6 s),(6,.ptr (.n 6) 0)],[(.n 6,[i6 Y,i6 M,i6 D])],[]⟩) (fun g=>1≤g∧g≤M∧g%s=1%s) (fun g=>M - g) ?_ 1 ?_ ?_
  · rintro K g hK ⟨g1,g2,g3⟩
    have w1:IntKind.i64.wrap ((g:Int)+s)=(g+s:Nat):=by rw [wr]<;>omega
    by_cases h:g+s≤M
    · have h':((g+s:Nat):Int)≤M:=by omega
      have fin: ∀σ',Weak σ' ⟨[(7,i6 (g+s:Nat)),(1,i6 s),(6,.ptr (.n 6) 0)],[(.n 6,[i6 Y,i6 M,i6 D])],[]⟩→K σ':=
        fun σ' hσ=>hK (g+s) σ' ⟨by omega,h,by rw [Nat.add_mod_right];exact g3⟩ (by omega) hσ
      clear hK
      generalize ((g+s:Nat):Int)=G at *
      generalize g+s=G' at *
      simp -implicitDefEqProofs
      simp only [w1,h',decide_true,onB_true]
      simp -implicitDefEqProofs
      try simp only [w1]
      refine fin _ ?_
      refine weak_mk ?_ ?_ ?_ ?_ ?_ ?_<;>simp -implicitDefEqProofs
    · have eg:g=F:=by rcases hs with rfl|rfl<;>omega
      subst eg
      clear hK
      have h': ¬(((g+s:Nat):Int)≤M):=by omega
      generalize ((g+s:Nat):Int)=G at *
      have T1:=T' g g1 (by omega)
      rw [←hV0] at T1
      clear hV0 T'
      simp -implicitDefEqProofs
      simp only [w1,h',decide_false,onB_false]
      simp -implicitDefEqProofs
      refine onC_mk _ T1 ?_
      simp -implicitDefEqProofs
      refine wp_lpk (α:=Nat) (fun i=>⟨[(8,i6 (V 0)),(9,i6 (V i)),(10,i6 i),(7,i6 g),(1,i6 s),(6,.ptr (.n 6) 0)],[(.n 6,[i6 Y,i6 M,i6 D])],[]⟩) (fun i=>i≤s) (fun i=>s - i) ?_ 0 ?_ ?_
      · intro K i hK k1
        have u1:=ub (g+i) (by omega) (by omega)
        by_cases k:i<s
        · have k':(i:Int)<s:=by omega
          have u2:=ub (g+i+1) (by omega) (by omega)
          have A2:=DM (g+i) (by omega) (by omega)
          have e:=nx (g+i) (by omega) (by omega)
          have d1:=dl (g+i)
          have w2:IntKind.i64.wrap ((g:Int)+i)=(g+i:Nat):=by rw [wr]<;>omega
          have w3:IntKind.i64.wrap (86400*((Dn (g+i):Nat):Int))=86400*((Dn (g+i):Nat):Int):=wr (by omega) (by omega)
          have w4:IntKind.i64.wrap (V i+86400*((Dn (g+i):Nat):Int))=V (i+1):=by rw [hV,hV,show g+(i+1)=g+i+1 by omega,wr]<;>omega
          have w5:IntKind.i64.wrap ((i:Int)+1)=(i+1:Nat):=by rw [wr]<;>omega
          have fin: ∀σ',Weak σ' ⟨[(8,i6 (V 0)),(9,i6 (V (i+1))),(10,i6 (i+1:Nat)),(7,i6 g),(1,i6 s),(6,.ptr (.n 6) 0)],[(.n 6,[i6 Y,i6 M,i6 D])],[]⟩→K σ':=
            fun σ' hσ=>hK (i+1) σ' (by omega) (by omega) hσ
          clear hK u1 u2 e d1
          clear hV nx ub
          generalize V (i+1)=V2 at *
          generalize V i=V1 at *
          generalize V 0=V0 at *
          generalize ((i+1:Nat):Int)=i2 at *
          generalize Dn (g+i)=Dg at *
          generalize ((g+i:Nat):Int)=gi at *
          simp -implicitDefEqProofs [k,k']
          simp only [w2]
          refine onC_mk _ A2 ?_
          simp -implicitDefEqProofs
          simp only [w3,w4,w5]
          refine fin _ ?_
          refine weak_mk ?_ ?_ ?_ ?_ ?_ ?_<;>simp -implicitDefEqProofs
        · obtain rfl:i=s:=by omega
          have k': ¬((i:Int)<i):=by omega
          clear hK
          simp -implicitDefEqProofs [k,k']
      · exact Nat.zero_le _
      · refine weak_mk ?_ ?_ ?_ ?_ ?_ ?_<;>simp -implicitDefEqProofs
  · exact ⟨by omega,m1,rfl⟩
  · refine weak_mk ?_ ?_ ?_ ?_ ?_ ?_<;>simp -implicitDefEqProofs
end Go.Ai
