/- P9: a part of the proof: the rules, or what functions compute. Conditions: as each theorem says. -/
import Derived.Test.YtidcomakahbepaaGreatDoorP8
import Derived.Test.YtidcomakahbepaaGreatDoorP1
set_option linter.unusedSimpArgs false
set_option linter.unusedVariables false
set_option maxRecDepth 20000
namespace Go.Ai
open Go.Proofs
theorem tdivL {x y:Int} {a b:Nat} (hx:x=a) (hy:y=b):x.tdiv y=((a / b:Nat):Int):=by subst hx hy;exact (Int.ofNat_tdiv a b).symm
theorem tmodL {x y:Int} {a b:Nat} (hx:x=a) (hy:y=b):x.tmod y=((a%b:Nat):Int):=by subst hx hy;exact (Int.ofNat_tmod a b).symm
theorem wr {x:Int} (h1: -4000000000000000000≤x) (h2:x≤4000000000000000000):IntKind.i64.wrap x=x:=by rw [wrap_i64]<;>omega
theorem ahead_lt {y m:Nat} (hy:y≤20000) (h1:1≤m) (h2:m≤12):aheadN y m≤10000000:=by
 unfold aheadN;split<;>omega
theorem cahead_spec (y m:Nat) (hy1:1≤y) (hy:y≤20000) (h1:1≤m) (h2:m≤12):Sp Tryz.prog gl 220 [.agg [i6 y,i6 m,i6 1]] (i6 (aheadN y m)):=by
 refine s220 rfl rfl ?_
 have run: ∀(Y p:Nat),Y≤20000→p≤20→
   IntKind.i64.wrap (IntKind.i64.wrap (IntKind.i64.wrap (IntKind.i64.wrap (IntKind.i64.wrap (IntKind.i64.wrap (IntKind.i64.wrap (365*(Y:Int))+IntKind.i64.wrap ((Y:Int).tdiv 4)) - IntKind.i64.wrap ((Y:Int).tdiv 100))+IntKind.i64.wrap ((Y:Int).tdiv 400))+
    IntKind.i64.wrap ((IntKind.i64.wrap (IntKind.i64.wrap (153*(p:Int))+2)).tdiv 5))+1) - 1)=((365*Y+Y / 4 - Y / 100+Y / 400+(153*p+2) / 5:Nat):Int):=by
  intro Y p hY hp
  rw [tdivL (x:=(Y:Int)) (y:=4) (a:=Y) (b:=4) rfl rfl,tdivL (x:=(Y:Int)) (y:=100) (a:=Y) (b:=100) rfl rfl,tdivL (x:=(Y:Int)) (y:=400) (a:=Y) (b:=400) rfl rfl]
  rw [wr (x:=153*(p:Int)) (by omega) (by omega),wr (x:=153*(p:Int)+2) (by omega) (by omega),tdivL (x:=153*(p:Int)+2) (y:=5) (a:=153*p+2) (b:=5) (by omega) rfl]
  have h4:Y / 100≤365*Y:=by omega
  generalize h5:Y / 4=Y4 at *
  generalize h6:Y / 100=Y1 at *
  generalize h7:Y / 400=Y0 at *
  generalize h8:(153*p+2) / 5=pp at *
  have l4:Y4≤20000:=by omega
  have l1:Y1≤20000:=by omega
  have l0:Y0≤20000:=by omega
  have lp:pp≤1000:=by omega
  rw [wr (x:=365*(Y:Int)) (by omega) (by omega),wr (x:=(Y4:Int)) (by omega) (by omega),wr (x:=(Y1:Int)) (by omega) (by omega),wr (x:=(Y0:Int)) (by omega) (by omega),wr (x:=(pp:Int)) (by omega) (by omega)]
  rw [wr (x:=365*(Y:Int)+Y4) (by omega) (by omega),wr (x:=365*(Y:Int)+Y4 - Y1) (by omega) (by omega),wr (x:=365*(Y:Int)+Y4 - Y1+Y0) (by omega) (by omega),wr (x:=365*(Y:Int)+Y4 - Y1+Y0+pp) (by omega) (by omega)]
  rw [wr (x:=365*(Y:Int)+Y4 - Y1+Y0+pp+1) (by omega) (by omega),wr (by omega) (by omega)]
  omega
 have t1:IntKind.i64.wrap ((m:Int) - 3)=(m:Int) - 3:=wr (by omega) (by omega)
 by_cases g:m<3
 ·have R:=run (y - 1) (m+9) (by omega) (by omega)
  have e:aheadN y m=365*(y - 1)+(y - 1) / 4 - (y - 1) / 100+(y - 1) / 400+(153*(m+9)+2) / 5:=by unfold aheadN;rw [if_pos g]
  rw [e,←R]
  have g':(m:Int) - 3<0:=by omega
  have t2:IntKind.i64.wrap ((y:Int) - 1)=(y - 1:Nat):=by rw [wr]<;>omega
  have t3:IntKind.i64.wrap ((m:Int) - 3+12)=(m+9:Nat):=by rw [wr]<;>omega
  clear R run e
  generalize ((y - 1:Nat):Int)=Y at *
  generalize ((m+9:Nat):Int)=p at *
  simp -implicitDefEqProofs [c220]
  simp only [t1]
  simp -implicitDefEqProofs [g']
  simp only [t1,t2,t3]
 ·have R:=run y (m - 3) (by omega) (by omega)
  have e:aheadN y m=365*y+y / 4 - y / 100+y / 400+(153*(m - 3)+2) / 5:=by unfold aheadN;rw [if_neg g]
  rw [e,←R]
  have g': ¬((m:Int) - 3<0):=by omega
  have t3:(m:Int) - 3=(m - 3:Nat):=by omega
  clear R run e
  rw [t3] at t1 g'
  simp -implicitDefEqProofs [c220]
  rw [t3]
  simp only [t1]
  simp -implicitDefEqProofs [g']
open Go.Proofs
theorem epoch_spec:Sp Tryz.prog gl 219 [] (i6 719468):=by
 refine s219 rfl rfl ?_
 have A:=cahead_spec 1970 1 (by omega) (by omega) (by omega) (by omega)
 rw [epochN] at A
 simp -implicitDefEqProofs [c219]
 refine onC_mk _ A ?_
 simp -implicitDefEqProofs
def stN (y m:Nat):Nat:=if 12<m then aheadN (y+1) (m - 12) else aheadN y m
theorem ahead_ge {y m:Nat} (hy:1970≤y) (h1:1≤m) (h2:m≤12):719468≤aheadN y m:=by
 have e1:=ahead_years 1970 (by omega) (y - 1970)
 rw [epochN,show 1970+(y - 1970)=y by omega] at e1
 have e2:=(ahead_le_year y (by omega) m h1 h2).1
 exact Nat.le_trans (Nat.le_trans (Nat.le_add_right _ _) e1) e2
theorem stN_ge {y m:Nat} (hy:1970≤y) (h1:1≤m) (h2:m≤15):719468≤stN y m:=by
 unfold stN
 split
 ·exact ahead_ge (by omega) (by omega) (by omega)
 ·exact ahead_ge hy h1 (by omega)
theorem stN_lt {y m:Nat} (hy:y≤19999) (h1:1≤m) (h2:m≤15):stN y m≤10000000:=by
 unfold stN
 split
 ·exact ahead_lt (by omega) (by omega) (by omega)
 ·exact ahead_lt (by omega) h1 (by omega)
theorem start_spec (y m:Nat) (hy1:1970≤y) (hy:y≤19999) (h1:1≤m) (h2:m≤15):Sp Tryz.prog gl 209 [i6 y,i6 m] (i6 (86400*(stN y m - 719468):Nat)):=by
 refine s209 rfl rfl ?_
 have E:=epoch_spec
 have ge:=stN_ge hy1 h1 h2
 have lt:=stN_lt hy h1 h2
 have w1:IntKind.i64.wrap ((stN y m:Int) - 719468)=(stN y m:Int) - 719468:=wr (by omega) (by omega)
 have w2:IntKind.i64.wrap (((stN y m:Int) - 719468)*86400)=(86400*(stN y m - 719468):Nat):=by rw [wr]<;>omega
 by_cases g:12<m
 ·have g':(12:Int)<m:=by omega
  have A:=cahead_spec (y+1) (m - 12) (by omega) (by omega) (by omega) (by omega)
  have e:stN y m=aheadN (y+1) (m - 12):=by unfold stN;rw [if_pos g]
  rw [←e] at A
  have t1:IntKind.i64.wrap ((y:Int)+1)=(y+1:Nat):=by rw [wr]<;>omega
  have t2:IntKind.i64.wrap ((m:Int) - 12)=(m - 12:Nat):=by rw [wr]<;>omega
  clear e
  generalize ((86400*(stN y m - 719468):Nat):Int)=V at *
  generalize ((stN y m:Nat):Int)=S at *
  generalize ((y+1:Nat):Int)=Y at *
  generalize ((m - 12:Nat):Int)=M at *
  simp -implicitDefEqProofs [c209,g,g']
  simp only [t1,t2]
  refine onC_mk _ A ?_
  simp -implicitDefEqProofs
  refine onC_mk _ E ?_
  simp -implicitDefEqProofs
  simp only [w1,w2]
 ·have g': ¬(12:Int)<m:=by omega
  have A:=cahead_spec y m (by omega) (by omega) h1 (by omega)
  have e:stN y m=aheadN y m:=by unfold stN;rw [if_neg g]
  rw [←e] at A
  clear e
  generalize ((86400*(stN y m - 719468):Nat):Int)=V at *
  generalize ((stN y m:Nat):Int)=S at *
  simp -implicitDefEqProofs [c209,g,g']
  refine onC_mk _ A ?_
  simp -implicitDefEqProofs
  refine onC_mk _ E ?_
  simp -implicitDefEqProofs
  simp only [w1,w2]
def dayN (n:Nat):Nat:=rest2N n+1 - (153*moN n+2) / 5
theorem cat_spec (t:Nat) (ht:t≤253402300799):Sp Tryz.prog gl 208 [i6 t] (.tup [.agg [i6 (yearN (t / 86400+719468)),i6 (monthN (t / 86400+719468)),i6 (dayN (t / 86400+719468))],i6 0]):=by
 refine s208 rfl rfl ?_
 have E:=epoch_spec
 have c1: ¬((253402300799:Int)<t):=by omega
 have c1': ¬(253402300799<t):=by omega
 have c0: ¬((t:Int)<0):=by omega
 have e1:=tdivL (x:=(t:Int)) (y:=86400) (a:=t) (b:=86400) rfl rfl
 have f1:(t:Int) / 86400=(t / 86400:Nat):=by omega
 have Tl:t / 86400≤2932896:=by omega
 generalize t / 86400=T at *
 have w1:IntKind.i64.wrap (T:Int)=T:=wr (by omega) (by omega)
 have w2:IntKind.i64.wrap ((T:Int)+719468)=(T+719468:Nat):=by rw [wr]<;>omega
 generalize hn:T+719468=n at *
 have nl:n≤3652364:=by omega
 have hc:cenN n=(4*n+3) / 146097:=rfl
 have hr:restN n=n - 146097*cenN n / 4:=rfl
 have hy:yrN n=(4*restN n+3) / 1461:=rfl
 have hr2:rest2N n=restN n - 1461*yrN n / 4:=rfl
 have hm:moN n=(5*rest2N n+2) / 153:=rfl
 have hd:dayN n=rest2N n+1 - (153*moN n+2) / 5:=rfl
 have hY:yearN n=if 9<moN n then 100*cenN n+yrN n+1 else 100*cenN n+yrN n:=rfl
 have hM:monthN n=if 9<moN n then moN n - 9 else moN n+3:=rfl
 have r1:=rest_le n
 have r2:=yr_le n
 have r3:=mo_le n
 generalize cenN n=c at *
 generalize restN n=r at *
 generalize yrN n=y at *
 generalize rest2N n=q at *
 generalize moN n=m at *
 generalize dayN n=D at *
 generalize yearN n=Y at *
 generalize monthN n=M at *
 have cl:c≤100:=by omega
 have yl:y≤99:=by omega
 have k1:146097*c / 4≤n:=r1.1
 have k2:1461*y / 4≤r:=r2.2.1
 have k3:(153*m+2) / 5≤q:=by omega
 have w3:IntKind.i64.wrap (4*(n:Int))=4*(n:Int):=wr (by omega) (by omega)
 have w4:IntKind.i64.wrap (4*(n:Int)+3)=4*(n:Int)+3:=wr (by omega) (by omega)
 have e2:(4*(n:Int)+3).tdiv 146097=(c:Int):=(tdivL (x:=4*(n:Int)+3) (y:=146097) (a:=4*n+3) (b:=146097) (by omega) rfl).trans (by rw [←hc])
 have w5:IntKind.i64.wrap (c:Int)=c:=wr (by omega) (by omega)
 have w6:IntKind.i64.wrap (146097*(c:Int))=146097*(c:Int):=wr (by omega) (by omega)
 have e3:(146097*(c:Int)).tdiv 4=(146097*c / 4:Nat):=tdivL (x:=146097*(c:Int)) (y:=4) (a:=146097*c) (b:=4) (by omega) rfl
 have w7:IntKind.i64.wrap ((146097*c / 4:Nat):Int)=(146097*c / 4:Nat):=wr (by omega) (by omega)
 have w8:IntKind.i64.wrap ((n:Int) - (146097*c / 4:Nat))=(r:Int):=by rw [wr]<;>omega
 have w9:IntKind.i64.wrap (4*(r:Int))=4*(r:Int):=wr (by omega) (by omega)
 have w10:IntKind.i64.wrap (4*(r:Int)+3)=4*(r:Int)+3:=wr (by omega) (by omega)
 have e4:(4*(r:Int)+3).tdiv 1461=(y:Int):=(tdivL (x:=4*(r:Int)+3) (y:=1461) (a:=4*r+3) (b:=1461) (by omega) rfl).trans (by rw [←hy])
 have w11:IntKind.i64.wrap (y:Int)=y:=wr (by omega) (by omega)
 have w12:IntKind.i64.wrap (1461*(y:Int))=1461*(y:Int):=wr (by omega) (by omega)
 have e5:(1461*(y:Int)).tdiv 4=(1461*y / 4:Nat):=tdivL (x:=1461*(y:Int)) (y:=4) (a:=1461*y) (b:=4) (by omega) rfl
 have w13:IntKind.i64.wrap ((1461*y / 4:Nat):Int)=(1461*y / 4:Nat):=wr (by omega) (by omega)
 have w14:IntKind.i64.wrap ((r:Int) - (1461*y / 4:Nat))=(q:Int):=by rw [wr]<;>omega
 have w15:IntKind.i64.wrap (5*(q:Int))=5*(q:Int):=wr (by omega) (by omega)
 have w16:IntKind.i64.wrap (5*(q:Int)+2)=5*(q:Int)+2:=wr (by omega) (by omega)
 have e6:(5*(q:Int)+2).tdiv 153=(m:Int):=(tdivL (x:=5*(q:Int)+2) (y:=153) (a:=5*q+2) (b:=153) (by omega) rfl).trans (by rw [←hm])
 have w17:IntKind.i64.wrap (m:Int)=m:=wr (by omega) (by omega)
 have w18:IntKind.i64.wrap (100*(c:Int))=100*(c:Int):=wr (by omega) (by omega)
 have w19:IntKind.i64.wrap (100*(c:Int)+y)=100*(c:Int)+y:=wr (by omega) (by omega)
 have w20:IntKind.i64.wrap ((m:Int)+3)=(m:Int)+3:=wr (by omega) (by omega)
 have w21:IntKind.i64.wrap (153*(m:Int))=153*(m:Int):=wr (by omega) (by omega)
 have w22:IntKind.i64.wrap (153*(m:Int)+2)=153*(m:Int)+2:=wr (by omega) (by omega)
 have e7:(153*(m:Int)+2).tdiv 5=((153*m+2) / 5:Nat):=tdivL (x:=153*(m:Int)+2) (y:=5) (a:=153*m+2) (b:=5) (by omega) rfl
 have w23:IntKind.i64.wrap (((153*m+2) / 5:Nat):Int)=((153*m+2) / 5:Nat):=wr (by omega) (by omega)
 have w24:IntKind.i64.wrap ((q:Int) - ((153*m+2) / 5:Nat))=(q:Int) - ((153*m+2) / 5:Nat):=wr (by omega) (by omega)
 have w25:IntKind.i64.wrap ((q:Int) - ((153*m+2) / 5:Nat)+1)=(D:Int):=by rw [wr]<;>omega
 clear hc hr hy hr2 hm hd r1 r2 k1 k2 k3
 generalize ((146097*c / 4:Nat):Int)=x1 at *
 generalize ((1461*y / 4:Nat):Int)=x2 at *
 generalize (((153*m+2) / 5:Nat):Int)=x3 at *
 simp -implicitDefEqProofs [c208,c0,c1,c1']
 try simp only [e1,w1]
 try simp only [f1,w1]
 refine onC_mk _ E ?_
 simp -implicitDefEqProofs
 simp only [w2,w3,w4,e2,w5,w6,e3,w7,w8,w9,w10,e4,w11,w12,e5,w13,w14,w15,w16,e6,w17,w18,w19,w20,w21,w22,e7,w23,w24,w25]
 by_cases g:9<m
 ·have g':(12:Int)<(m:Int)+3:=by omega
  rw [if_pos g] at hY hM
  have w26:IntKind.i64.wrap (100*(c:Int)+y+1)=(Y:Int):=by rw [wr]<;>omega
  have w27:IntKind.i64.wrap ((m:Int)+3 - 12)=(M:Int):=by rw [wr]<;>omega
  clear hY hM
  generalize (m:Int)+3=m3 at *
  generalize 100*(c:Int)+(y:Int)=cy at *
  simp -implicitDefEqProofs [g']
  simp only [w26,w27]
  trivial
 ·have g': ¬(12:Int)<(m:Int)+3:=by omega
  rw [if_neg g] at hY hM
  have hY':100*(c:Int)+(y:Int)=(Y:Int):=by omega
  have hM':(m:Int)+3=(M:Int):=by omega
  clear hY hM
  generalize (m:Int)+3=m3 at *
  generalize 100*(c:Int)+(y:Int)=cy at *
  subst hY' hM'
  simp -implicitDefEqProofs [g']
open Go.Proofs
theorem at_ok (n:Nat) (h:719468≤n) (h2:n≤3652364):1970≤yearN n∧yearN n≤10100∧1≤monthN n∧monthN n≤12∧aheadN (yearN n) (monthN n)≤n∧n<aheadN (yearN n) (monthN n)+dimN (yearN n) (monthN n):=by
 have r1:=rest_le n
 have r2:=yr_le n
 have c1:cenN n≤100:=by unfold cenN;omega
 have h0:1≤100*cenN n+yrN n:=by unfold cenN at *;omega
 obtain ⟨m1,m2,m3,m4⟩:=ahead_in n h0
 have yl:yearN n≤10100:=by unfold yearN;split<;>omega
 refine ⟨?_,yl,m1,m2,m3,m4⟩
 rcases Nat.lt_or_ge (yearN n) 1970 with hy|hy
 ·exfalso
  have y1:1≤yearN n:=by unfold yearN;split<;>omega
  obtain ⟨s1,s2⟩:=startK_at (y:=yearN n) m1 m2
  have nx:=startK_next (12*yearN n+(monthN n - 1)) (by omega)
  have le:=startK_le (12*yearN n+(monthN n - 1)+1) (by omega) (23640 - (12*yearN n+(monthN n - 1)+1))
  have e:12*yearN n+(monthN n - 1)+1+(23640 - (12*yearN n+(monthN n - 1)+1))=23640:=by omega
  rw [e] at le
  have e2:startK 23640=719468:=by decide
  omega
 ·exact hy
def dayOf (t:Nat):Nat:=t / 86400+719468
def fstM (s n:Nat):Nat:=monthN n - (monthN n - 1)%s
def perF (s t:Nat):Nat:=86400*(stN (yearN (dayOf t)) (fstM s (dayOf t)) - 719468)
def perT (s t:Nat):Nat:=86400*(stN (yearN (dayOf t)) (fstM s (dayOf t)+s) - 719468)
theorem fstM_ok {s n:Nat} (hs:s=1∨s=3) (h1:1≤monthN n) (h2:monthN n≤12):1≤fstM s n∧fstM s n≤monthN n∧monthN n<fstM s n+s∧fstM s n+s≤13:=by
 unfold fstM
 rcases hs with rfl|rfl<;>omega
theorem cperiod_spec (s t:Nat) (hs:s=1∨s=3) (ht:t≤253402300799):Sp Tryz.prog gl 181 [i6 t,i6 s] (.tup [i6 (perF s t),i6 (perT s t),i6 0]):=by
 refine s181 rfl rfl ?_
 have A:=cat_spec t ht
 have hn:=at_ok (dayOf t) (by unfold dayOf;omega) (by unfold dayOf;omega)
 unfold perF perT
 have e0:t / 86400+719468=dayOf t:=rfl
 rw [e0] at A
 obtain ⟨y1,y2,m1,m2,-,-⟩:=hn
 have f:=fstM_ok (n:=dayOf t) hs m1 m2
 have S1:=start_spec (yearN (dayOf t)) (fstM s (dayOf t)) (by omega) (by omega) (by omega) (by omega)
 have S2:=start_spec (yearN (dayOf t)) (fstM s (dayOf t)+s) (by omega) (by omega) (by omega) (by omega)
 have ef:(((monthN (dayOf t):Nat):Int) - (((monthN (dayOf t):Nat):Int) - 1).tmod s)=(fstM s (dayOf t):Nat):=by
  rw [tmodL (x:=((monthN (dayOf t):Nat):Int) - 1) (y:=(s:Int)) (a:=monthN (dayOf t) - 1) (b:=s) (by omega) rfl]
  have:(monthN (dayOf t) - 1)%s≤monthN (dayOf t) - 1:=Nat.mod_le _ _
  unfold fstM
  omega
 have mb:((((monthN (dayOf t):Nat):Int) - 1).tmod s)≤12∧0≤((((monthN (dayOf t):Nat):Int) - 1).tmod s):=by
  rw [tmodL (x:=((monthN (dayOf t):Nat):Int) - 1) (y:=(s:Int)) (a:=monthN (dayOf t) - 1) (b:=s) (by omega) rfl]
  have:(monthN (dayOf t) - 1)%s≤monthN (dayOf t) - 1:=Nat.mod_le _ _
  omega
 have s0: ¬((s:Int)=0):=by omega
 have s0': ¬(s=0):=by omega
 generalize fstM s (dayOf t)=F at *
 clear e0
 generalize yearN (dayOf t)=Y at *
 generalize monthN (dayOf t)=M at *
 generalize dayN (dayOf t)=D at *
 obtain ⟨V1,hV1⟩: ∃V,V=86400*(stN Y F - 719468):=⟨_,rfl⟩
 obtain ⟨V2,hV2⟩: ∃V,V=86400*(stN Y (F+s) - 719468):=⟨_,rfl⟩
 rw [←hV1] at S1 ⊢
 rw [←hV2] at S2 ⊢
 clear hV1 hV2
 have w1:IntKind.i64.wrap ((M:Int) - 1)=(M:Int) - 1:=wr (by omega) (by omega)
 have w3:IntKind.i64.wrap ((M:Int) - ((M:Int) - 1).tmod s)=(F:Int):=by rw [ef];exact wr (by omega) (by omega)
 have w4:IntKind.i64.wrap ((F:Int)+s)=(F+s:Nat):=by rw [wr]<;>omega
 generalize ((F+s:Nat):Int)=F2 at *
 clear ef mb
 generalize hq:((M:Int) - 1).tmod s=q at *
 simp -implicitDefEqProofs [c181]
 refine onC_mk _ A ?_
 simp -implicitDefEqProofs [s0,s0']
 simp only [w1,hq,w3,w4]
 refine onC_mk _ S1 ?_
 simp -implicitDefEqProofs [s0,s0']
 try simp only [w1,hq,w3,w4]
 refine onC_mk _ S2 ?_
 simp -implicitDefEqProofs
theorem cmonth_spec (t:Nat) (ht:t≤253402300799):Sp Tryz.prog gl 139 [i6 t] (.tup [i6 (perF 1 t),i6 (perT 1 t),i6 0]):=by
 refine s139 rfl rfl ?_
 have A:=cperiod_spec 1 t (.inl rfl) ht
 simp -implicitDefEqProofs [c139]
 refine onC_mk _ A ?_
 simp -implicitDefEqProofs
theorem cquarter_spec (t:Nat) (ht:t≤253402300799):Sp Tryz.prog gl 140 [i6 t] (.tup [i6 (perF 3 t),i6 (perT 3 t),i6 0]):=by
 refine s140 rfl rfl ?_
 have A:=cperiod_spec 3 t (.inr rfl) ht
 simp -implicitDefEqProofs [c140]
 refine onC_mk _ A ?_
 simp -implicitDefEqProofs
open Go.Proofs
theorem w64_1:IntKind.i64.wrap 1=1:=by decide
open Go.Proofs
end Go.Ai
namespace Go.Ai
open Go.Proofs
end Go.Ai
