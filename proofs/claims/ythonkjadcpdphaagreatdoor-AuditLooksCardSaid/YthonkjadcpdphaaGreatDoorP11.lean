/- P11: a part of the proof: the rules, or what functions compute. Conditions: as each theorem says. -/
import Derived.Test.YthonkjadcpdphaaGreatDoorP10
import Derived.Test.YthonkjadcpdphaaGreatDoorP9
set_option linter.unusedSimpArgs false
set_option linter.unusedVariables false
set_option maxRecDepth 20000
namespace Go.Ai
open Go.Proofs
def Gl.zero:Gl:=⟨[],0,0,0,0,0,[],[]⟩
open Go.Proofs
theorem equal_spec (a b:List Int) (ha:a.length≤1000000) (hb:b.length≤1000000):Sp Tryz.prog gl 144 [.sl (intRows a),.sl (intRows b)] (.bool (decide (a=b))):=by
 refine s144 rfl rfl ?_
 have al:=intRows_len a
 have bl:=intRows_len b
 have aat:=intRows_at a
 have bat:=intRows_at b
 obtain ⟨R,hR⟩: ∃R,R=decide (a=b):=⟨_,rfl⟩
 rw [←hR]
 generalize intRows a=A at *
 generalize intRows b=B at *
 by_cases hl:a.length=b.length
 ·have hl':((a.length:Int)!=(b.length:Int))=false:=by simp [hl]
  simp -implicitDefEqProofs [c144,al,bl,hl,hl']
  refine wp_lpk (α:=Nat) (fun i=>⟨[(0,.sl A),(1,.sl B),(12,i6 b.length),(13,i6 i)],[],[]⟩) (fun i=>i≤a.length∧decide (a.drop i=b.drop i)=R) (fun i=>a.length - i) ?_ 0 ?_ ?_
  ·rintro K i hK ⟨h1,h2⟩
   by_cases g:i<a.length
   ·have t1:IntKind.i64.wrap ((i:Int)+1)=(i+1:Nat):=by rw [wrap_i64]<;>omega
    have g2:i<b.length:=by omega
    have gA:i<A.length:=by omega
    have gB:i<B.length:=by omega
    have ra:=aat i g
    have rb:=bat i g2
    rw [List.drop_eq_getElem_cons g,List.drop_eq_getElem_cons g2] at h2
    have fin:a[i]=b[i]→ ∀σ',Weak σ' ⟨[(0,.sl A),(1,.sl B),(12,i6 b.length),(13,i6 (i+1:Nat))],[],[]⟩→K σ':=fun he σ' hσ=>hK (i+1) σ' ⟨by omega,by rw [←h2,he,Bool.eq_iff_iff];simp only [decide_eq_true_eq,List.cons.injEq,true_and]⟩ (by omega) hσ
    clear hK aat bat
    generalize a[i]=x at *
    generalize b[i]=y at *
    by_cases he:x=y
    ·subst he
     have fin:=fin rfl
     have e:(x !=x)=false:=by simp
     simp -implicitDefEqProofs [g,g2,gA,gB,ra,rb,al,bl,e]
     refine fin _ ?_
     refine weak_mk ?_ ?_ ?_ ?_ ?_ ?_<;>simp -implicitDefEqProofs [t1]
    ·have e:(x !=y)=true:=by simpa using he
     have:R=false:=by rw [←h2];simp [he]
     subst this
     simp -implicitDefEqProofs [g,g2,gA,gB,ra,rb,al,bl,e]
   ·obtain rfl:i=a.length:=by omega
    have:R=true:=by rw [←h2,List.drop_eq_nil_of_le (by omega),List.drop_eq_nil_of_le (by omega)];rfl
    subst this
    simp -implicitDefEqProofs [al,hl]
  ·exact ⟨Nat.zero_le _,by simp [hR]⟩
  ·refine weak_mk ?_ ?_ ?_ ?_ ?_ ?_<;>simp -implicitDefEqProofs
 ·have hl':((a.length:Int)!=(b.length:Int))=true:=by simp;omega
  have:R=false:=by rw [hR];simp;intro e;exact hl (congrArg List.length e)
  subst this
  simp -implicitDefEqProofs [c144,al,bl,hl,hl']
theorem cu_len (a:Array Int): ∀m,(Lib.compactUpTo a m).length≤m
 |0=>by simp [Lib.compactUpTo]
 |m+1=>by
  rw [Lib.compactUpTo_succ]
  have:=cu_len a m
  split<;>simp<;>omega
theorem winP_len (x:Gl):(winP x).length≤2*x.ru.length+1:=by
 have e:winP x=Lib.compactUpTo (sortI (allW x)).toArray (sortI (allW x)).length:=rfl
 have h1:=cu_len (sortI (allW x)).toArray (sortI (allW x)).length
 have h2:(sortI (allW x)).length=(allW x).length:=(List.mergeSort_perm _ _).length_eq
 have h3:=allW_len x
 rw [e];omega
open Go.Proofs
theorem windowsOf_spec (x:GV) (hl:x.g.ru.length≤10) (hw:x.ws.length≤100000) (hp:(winP x.g).length≤1000000):Sp Tryz.prog gl 87 [.agg x.row] (.bool (windowsF x)):=by
 refine s87 rfl rfl ?_
 have hlim:lim=140737488355328:=rfl
 have RW:=win_spec x.g hl
 obtain ⟨R,hR⟩: ∃R,R=windowsF x:=⟨_,rfl⟩
 rw [←hR]
 unfold windowsF at hR
 have EQ:=equal_spec (x.ws.map WV.w) (winP x.g) (by simp;omega) hp
 have rl:(x.ws.map WV.row).length=x.ws.length:=by simp
 have rat:=wv_at x.ws
 have e1:List.take 8 x.row=x.g.row:=rfl
 have e9: ∀h:9<x.row.length,x.row[9]= .sl (x.ws.map WV.row):=fun _=>rfl
 have el:x.row.length=15:=rfl
 have e0:idsL x.row=[]:=rfl
 have es:shutL x.row=some x.row:=rfl
 have g0:idsL x.g.row=[]:=rfl
 have gL:x.g.row.length=8:=rfl
 have gs:shutL x.g.row=some x.g.row:=rfl
 generalize x.g.row=GR at *
 generalize x.row=M at *
 generalize winP x.g=W at *
 generalize x.ws.map WV.row=WR at *
 simp -implicitDefEqProofs [c87,e1,e9,el,e0,es,g0,gL,gs,rl]
 refine wp_lpk (α:=Nat) (fun i=>⟨[(1,.ptr (.n 1) 0),(3,.sl (intRows ((x.ws.take i).map WV.w))),(7,.sl WR),(8,i6 x.ws.length),(9,i6 i)],[(.n 1,M)],[(.s 3,1)]⟩)
  (fun i=>i≤x.ws.length∧((x.ws.drop i).all (fun w=>ctB w.g w.n)&&decide (x.ws.map WV.w=W))=R) (fun i=>x.ws.length - i) ?_ 0 ?_ ?_
 ·rintro K i hK ⟨h1,h2⟩
  by_cases g:i<x.ws.length
  ·have t1:IntKind.i64.wrap ((i:Int)+1)=(i+1:Nat):=by rw [wrap_i64]<;>omega
   have gW:i<WR.length:=by omega
   have ra:=rat i g gW
   rw [List.drop_eq_getElem_cons g,List.all_cons] at h2
   have CT:=acount_spec x.ws[i].g x.ws[i].n
   have tk:intRows ((x.ws.take (i+1)).map WV.w)=intRows ((x.ws.take i).map WV.w)++[[i6 x.ws[i].w]]:=by
    rw [List.take_succ_eq_append_getElem g,List.map_append];simp [intRows]
   have fin:((x.ws.drop (i+1)).all (fun w=>ctB w.g w.n)&&decide (x.ws.map WV.w=W))=R→
     ∀σ',Weak σ' ⟨[(1,.ptr (.n 1) 0),(3,.sl (intRows ((x.ws.take (i+1)).map WV.w))),(7,.sl WR),(8,i6 x.ws.length),(9,i6 (i+1:Nat))],[(.n 1,M)],[(.s 3,1)]⟩→K σ':=
    fun hh σ' hσ=>hK (i+1) σ' ⟨by omega,hh⟩ (by omega) hσ
   rw [tk] at fin
   have r1:=intRows_one ((x.ws.take i).map WV.w)
   have hlen:(intRows ((x.ws.take i).map WV.w)).length=i:=by simp [intRows];omega
   have hww:((intRows ((x.ws.take i).map WV.w)).length+1)*8≤140737488355328:=by omega
   clear hK hR rat tk EQ
   generalize intRows ((x.ws.take i).map WV.w)=IR at *
   generalize ((x.ws.drop (i+1)).all (fun w=>ctB w.g w.n))=al at *
   generalize decide (x.ws.map WV.w=W)=dd at *
   generalize x.ws[i]=v at *
   generalize ctB v.g v.n=cb at *
   cases cb
   ·simp at h2
    subst h2
    simp -implicitDefEqProofs [g,gW,ra,rl,e9,el,e0]
    refine onC_mk _ (CT) ?_
    simp -implicitDefEqProofs
   ·simp only [Bool.true_and] at h2
    have fin:=fin h2
    simp -implicitDefEqProofs [g,gW,ra,rl,e9,el,e0]
    refine onC_mk _ (CT) ?_
    simp -implicitDefEqProofs [hlim]
    refine ⟨hww,r1,?_⟩
    refine fin _ ?_
    refine weak_mk ?_ ?_ ?_ ?_ ?_ ?_<;>simp -implicitDefEqProofs [t1,e0]
  ·obtain rfl:i=x.ws.length:=by omega
   rw [List.drop_length] at h2
   simp only [List.all_nil,Bool.true_and] at h2
   rw [List.take_length] at *
   rw [h2] at EQ
   clear hK h2
   generalize intRows (x.ws.map WV.w)=IR at *
   simp -implicitDefEqProofs [e1,el,e0,g0,gL,gs]
   refine onC_mk _ (RW) ?_
   simp -implicitDefEqProofs
   refine onC_mk _ (EQ) ?_
   simp -implicitDefEqProofs
 ·exact ⟨Nat.zero_le _,by rw [List.drop_zero];exact hR.symm⟩
 ·refine weak_mk ?_ ?_ ?_ ?_ ?_ ?_<;>simp -implicitDefEqProofs [e0,intRows,rl]
open Go.Proofs
theorem rleap_spec (y:Nat):Sp Tryz.prog gl 209 [i6 y] (.bool (leapN y)):=by
 refine s209 rfl rfl ?_
 have m1:=tmodL (x:=(y:Int)) (y:=400) (a:=y) (b:=400) rfl rfl
 have m2:=tmodL (x:=(y:Int)) (y:=4) (a:=y) (b:=4) rfl rfl
 have m3:=tmodL (x:=(y:Int)) (y:=100) (a:=y) (b:=100) rfl rfl
 have n1:(y:Int)%400=(y%400:Nat):=by omega
 have n2:(y:Int)%4=(y%4:Nat):=by omega
 have n3:(y:Int)%100=(y%100:Nat):=by omega
 unfold leapN
 generalize y%400=a at *
 generalize y%4=b at *
 generalize y%100=c at *
 by_cases g1:a=0
 ·subst g1
  simp -implicitDefEqProofs [c209,m1,n1]
  try simp
 ·have g1':((a:Int)==0)=false:=by rw [beq_eq_false_iff_ne];omega
  by_cases g2:b=0
  ·subst g2
   by_cases g3:c=0
   ·subst g3
    simp -implicitDefEqProofs [c209,m1,n1,m2,n2,m3,n3,g1,g1']
    try simp [g1]
   ·have g3':((c:Int)==0)=false:=by rw [beq_eq_false_iff_ne];omega
    simp -implicitDefEqProofs [c209,m1,n1,m2,n2,m3,n3,g1,g1',g3,g3']
    try simp [g1,g3]
  ·have g2':((b:Int)==0)=false:=by rw [beq_eq_false_iff_ne];omega
   simp -implicitDefEqProofs [c209,m1,n1,m2,n2,m3,n3,g1,g1',g2,g2']
   try simp [g1,g2]
theorem ryear_spec (y:Nat):Sp Tryz.prog gl 208 [i6 y] (i6 (diyN y)):=by
 refine s208 rfl rfl ?_
 have L:=rleap_spec y
 unfold diyN
 cases h:leapN y<;>rw [h] at L<;>(simp -implicitDefEqProofs [c208];refine onC_mk _ L ?_;simp -implicitDefEqProofs)
theorem w64_0:IntKind.i64.wrap 0=0:=by decide
theorem w64_1:IntKind.i64.wrap 1=1:=by decide
theorem w64_2:IntKind.i64.wrap 2=2:=by decide
theorem w64_3:IntKind.i64.wrap 3=3:=by decide
theorem w64_4:IntKind.i64.wrap 4=4:=by decide
theorem w64_5:IntKind.i64.wrap 5=5:=by decide
theorem w64_6:IntKind.i64.wrap 6=6:=by decide
theorem w64_7:IntKind.i64.wrap 7=7:=by decide
theorem w64_8:IntKind.i64.wrap 8=8:=by decide
theorem w64_9:IntKind.i64.wrap 9=9:=by decide
theorem w64_10:IntKind.i64.wrap 10=10:=by decide
theorem w64_11:IntKind.i64.wrap 11=11:=by decide
theorem rdays_spec (y m:Nat) (h1:1≤m) (h2:m≤12):Sp Tryz.prog gl 159 [i6 y,i6 m] (i6 (dimN y m)):=by
 refine s159 rfl rfl ?_
 have L:=rleap_spec y
 have e2:m=2∨m≠2:=by omega
 rcases e2 with rfl|h3
 ·unfold dimN
  cases h:leapN y<;>rw [h] at L<;>(simp -implicitDefEqProofs [c159];refine onC_mk _ L ?_;simp -implicitDefEqProofs [w64_0,w64_1,w64_2,w64_3,w64_4,w64_5,w64_6,w64_7,w64_8,w64_9,w64_10,w64_11])
 ·have:m=1∨m=3∨m=4∨m=5∨m=6∨m=7∨m=8∨m=9∨m=10∨m=11∨m=12:=by omega
  rcases this with rfl|rfl|rfl|rfl|rfl|rfl|rfl|rfl|rfl|rfl|rfl<;>simp -implicitDefEqProofs [c159,dimN,w64_0,w64_1,w64_2,w64_3,w64_4,w64_5,w64_6,w64_7,w64_8,w64_9,w64_10,w64_11]
open Go.Proofs
theorem year_le {y n:Nat} (hy:1970≤y) (h:aheadN y 1≤n) (hn:n≤3652364):y≤12000:=by
 have e1:=ahead_years 1970 (by omega) (y - 1970)
 rw [epochN,show 1970+(y - 1970)=y by omega] at e1
 omega
theorem diyN_le (y:Nat):365≤diyN y∧diyN y≤366:=by unfold diyN;split<;>omega
set_option maxHeartbeats 1600000 in
theorem rat05_spec (t:Nat) (ht:t≤253402300799):Sp Tryz.prog gl 157 [i6 t] (.agg [i6 (yearN (dayOf t)),i6 (monthN (dayOf t)),i6 (dayOf t - aheadN (yearN (dayOf t)) (monthN (dayOf t))+1:Nat)]):=by
 refine s157 rfl rfl ?_
 obtain ⟨a1,a2,a3,a4,a5,a6⟩:=at_ok (dayOf t) (by unfold dayOf;omega) (by unfold dayOf;omega)
 have e1:=tdivL (x:=(t:Int)) (y:=86400) (a:=t) (b:=86400) rfl rfl
 have f1:(t:Int) / 86400=(t / 86400:Nat):=by omega
 have hn:t / 86400=dayOf t - aheadN 1970 1:=by rw [epochN];unfold dayOf;omega
 have h0:aheadN 1970 1≤dayOf t:=by rw [epochN];unfold dayOf;omega
 have h9:dayOf t≤3652364:=by unfold dayOf;omega
 generalize dayOf t=n at *
 have h00:(1970:Nat)≤1970:=Nat.le_refl _
 obtain ⟨y0,hy0⟩: ∃y0,y0=1970:=⟨_,rfl⟩
 have hy0':((1970:Int))=((y0:Nat):Int):=by rw [hy0];rfl
 rw [←hy0] at h0 hn h00
 rw [hn] at e1 f1
 have w0:IntKind.i64.wrap ((n - aheadN y0 1:Nat):Int)=(n - aheadN y0 1:Nat):=by
  generalize aheadN y0 1=a at *
  rw [wr]<;>omega
 have hy9:1970≤y0:=by omega
 clear hn h00 hy0
 simp -implicitDefEqProofs [c157]
 simp only [e1,f1,w0,hy0']
 refine wp_lpk (α:=Nat) (fun y=>⟨[(3,i6 (n - aheadN y 1:Nat)),(4,.ptr (.n 4) 0),(2,.ptr (.n 2) 0)],[(.n 4,[i6 y,i6 1,i6 0]),(.n 2,[i6 0,i6 0,i6 0])],[]⟩) (fun y=>1970≤y∧aheadN y 1≤n) (fun y=>20000 - y) ?_ y0 ?_ ?_
 ·rintro K y hK ⟨g1,g2⟩
  have yl:=year_le g1 g2 h9
  have Y:=ryear_spec y
  have nx:=ahead_year y (by omega)
  have dl:=diyN_le y
  by_cases g:diyN y≤n - aheadN y 1
  ·have g':((diyN y:Nat):Int)≤(n - aheadN y 1:Nat):=by omega
   have w1:IntKind.i64.wrap (((n - aheadN y 1:Nat):Int) - (diyN y:Nat))=(n - aheadN (y+1) 1:Nat):=by rw [wr]<;>omega
   have w2:IntKind.i64.wrap ((y:Int)+1)=(y+1:Nat):=by rw [wr]<;>omega
   have fin: ∀σ',Weak σ' ⟨[(3,i6 (n - aheadN (y+1) 1:Nat)),(4,.ptr (.n 4) 0),(2,.ptr (.n 2) 0)],[(.n 4,[i6 (y+1:Nat),i6 1,i6 0]),(.n 2,[i6 0,i6 0,i6 0])],[]⟩→K σ':=
    fun σ' hσ=>hK (y+1) σ' ⟨by omega,by omega⟩ (by omega) hσ
   clear hK nx dl
   generalize ((n - aheadN (y+1) 1:Nat):Int)=N2 at *
   generalize ((y+1:Nat):Int)=y2 at *
   generalize n - aheadN y 1=N at *
   generalize diyN y=D at *
   simp -implicitDefEqProofs
   refine onC_mk _ Y ?_
   simp -implicitDefEqProofs [g,g']
   refine onC_mk _ Y ?_
   simp -implicitDefEqProofs
   simp only [w1,w2]
   refine fin _ ?_
   refine weak_mk ?_ ?_ ?_ ?_ ?_ ?_<;>simp -implicitDefEqProofs
  ·have g': ¬(((diyN y:Nat):Int)≤(n - aheadN y 1:Nat)):=by omega
   have lt:n<aheadN (y+1) 1:=by omega
   clear hK
   have key: ∀Q:AE→St→Prop,True:=fun _=>trivial
   have hD: ∀v,v=diyN y→True:=fun _ _=>trivial
   have Y':=Y
   generalize hN:n - aheadN y 1=N at *
   generalize diyN y=D at *
   simp -implicitDefEqProofs
   refine onC_mk _ Y ?_
   simp -implicitDefEqProofs [g,g']
   refine wp_lpk (α:=Nat) (fun m=>⟨[(3,i6 (n - aheadN y m:Nat)),(4,.ptr (.n 4) 0),(2,.ptr (.n 2) 0)],[(.n 4,[i6 y,i6 m,i6 0]),(.n 2,[i6 0,i6 0,i6 0])],[]⟩) (fun m=>1≤m∧m≤12∧aheadN y m≤n) (fun m=>20 - m) ?_ 1 ?_ ?_
   ·rintro K m hK ⟨k1,k2,k3⟩
    have M:=rdays_spec y m k1 k2
    have dm:=dimN_ge y m k1 k2
    by_cases k:dimN y m≤n - aheadN y m
    ·have k':((dimN y m:Nat):Int)≤(n - aheadN y m:Nat):=by omega
     have m11:m≤11:=by
      rcases Nat.lt_or_ge m 12 with h|h
      ·omega
      ·exfalso
       obtain rfl:m=12:=by omega
       have:=ahead_dec y
       have:=dim_dec y
       omega
     have nm:=ahead_month y m (by omega) k1 m11
     have w1:IntKind.i64.wrap (((n - aheadN y m:Nat):Int) - (dimN y m:Nat))=(n - aheadN y (m+1):Nat):=by rw [wr]<;>omega
     have w2:IntKind.i64.wrap ((m:Int)+1)=(m+1:Nat):=by rw [wr]<;>omega
     have fin: ∀σ',Weak σ' ⟨[(3,i6 (n - aheadN y (m+1):Nat)),(4,.ptr (.n 4) 0),(2,.ptr (.n 2) 0)],[(.n 4,[i6 y,i6 (m+1:Nat),i6 0]),(.n 2,[i6 0,i6 0,i6 0])],[]⟩→K σ':=
      fun σ' hσ=>hK (m+1) σ' ⟨by omega,by omega,by omega⟩ (by omega) hσ
     clear hK nm dm
     generalize ((n - aheadN y (m+1):Nat):Int)=N2 at *
     generalize ((m+1:Nat):Int)=m2 at *
     generalize n - aheadN y m=N1 at *
     generalize dimN y m=D1 at *
     simp -implicitDefEqProofs
     refine onC_mk _ M ?_
     simp -implicitDefEqProofs [k,k']
     refine onC_mk _ M ?_
     simp -implicitDefEqProofs
     simp only [w1,w2]
     refine fin _ ?_
     refine weak_mk ?_ ?_ ?_ ?_ ?_ ?_<;>simp -implicitDefEqProofs
    ·have k': ¬(((dimN y m:Nat):Int)≤(n - aheadN y m:Nat)):=by omega
     obtain ⟨u1,u2⟩:=month_uniq (y:=y) (m:=m) (y':=yearN n) (m':=monthN n) (n:=n) (by omega) k1 k2 (by omega) a3 a4 k3 (by omega) a5 a6
     have w1:IntKind.i64.wrap (((n - aheadN y m:Nat):Int)+1)=(n - aheadN y m+1:Nat):=by rw [wr]<;>omega
     rw [←u1,←u2]
     clear hK
     generalize n - aheadN y m=N1 at *
     generalize dimN y m=D1 at *
     simp -implicitDefEqProofs
     refine onC_mk _ M ?_
     simp -implicitDefEqProofs [k,k']
     simp only [w1]
     try simp -implicitDefEqProofs
   ·exact ⟨by omega,by omega,g2⟩
   ·refine weak_mk ?_ ?_ ?_ ?_ ?_ ?_<;>simp -implicitDefEqProofs [hN]
 ·exact ⟨hy9,h0⟩
 ·refine weak_mk ?_ ?_ ?_ ?_ ?_ ?_<;>simp -implicitDefEqProofs
open Go.Proofs
def offD (y m:Nat):Nat:=aheadN y m - 719468
set_option maxHeartbeats 1600000 in
theorem rtick05_spec (Y M:Nat) (hY:1970≤Y) (hY2:Y≤10100) (hM:1≤M) (hM2:M≤12):Sp Tryz.prog gl 158 [.agg [i6 Y,i6 M,i6 1]] (i6 (86400*(aheadN Y M - 719468):Nat)):=by
 refine s158 rfl rfl ?_
 have e0:offD 1970 1=0:=by unfold offD;rw [epochN]
 have hoff: ∀y m,offD y m=aheadN y m - 719468:=fun _ _=>rfl
 rw [←hoff]
 have ub:=fun y m (h1:y≤20000) (h2:1≤m) (h3:m≤12)=>ahead_lt (y:=y) (m:=m) h1 h2 h3
 have lb:=fun y m (h0:1970≤y) (h2:1≤m) (h3:m≤12)=>ahead_ge (y:=y) (m:=m) h0 h2 h3
 simp -implicitDefEqProofs [c158]
 refine wp_lpk (α:=Nat) (fun y=>⟨[(3,i6 (offD y 1:Nat)),(4,i6 y),(1,.ptr (.n 1) 0)],[(.n 1,[i6 Y,i6 M,i6 1])],[]⟩) (fun y=>1970≤y∧y≤Y) (fun y=>Y - y) ?_ 1970 ?_ ?_
 ·rintro K y hK ⟨g1,g2⟩
  by_cases g:y<Y
  ·have g':(y:Int)<Y:=by omega
   have A:=ryear_spec y
   have nx:=ahead_year y (by omega)
   have o1:=hoff y 1
   have o2:=hoff (y+1) 1
   have u1:=ub y 1 (by omega) (by omega) (by omega)
   have u2:=ub (y+1) 1 (by omega) (by omega) (by omega)
   have l1:=lb y 1 g1 (by omega) (by omega)
   have w1:IntKind.i64.wrap (((offD y 1:Nat):Int)+(diyN y:Nat))=(offD (y+1) 1:Nat):=by rw [wr]<;>omega
   have w2:IntKind.i64.wrap ((y:Int)+1)=(y+1:Nat):=by rw [wr]<;>omega
   have fin: ∀σ',Weak σ' ⟨[(3,i6 (offD (y+1) 1:Nat)),(4,i6 (y+1:Nat)),(1,.ptr (.n 1) 0)],[(.n 1,[i6 Y,i6 M,i6 1])],[]⟩→K σ':=
    fun σ' hσ=>hK (y+1) σ' ⟨by omega,by omega⟩ (by omega) hσ
   clear hK nx o1 o2 hoff u1 u2 l1 ub lb e0
   generalize ((offD (y+1) 1:Nat):Int)=N2 at *
   generalize ((offD y 1:Nat):Int)=N1 at *
   generalize ((y+1:Nat):Int)=y2 at *
   generalize diyN y=D at *
   simp -implicitDefEqProofs [g,g']
   refine onC_mk _ A ?_
   simp -implicitDefEqProofs
   simp only [w1,w2]
   refine fin _ ?_
   refine weak_mk ?_ ?_ ?_ ?_ ?_ ?_<;>simp -implicitDefEqProofs
  ·obtain rfl:y=Y:=by omega
   clear hK
   have g': ¬((y:Int)<y):=by omega
   simp -implicitDefEqProofs [g,g']
   refine wp_lpk (α:=Nat) (fun m=>⟨[(3,i6 (offD y m:Nat)),(5,i6 m),(1,.ptr (.n 1) 0)],[(.n 1,[i6 y,i6 M,i6 1])],[]⟩) (fun m=>1≤m∧m≤M) (fun m=>M - m) ?_ 1 ?_ ?_
   ·rintro K m hK ⟨k1,k2⟩
    have u1:=ub y m (by omega) (by omega) (by omega)
    have l1:=lb y m g1 (by omega) (by omega)
    by_cases k:m<M
    ·have k':(m:Int)<M:=by omega
     have A:=rdays_spec y m k1 (by omega)
     have nm:=ahead_month y m (by omega) k1 (by omega)
     have o1:=hoff y m
     have o2:=hoff y (m+1)
     have u2:=ub y (m+1) (by omega) (by omega) (by omega)
     have w1:IntKind.i64.wrap (((offD y m:Nat):Int)+(dimN y m:Nat))=(offD y (m+1):Nat):=by rw [wr]<;>omega
     have w2:IntKind.i64.wrap ((m:Int)+1)=(m+1:Nat):=by rw [wr]<;>omega
     have fin: ∀σ',Weak σ' ⟨[(3,i6 (offD y (m+1):Nat)),(5,i6 (m+1:Nat)),(1,.ptr (.n 1) 0)],[(.n 1,[i6 y,i6 M,i6 1])],[]⟩→K σ':=
      fun σ' hσ=>hK (m+1) σ' ⟨by omega,by omega⟩ (by omega) hσ
     clear hK nm o1 o2 hoff u1 u2 l1 ub lb e0
     generalize ((offD y (m+1):Nat):Int)=N2 at *
     generalize ((offD y m:Nat):Int)=N1 at *
     generalize ((m+1:Nat):Int)=y2 at *
     generalize dimN y m=D at *
     simp -implicitDefEqProofs [k,k']
     refine onC_mk _ A ?_
     simp -implicitDefEqProofs
     simp only [w1,w2]
     refine fin _ ?_
     refine weak_mk ?_ ?_ ?_ ?_ ?_ ?_<;>simp -implicitDefEqProofs
    ·obtain rfl:m=M:=by omega
     clear hK
     have k': ¬((m:Int)<m):=by omega
     have o1:=hoff y m
     have w0:IntKind.i64.wrap ((1:Int) - 1)=0:=by decide
     have w1:IntKind.i64.wrap ((offD y m:Nat):Int)=(offD y m:Nat):=by rw [wr]<;>omega
     have w3:IntKind.i64.wrap (((offD y m:Nat):Int)+0)=(offD y m:Nat):=by rw [wr]<;>omega
     have w2:IntKind.i64.wrap (86400*((offD y m:Nat):Int))=86400*((offD y m:Nat):Int):=by rw [wr]<;>omega
     clear u1 l1 ub lb e0 hoff o1
     generalize ((offD y m:Nat):Int)=N1 at *
     simp -implicitDefEqProofs [k,k',w0,w1,w3,w64_0]
     try simp only [w0,w1,w3,w2]
     try trivial
   ·exact ⟨by omega,by omega⟩
   ·refine weak_mk ?_ ?_ ?_ ?_ ?_ ?_<;>simp -implicitDefEqProofs
 ·exact ⟨by omega,by omega⟩
 ·refine weak_mk ?_ ?_ ?_ ?_ ?_ ?_<;>simp -implicitDefEqProofs [e0]
end Go.Ai
