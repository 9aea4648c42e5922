/- P16: a part of the proof: the rules, or what functions compute. Conditions: as each theorem says. -/
import Derived.Test.YthonkjadcpdphaaGreatDoorP15
import Derived.Test.YthonkjadcpdphaaGreatDoorAiUse
import Derived.Test.YthonkjadcpdphaaGreatDoorP4
set_option linter.unusedSimpArgs false
set_option linter.unusedVariables false
set_option maxRecDepth 20000
namespace Go.Ai
open Go.Proofs
theorem same35_spec (fs:List Fd) (hl:fs.length≤1000000):Sp Tryz.prog gl 11 [.sl (fs.map Fd.row),.sl (fs.map Fd.row)] (.bool true):=by
 refine s11 rfl rfl ?_
 have rl:(fs.map Fd.row).length=fs.length:=by simp
 have rat: ∀i (h:i<fs.length),∀h2,(fs.map Fd.row)[i]'h2=[i6 fs[i].k,.str fs[i].n]:=fun i h h2=>by simp [Fd.row]
 generalize fs.map Fd.row=RR at *
 simp -implicitDefEqProofs [c11]
 refine wp_lpk (α:=Nat) (fun i=>⟨[(0,.sl RR),(1,.sl RR),(5,i6 i)],[],[]⟩)
  (fun i=>i≤fs.length) (fun i=>fs.length - i) ?_ 0 ?_ ?_
 ·rintro K i hK h1
  by_cases g:i<fs.length
  ·have t1:IntKind.i64.wrap ((i:Int)+1)=(i+1:Nat):=by rw [wrap_i64]<;>omega
   have gR:i<RR.length:=by omega
   have ra:=rat i g gR
   have fin: ∀σ',Weak σ' ⟨[(0,.sl RR),(1,.sl RR),(5,i6 (i+1:Nat))],[],[]⟩→K σ':=
    fun σ' hσ=>hK (i+1) σ' (by omega) (by omega) hσ
   clear hK rat
   generalize fs[i]=x at *
   simp -implicitDefEqProofs [g,gR,ra,rl]
   refine fin _ ?_
   refine weak_mk ?_ ?_ ?_ ?_ ?_ ?_<;>simp -implicitDefEqProofs [t1]
  ·obtain rfl:i=fs.length:=by omega
   clear hK
   simp -implicitDefEqProofs [rl]
 ·exact Nat.zero_le _
 ·refine weak_mk ?_ ?_ ?_ ?_ ?_ ?_<;>simp -implicitDefEqProofs
open Go.Proofs
theorem add35_spec (fs:List Fd) (hl:fs.length≤1000000) (ok:Bool) (k:Int) (n:List UInt8) (d:Nat):
  SpH Tryz.prog gl 37 d ⟨[.sl (fs.map Fd.row),.bool ok,i6 k,.str n],[],[(.s 0,2)]⟩ ⟨.sl ((fadd fs ok k n).map Fd.row),[],[(.s 0,2)]⟩:=by
 refine h37 rfl ?_
 have hlim:lim=140737488355328:=rfl
 have h2:=fd_two fs
 have hll:((fs.map Fd.row).length+1)*24≤140737488355328:=by simp;omega
 cases ok
 ·have he:(fadd fs false k n).map Fd.row=fs.map Fd.row++[[i6 k,.str n]]:=by simp [fadd,Fd.row]
  rw [he]
  clear he
  generalize fs.map Fd.row=L at *
  simp only [inSt,mpB,mpL,AV.mp,mpP]
  simp -implicitDefEqProofs [c37,hlim]
  refine ⟨hll,h2,?_⟩
  refine postH_r ⟨?_,?_,?_,?_,?_,?_⟩<;>simp -implicitDefEqProofs
 ·have he:(fadd fs true k n).map Fd.row=fs.map Fd.row:=by simp [fadd]
  rw [he]
  clear he
  generalize fs.map Fd.row=L at *
  simp only [inSt,mpB,mpL,AV.mp,mpP]
  simp -implicitDefEqProofs [c37,hlim]
  refine postH_r ⟨?_,?_,?_,?_,?_,?_⟩<;>simp -implicitDefEqProofs
open Go.Proofs
def usedAt (e:Nat) (a:Al):Bool:=alFires a&&decide (a.e=e)
def audL (gs:List GV) (goal place i:Nat):List Al:=match gs[i]? with
 |some g=>if i<goal then g.al else g.al.take place
 |none=>[]
def usedGo (gs:List GV) (goal place e:Nat):Nat→Nat→Bool
 |_,0=>false
 |i,n+1=>(audL gs goal place i).any (usedAt e)||usedGo gs goal place e (i+1) n
theorem rused35_spec (v:Vw) (goal place e:Nat) (hg:goal<v.gs.length) (hl:v.gs.length≤1000) (hp:place≤1000000) (ha: ∀g∈v.gs,g.al.length≤1000000):
  Sp Tryz.prog gl 45 [.agg v.row,i6 goal,i6 place,u e] (.bool (usedGo v.gs goal place e 0 (goal+1))):=by
 refine s45 rfl rfl ?_
 obtain ⟨R,hR⟩: ∃R,R=usedGo v.gs goal place e 0 (goal+1):=⟨_,rfl⟩
 rw [←hR]
 have rl:(v.gs.map GV.row).length=v.gs.length:=by simp
 have rat: ∀i (h:i<v.gs.length),∀h2,(v.gs.map GV.row)[i]'h2=v.gs[i].row:=fun i h h2=>by simp
 have v2: ∀h:2<v.row.length,v.row[2]= .sl (v.gs.map GV.row):=fun _=>rfl
 have vl:v.row.length=11:=rfl
 have vi:idsL v.row=[]:=rfl
 have vs:shutL v.row=some v.row:=rfl
 generalize v.row=N at *
 generalize v.gs.map GV.row=RR at *
 generalize v.gs=gs at *
 simp -implicitDefEqProofs [c45,v2,vl,vi,vs,rl]
 refine wp_lpk (α:=Nat) (fun i=>⟨[(1,i6 goal),(2,i6 place),(3,u e),(4,.ptr (.n 4) 0),(9,i6 i)],[(.n 4,N)],[]⟩)
  (fun i=>i≤goal+1∧usedGo gs goal place e i (goal+1 - i)=R) (fun i=>goal+1 - i) ?_ 0 ?_ ?_
 ·rintro K i hK ⟨h1,h2⟩
  by_cases g:i≤goal
  ·have g':(i:Int)≤goal:=by omega
   have t1:IntKind.i64.wrap ((i:Int)+1)=(i+1:Nat):=by rw [wrap_i64]<;>omega
   have gi:i<gs.length:=by omega
   have gR:i<RR.length:=by omega
   have ra:=rat i gi gR
   rw [show goal+1 - i=(goal+1 - (i+1))+1 by omega] at h2
   simp only [usedGo] at h2
   have fin:usedGo gs goal place e (i+1) (goal+1 - (i+1))=R→ ∀σ',Weak σ' ⟨[(1,i6 goal),(2,i6 place),(3,u e),(4,.ptr (.n 4) 0),(9,i6 (i+1:Nat))],[(.n 4,N)],[]⟩→K σ':=
    fun hh σ' hσ=>hK (i+1) σ' ⟨by omega,hh⟩ (by omega) hσ
   have hal:=ha gs[i] (List.getElem_mem _)
   have eL:audL gs goal place i=if i<goal then gs[i].al else gs[i].al.take place:=by
    unfold audL;rw [List.getElem?_eq_getElem gi]
   rw [eL] at h2
   clear hK hR rat eL ha
   generalize usedGo gs goal place e (i+1) (goal+1 - (i+1))=rest at *
   have AR:=al_at gs[i].al
   have al':(gs[i].al.map Al.row).length=gs[i].al.length:=by simp
   have x14: ∀h:14<gs[i].row.length,gs[i].row[14]= .sl (gs[i].al.map Al.row):=fun _=>rfl
   have xl:gs[i].row.length=15:=rfl
   generalize gs[i].row=X at *
   generalize gs[i].al=l at *
   generalize l.map Al.row=LR at *
   simp -implicitDefEqProofs [g,g',gi,gR,ra,v2,vl,xl,rl,x14]
   refine wp_lpk (α:=Nat) (fun j=>⟨[(1,i6 goal),(2,i6 place),(3,u e),(4,.ptr (.n 4) 0),(9,i6 i),(10,i6 j)],[(.n 4,N)],[]⟩)
    (fun j=>j≤(if i<goal then l else l.take place).length∧(((if i<goal then l else l.take place).drop j).any (usedAt e)||rest)=R) (fun j=>(if i<goal then l else l.take place).length - j) ?_ 0 ?_ ?_
   ·rintro K2 j hK2 ⟨q1,q2⟩
    have u1:IntKind.i64.wrap ((j:Int)+1)=(j+1:Nat):=by
     have:(if i<goal then l else l.take place).length≤1000000:=by
      split
      ·exact hal
      ·rw [List.length_take];omega
     rw [wrap_i64]<;>omega
    by_cases h:j<(if i<goal then l else l.take place).length
    ·have hj:j<l.length:=by
      split at h
      ·exact h
      ·simp at h;omega
     have hpl:(i:Int)<goal∨(j:Int)<place:=by
      split at h
      ·left;omega
      ·right;simp at h;omega
     have hm:(if i<goal then l else l.take place)[j]=l[j]:=by
      split<;>simp
     rw [List.drop_eq_getElem_cons h,List.any_cons,hm] at q2
     have jR:j<LR.length:=by omega
     have aj:=AR j hj jR
     have FR:=rfires35_spec l[j]
     unfold usedAt at q2
     have fin2:(((if i<goal then l else l.take place).drop (j+1)).any (usedAt e)||rest)=R→ ∀σ',Weak σ' ⟨[(1,i6 goal),(2,i6 place),(3,u e),(4,.ptr (.n 4) 0),(9,i6 i),(10,i6 (j+1:Nat))],[(.n 4,N)],[]⟩→K2 σ':=
      fun hh σ' hσ=>hK2 (j+1) σ' ⟨by omega,hh⟩ (by omega) hσ
     unfold usedAt at fin2
     clear hK2 h2 fin AR hm
     generalize ((if i<goal then l else l.take place).drop (j+1)).any (fun a=>alFires a&&decide (a.e=e))=r2 at *
     unfold Al.row at FR
     generalize alFires l[j]=ff at *
     have ee:((l[j].e:Int)==(e:Int))=decide (l[j].e=e):=by
      by_cases w:l[j].e=e
      ·simp [w]
      ·rw [decide_eq_false w,beq_eq_false_iff_ne];omega
     generalize decide (l[j].e=e)=dd at *
     by_cases ig:(i:Int)<goal
     ·cases ff
      ·simp only [Bool.false_and,Bool.false_or] at q2
       have fin2:=fin2 q2
       simp -implicitDefEqProofs [g,g',gi,gR,ra,v2,vl,xl,rl,x14,hj,jR,al',ig,aj]
       refine onC_mk _ (FR) ?_
       simp -implicitDefEqProofs [u1]
       refine fin2 _ ?_
       refine weak_mk ?_ ?_ ?_ ?_ ?_ ?_<;>simp -implicitDefEqProofs [u1,vi]
      ·cases dd
       ·simp only [Bool.and_false,Bool.false_or] at q2
        have fin2:=fin2 q2
        simp -implicitDefEqProofs [g,g',gi,gR,ra,v2,vl,xl,rl,x14,hj,jR,al',ig,aj]
        refine onC_mk _ (FR) ?_
        simp -implicitDefEqProofs [u1,ee,gi,gR,ra,v2,vl,xl,rl,x14,hj,jR,al',aj]
        refine fin2 _ ?_
        refine weak_mk ?_ ?_ ?_ ?_ ?_ ?_<;>simp -implicitDefEqProofs [u1,vi]
       ·simp at q2
        subst q2
        simp -implicitDefEqProofs [g,g',gi,gR,ra,v2,vl,xl,rl,x14,hj,jR,al',ig,aj]
        refine onC_mk _ (FR) ?_
        simp -implicitDefEqProofs [u1,ee,gi,gR,ra,v2,vl,xl,rl,x14,hj,jR,al',aj]
     ·have jp:(j:Int)<place:=by omega
      cases ff
      ·simp only [Bool.false_and,Bool.false_or] at q2
       have fin2:=fin2 q2
       simp -implicitDefEqProofs [g,g',gi,gR,ra,v2,vl,xl,rl,x14,hj,jR,al',ig,jp,aj]
       refine onC_mk _ (FR) ?_
       simp -implicitDefEqProofs [u1]
       refine fin2 _ ?_
       refine weak_mk ?_ ?_ ?_ ?_ ?_ ?_<;>simp -implicitDefEqProofs [u1,vi]
      ·cases dd
       ·simp only [Bool.and_false,Bool.false_or] at q2
        have fin2:=fin2 q2
        simp -implicitDefEqProofs [g,g',gi,gR,ra,v2,vl,xl,rl,x14,hj,jR,al',ig,jp,aj]
        refine onC_mk _ (FR) ?_
        simp -implicitDefEqProofs [u1,ee,gi,gR,ra,v2,vl,xl,rl,x14,hj,jR,al',aj]
        refine fin2 _ ?_
        refine weak_mk ?_ ?_ ?_ ?_ ?_ ?_<;>simp -implicitDefEqProofs [u1,vi]
       ·simp at q2
        subst q2
        simp -implicitDefEqProofs [g,g',gi,gR,ra,v2,vl,xl,rl,x14,hj,jR,al',ig,jp,aj]
        refine onC_mk _ (FR) ?_
        simp -implicitDefEqProofs [u1,ee,gi,gR,ra,v2,vl,xl,rl,x14,hj,jR,al',aj]
    ·rw [List.drop_eq_nil_of_le (by omega)] at q2
     simp only [List.any_nil,Bool.false_or] at q2
     have fin:=fin q2
     clear hK2
     by_cases hj:j<l.length
     ·have ig: ¬i<goal:=fun c=>by rw [if_pos c] at h;exact h hj
      rw [if_neg ig] at h
      have jp: ¬(j:Int)<place:=by simp at h;omega
      have ig': ¬(i:Int)<goal:=by omega
      have hj':(j:Int)<l.length:=by omega
      simp -implicitDefEqProofs [g,g',gi,gR,ra,v2,vl,xl,rl,x14,hj,hj',al',ig',jp,ig]
      refine fin _ ?_
      refine weak_mk ?_ ?_ ?_ ?_ ?_ ?_<;>simp -implicitDefEqProofs [t1,vi]
     ·have hj': ¬(j:Int)<l.length:=by omega
      simp -implicitDefEqProofs [g,g',gi,gR,ra,v2,vl,xl,rl,x14,hj,hj',al']
      refine fin _ ?_
      refine weak_mk ?_ ?_ ?_ ?_ ?_ ?_<;>simp -implicitDefEqProofs [t1,vi]
   ·exact ⟨Nat.zero_le _,h2⟩
   ·refine weak_mk ?_ ?_ ?_ ?_ ?_ ?_<;>simp -implicitDefEqProofs [vi]
  ·obtain rfl:i=goal+1:=by omega
   have g': ¬((goal:Int)+1≤goal):=by omega
   rw [Nat.sub_self] at h2
   simp only [usedGo] at h2
   subst h2
   clear hK
   simp -implicitDefEqProofs [g']
 ·exact ⟨Nat.zero_le _,hR.symm⟩
 ·refine weak_mk ?_ ?_ ?_ ?_ ?_ ?_<;>simp -implicitDefEqProofs [vi]
open Go.Proofs
theorem usedGo_iff (gs:List GV) (goal place e:Nat): ∀n i,usedGo gs goal place e i n=true↔ ∃j,i≤j∧j<i+n∧(audL gs goal place j).any (usedAt e)=true
 |0,i=>by
  constructor
  ·intro h;exact absurd h (by simp [usedGo])
  ·rintro ⟨j,h1,h2,_⟩;omega
 |n+1,i=>by
  rw [usedGo,Bool.or_eq_true,usedGo_iff gs goal place e n (i+1)]
  constructor
  ·rintro (h|⟨j,h1,h2,h3⟩)
   ·exact ⟨i,by omega,by omega,h⟩
   ·exact ⟨j,by omega,by omega,h3⟩
  ·rintro ⟨j,h1,h2,h3⟩
   by_cases c:j=i
   ·subst c;exact .inl h3
   ·exact .inr ⟨j,by omega,by omega,h3⟩
theorem any_eps (e:Nat) (l:List Al):l.any (usedAt e)=true↔e∈epsF l:=by
 unfold epsF usedAt
 rw [List.any_eq_true,List.mem_map]
 constructor
 ·rintro ⟨a,h1,h2⟩
  rw [Bool.and_eq_true,decide_eq_true_iff] at h2
  exact ⟨a,List.mem_filter.2 ⟨h1,h2.1⟩,h2.2⟩
 ·rintro ⟨a,h1,h2⟩
  obtain ⟨h3,h4⟩:=List.mem_filter.1 h1
  exact ⟨a,h3,by rw [Bool.and_eq_true,decide_eq_true_iff];exact ⟨h4,h2⟩⟩
end Go.Ai
namespace Go.Ai
def dec (n:Nat):List UInt8:=if h:n<10 then [UInt8.ofNat (48+n)] else dec (n / 10)++[UInt8.ofNat (48+n%10)]
termination_by n
decreasing_by omega
theorem dec_lt {n:Nat} (h:n<10):dec n=[UInt8.ofNat (48+n)]:=by rw [dec,dif_pos h]
theorem dec_ge {n:Nat} (h: ¬n<10):dec n=dec (n / 10)++[UInt8.ofNat (48+n%10)]:=by rw [dec,dif_neg h]
theorem dec_len (k n:Nat) (h:n<10^(k+1)):(dec n).length≤k+1:=by
 induction k generalizing n with
 |zero=>rw [dec_lt (by simpa using h)];simp
 |succ k ih=>
  by_cases g:n<10
  ·rw [dec_lt g];simp
  ·rw [dec_ge g]
   have:=ih (n / 10) (by rw [Nat.pow_succ] at h;omega)
   simp;omega
open Go.Proofs
theorem digits_spec (l:List Bool) (hl:l.length≤100000):Sp Tryz.prog gl 112 [bl l] (.str (dec (val l))):=by
 refine s112 rfl rfl ?_
 have B:=bits_spec 10 (by omega)
 have e10:wide 10= .agg [u 0,u 10]:=rfl
 rw [e10] at B
 have v10:val (bitsOf 10 128)=10:=bitsOf_val128 10 (by omega)
 have l10:(bitsOf 10 128).length=128:=bitsOf_len _ _
 have hlen:(dec (val l)).length≤l.length+1:=dec_len _ _ (Nat.lt_of_lt_of_le (val_lt l) (Nat.le_trans (Nat.pow_le_pow_left (by omega) _) (Nat.pow_le_pow_right (by omega) (Nat.le_succ _))))
 obtain ⟨ten,ht⟩: ∃ten,ten=bitsOf 10 128:=⟨_,rfl⟩
 rw [←ht] at B v10 l10
 clear ht
 obtain ⟨R,hR⟩: ∃R,R=dec (val l):=⟨_,rfl⟩
 rw [←hR] at hlen ⊢
 simp -implicitDefEqProofs [c112]
 refine onC_mk _ B ?_
 simp -implicitDefEqProofs
 refine wp_lpk (α:=List Bool×List UInt8) (fun x=>⟨[(0,bl x.1),(3,bl ten),(4,.str x.2)],[],[]⟩) (fun x=>x.1.length=l.length∧R=dec (val x.1)++x.2) (fun x=>val x.1) ?_ (l,[]) ?_ ?_
 ·rintro K ⟨l',s⟩ hK ⟨h1,h2⟩
  simp only at h1 h2
  have hlt:=val_lt l'
  have D:=divide_spec l' ten (by omega) (by omega) (by omega)
  rw [v10] at D
  have q1:val l' / 10≤val l':=Nat.div_le_self _ _
  have r1:val l'%10≤val l':=Nat.mod_le _ _
  have r2:val l'%10<10:=Nat.mod_lt _ (by omega)
  have qv:val (bitsOf (val l' / 10) l'.length)=val l' / 10:=by rw [bitsOf_val,Nat.mod_eq_of_lt (by omega)]
  have rv:val (bitsOf (val l'%10) l'.length)=val l'%10:=by rw [bitsOf_val,Nat.mod_eq_of_lt (by omega)]
  have ql:=bitsOf_len (val l' / 10) l'.length
  have rl:=bitsOf_len (val l'%10) l'.length
  obtain ⟨q,hq⟩: ∃q,q=bitsOf (val l' / 10) l'.length:=⟨_,rfl⟩
  obtain ⟨r,hr⟩: ∃r,r=bitsOf (val l'%10) l'.length:=⟨_,rfl⟩
  rw [←hq] at D qv ql
  rw [←hr] at D rv rl
  have O:=of_spec r (by omega)
  rw [rv,if_pos (by omega)] at O
  obtain ⟨d,hd⟩: ∃d,d=val l'%10:=⟨_,rfl⟩
  rw [←hd] at O r2
  have wd:wide d= .agg [u 0,u d]:=by unfold wide;rw [Nat.div_eq_of_lt (by omega),Nat.mod_eq_of_lt (by omega)]
  rw [wd] at O
  have C:=compare_spec q [] (by omega) (by simp)
  rw [show val []=0 from rfl] at C
  have sl:s.length≤100001:=by rw [h2] at hlen;simp at hlen;omega
  have w1:IntKind.u8.wrap (d:Int)=d:=wrap_u8 (by omega) (by omega)
  have w2:IntKind.u8.wrap (48+(d:Int))=(48+d:Nat):=by rw [wrap_u8]<;>omega
  have tn:(48+(d:Int)).toNat=48+d:=by omega
  have hs1:1+s.length≤9223372036854775807:=by omega
  by_cases g:val l'<10
  ·have q0:val q=0:=by rw [qv];omega
   have c0:cmpN 0 0=0:=rfl
   rw [q0,c0] at C
   have eR:R=UInt8.ofNat (48+d)::s:=by rw [h2,dec_lt g,hd,Nat.mod_eq_of_lt g];rfl
   clear hq hr hd h2 qv rv wd q1 r1 hlt q0 hR hK hlen
   subst eR
   simp -implicitDefEqProofs [bl]
   refine onC_mk _ D ?_
   simp -implicitDefEqProofs [bl]
   refine onC_mk _ O ?_
   simp -implicitDefEqProofs [bytesA,rowBytes,w1,w2,hs1]
   refine onC_mk _ C ?_
   simp -implicitDefEqProofs [tn]
  ·have q0:val q≠0:=by rw [qv];omega
   have c0:cmpN (val q) 0=1:=by unfold cmpN;rw [if_neg (by omega),if_neg q0]
   rw [c0] at C
   have eR:R=dec (val q)++(UInt8.ofNat (48+d)::s):=by rw [h2,dec_ge g,hd,qv];simp
   have fin: ∀σ',Weak σ' ⟨[(0,bl q),(3,bl ten),(4,.str (UInt8.ofNat (48+d)::s))],[],[]⟩→K σ':=
    fun σ' hσ=>hK (q,UInt8.ofNat (48+d)::s) σ' ⟨by simp only;omega,eR⟩ (by simp only;omega) hσ
   clear hq hr hd h2 qv rv wd q1 r1 hlt q0 hR hK hlen eR
   simp -implicitDefEqProofs [bl]
   refine onC_mk _ D ?_
   simp -implicitDefEqProofs [bl]
   refine onC_mk _ O ?_
   simp -implicitDefEqProofs [bytesA,rowBytes,w1,w2,hs1]
   refine onC_mk _ C ?_
   simp -implicitDefEqProofs
   refine fin _ ?_
   apply weak_mk<;>simp [bl,tn]
 ·simp [hR]
 ·apply weak_mk<;>simp [bl]
end Go.Ai
