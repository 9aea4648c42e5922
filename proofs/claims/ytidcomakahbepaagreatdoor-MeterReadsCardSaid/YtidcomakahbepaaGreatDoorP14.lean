/- P14: a part of the proof: the rules, or what functions compute. Conditions: as each theorem says. -/
import Derived.Test.YtidcomakahbepaaGreatDoorP13
import Derived.Test.YtidcomakahbepaaGreatDoorP12
import Derived.Test.YtidcomakahbepaaGreatDoorAiShelf3
set_option linter.unusedSimpArgs false
set_option linter.unusedVariables false
set_option maxRecDepth 20000
namespace Go.Ai
open Go.Proofs
theorem heavyG_fit {x:Gl} (h:heavyG x=false):x.Fit:=by
 unfold heavyG at h
 simp only [Bool.or_eq_false_iff,decide_eq_false_iff_not,List.any_eq_false,Bool.not_eq_true] at h
 obtain ⟨⟨h1,h2,h3⟩,h4,h5⟩:=h
 refine ⟨by omega,by omega,by omega,fun y hy=>?_,fun y hy=>?_⟩
 ·have:=h4 y hy
  simp only [heavyLb,Bool.or_eq_false_iff,decide_eq_false_iff_not] at this
  exact ⟨by omega,by omega⟩
 ·have:=h5 y hy
  simp only [heavyRu,decide_eq_false_iff_not] at this
  show y.n.length≤2000
  omega
end Go.Ai
namespace Go.Ai
open Go.Proofs Go.Shelf Go.RowKit Go.Sort
def sortI (l:List Int):List Int:=l.mergeSort fun x y=>decide (x≤y)
theorem sortI_len (l:List Int):(sortI l).length=l.length:=List.length_mergeSort l
theorem sort_spec (L:List Int) (hL:L.length≤1000000) (d:Nat) (b:Id) (hit:b.isIt=false) (hnw:b.isNw d=false):
  SpH Tryz.prog gl 119 d ⟨[.ms b 0 L.length 1],[(b,intCells .i64 L)],[]⟩ ⟨.tup [],[(b,intCells .i64 (sortI L))],[]⟩:=by
 refine mut_spec (l:=[]) Tryz.func119 (by kernel_rfl) (by kernel_rfl) hit hnw (by rw [intCells_len,intCells_len,sortI_len]) ?_
 intro S gb w g cap us T vs hg hvs hh hn hc1 hc2 hcs hp hone
 simp only [PRlist] at hvs
 subst hvs
 rw [intCells_len] at hcs hp ⊢
 have hp2:=intCells_PR.1 hp
 have hglt:g<w.heap.size:=(Array.getElem?_eq_some_iff.1 hh).1
 have J:=AnyM.slices_Sort_int laysSort g 0 cap L w (holds_ints hh hp2) hglt (by omega)
 refine J.mono ?_
 rintro e w' ⟨rfl,q,os,rfl⟩
 have hsl:(L.mergeSort fun x y=>decide (x≤y)).length=L.length:=List.length_mergeSort L
 obtain ⟨us',p1,p2,p3,p4,p5,p6⟩:=put_ints (k:= .i64) (zs:=L.mergeSort fun x y=>decide (x≤y)) q os hh (by rw [hsl];exact hcs) hone
 refine ⟨_,us',rfl,by simp only [PR,PRlist];exact ⟨_,rfl,rfl⟩,p1,p2,p3,?_,p5,p6,rfl,rfl,rfl⟩
 rw [←hsl]
 exact intCells_PR.2 p4
theorem sortNil_spec:Sp Tryz.prog gl 119 [.nils] (.tup []):=by
 refine shelf_spec Tryz.func119 (by kernel_rfl) (by kernel_rfl) ?_
 intro S gb w vs hvs hag
 simp only [PRlist,PR] at hvs
 obtain ⟨_,_,rfl,rfl,rfl⟩:=hvs
 exact (AnyM.slices_Sort_int_none laysSort none 0 w).mono fun e w' ⟨he,hw⟩=>⟨_,he,hw▸Below.refl _ _,by simp only [PR,PRlist];exact ⟨_,rfl,rfl⟩⟩
def compactI (l:List Int):List Int:=Lib.compact l
theorem compactUpTo_le {α:Type} [Inhabited α] [DecidableEq α] (d:Array α) (m:Nat):(Lib.compactUpTo d m).length≤m:=by
 unfold Lib.compactUpTo
 rw [List.length_map]
 exact Nat.le_trans (List.length_filter_le _ _) (by simp)
theorem compactI_le (l:List Int):(compactI l).length≤l.length:=compactUpTo_le _ _
theorem compact_spec (L:List Int) (hL:L.length≤1000000) (d:Nat) (b:Id) (hit:b.isIt=false) (hnw:b.isNw d=false):
  SpH Tryz.prog gl 120 d ⟨[.ms b 0 L.length 1],[(b,intCells .i64 L)],[]⟩ ⟨.ms b 0 (compactI L).length 1,[(b,intCells .i64 (compactI L++List.replicate (L.length - (compactI L).length) 0))],[]⟩:=by
 have hle:=compactI_le L
 have hll:(compactI L++List.replicate (L.length - (compactI L).length) 0).length=L.length:=by simp;omega
 refine mut_spec (l:=[]) Tryz.func120 (by kernel_rfl) (by kernel_rfl) hit hnw (by rw [intCells_len,intCells_len,hll]) ?_
 intro S gb w g cap us T vs hg hvs hh hn hc1 hc2 hcs hp hone
 simp only [PRlist] at hvs
 subst hvs
 rw [intCells_len] at hcs hp ⊢
 have hp2:=intCells_PR.1 hp
 have J:=AnyE.slices_Compact laysCompact (Value.int .i64) (fun _=>rfl) (EqlAt.intD _ _ .i64) (NeqAt.intD _ _ .i64) (0:Int) Tryz.zeroValue2 g 0 cap L.toArray w (holds_ints hh hp2) (by simp;omega) (by simpa using hn)
 have e1:Lib.compactUpTo L.toArray L.toArray.size=compactI L:=by simp [compactI,Lib.compact]
 rw [e1] at J
 simp only [List.size_toArray] at J
 refine J.mono ?_
 rintro e w' ⟨rfl,q,rfl⟩
 have hgr: ∀W:World,grow W #[]=W:=fun W=>by simp [grow]
 obtain ⟨us',p1,p2,p3,p4,p5,p6⟩:=put_ints (k:= .i64) (zs:=compactI L++List.replicate (L.length - (compactI L).length) 0) q #[] hh (by rw [hll];exact hcs) hone
 rw [hgr] at p1 p5 p6
 refine ⟨_,us',rfl,?_,p1,p2,p3,?_,p5,p6,rfl,rfl,rfl⟩
 ·simp only [PR]
  exact ⟨g,⟨us.size,T⟩,cap,hg,hit,rfl,by omega,hc1,by simp only;omega⟩
 ·rw [hll] at p4
  exact intCells_PR.2 p4
theorem compactNil_spec (d:Nat):SpH Tryz.prog gl 120 d ⟨[.nils],[],[]⟩ ⟨.nils,[],[]⟩:=by
 refine h120 rfl ?_
 simp -implicitDefEqProofs [c120]
 refine postH_r ⟨?_,?_,?_,?_,?_,?_⟩<;>simp -implicitDefEqProofs
open Go.Proofs
def ruW (l:List Ru):List Int:=l.flatMap fun r=>[r.l,r.s]
def allW (x:Gl):List Int:=ruW x.ru++(if x.o=0 then [] else [x.o])
def winP (x:Gl):List Int:=compactI (sortI (allW x))
theorem ruW_len (l:List Ru):(ruW l).length=2*l.length:=by
 induction l with
 |nil=>rfl
 |cons x r ih=>simp only [ruW,List.flatMap_cons,List.length_append,List.length_cons,List.length_nil] at ih ⊢;omega
theorem allW_len (x:Gl):(allW x).length≤2*x.ru.length+1:=by
 unfold allW
 rw [List.length_append,ruW_len]
 split<;>simp
def intRows (l:List Int):List (List AV):=l.map fun z=>[i6 z]
theorem intRows_flat (l:List Int):(intRows l).flatten=intCells .i64 l:=by
 induction l with
 |nil=>rfl
 |cons x r ih=>simp only [intRows,List.map_cons,List.flatten_cons] at ih ⊢;rw [ih];rfl
theorem intRows_len (l:List Int):(intRows l).length=l.length:=by simp [intRows]
theorem intRows_one (l:List Int): ∀r∈intRows l,r.length=1:=by
 intro r hr;simp only [intRows,List.mem_map] at hr;obtain ⟨z,_,rfl⟩:=hr;rfl
theorem intCells_ids (k:IntKind) (l:List Int):idsL (intCells k l)=[]:=by
 induction l with
 |nil=>rfl
 |cons x r ih=>simpa [intCells,idsL,AV.ids] using ih
theorem intCells_app (k:IntKind) (a b:List Int):intCells k (a++b)=intCells k a++intCells k b:=by simp [intCells]
def stW (row:List AV) (RU:List (List AV)) (n i:Nat):List Int→St
 |[]=>⟨[(1,.ptr (.n 1) 0),(3,.nils),(7,.sl RU),(8,i6 n),(9,i6 i)],[(.n 1,row)],[]⟩
 |z::r=>⟨[(1,.ptr (.n 1) 0),(3,.ms (.n 19) 0 (z::r).length 1),(7,.sl RU),(8,i6 n),(9,i6 i)],[(.n 1,row),(.n 19,intCells .i64 (z::r))],[]⟩
theorem stW_ne {row:List AV} {RU:List (List AV)} {n i:Nat} {l:List Int} (h:l≠[]):stW row RU n i l=⟨[(1,.ptr (.n 1) 0),(3,.ms (.n 19) 0 l.length 1),(7,.sl RU),(8,i6 n),(9,i6 i)],[(.n 1,row),(.n 19,intCells .i64 l)],[]⟩:=by
 cases l with
 |nil=>exact absurd rfl h
 |cons z r=>rfl
theorem win_tail (L:List Int) (hL:L.length≤1000) (b:Id) (hb:b= .n 19∨b= .n 28) (e:List (Nat×AV)) (row:List AV) (hrow:idsL row=[]) (l3:lk e 3= .ms b 0 L.length 1) (bx:List (Id×List AV)) (pm:List (Pl×Nat)) (hbx:bx=[(.n 1,row),(b,intCells .i64 L)]∨bx=[(b,intCells .i64 L),(.n 1,row)]):
  wpA (SpH Tryz.prog gl) (AC.tl 4 c73) (postF [.t 2] (.sl (intRows (compactI (sortI L))))) ⟨e,bx,pm⟩:=by
 have hit:b.isIt=false:=by rcases hb with rfl|rfl<;>rfl
 have hnw: ∀d,b.isNw d=false:=by rcases hb with rfl|rfl<;>intro d<;>rfl
 have hn1:b≠ .n 1:=by rcases hb with rfl|rfl<;>decide
 have hn1':Id.n 1≠b:=fun e=>hn1 e.symm
 have hup:b.isUp=false:=by rcases hb with rfl|rfl<;>rfl
 have S:=sort_spec L (by omega) 30 b hit (hnw 30)
 have C:=compact_spec (sortI L) (by rw [sortI_len];omega) 32 b hit (hnw 32)
 rw [sortI_len] at C
 obtain ⟨W,hW⟩: ∃W,W=compactI (sortI L):=⟨_,rfl⟩
 rw [←hW] at C ⊢
 rw [intCells_app] at C
 simp only [c73,AC.tl]
 have i1:=intCells_ids .i64 L
 have i2:=intCells_ids .i64 (sortI L)
 have hF: ∀(e:List (Nat×AV)) pm,lk e 2= .ms b 0 W.length 1→postF [.t 2] (.sl (intRows W)) .r ⟨e,[(b,intCells .i64 W++intCells .i64 (List.replicate (L.length - W.length) 0)),(.n 1,row)],pm⟩:=by
  intro e pm l2
  refine .inr (.inr ⟨2,b,W.length,1,intRows W,intCells .i64 (List.replicate (L.length - W.length) 0),⟨l2,?_,hup,intRows_len W,intRows_one W,?_,?_⟩,?_⟩)
  ·rw [intRows_flat];simp [lkB]
  ·rw [intRows_flat];exact intCells_ids _ _
  ·simp [hn1',hrow]
  ·simp [frzSt]
 generalize intCells .i64 W++intCells .i64 (List.replicate (L.length - W.length) 0)=CW at *
 generalize intCells .i64 (sortI L)=CS at *
 generalize intCells .i64 L=CL at *
 rcases hbx with rfl|rfl
 ·simp [l3]
  refine onH_mk _ _ S ⟨?_,?_,?_,?_,?_,?_,?_⟩ ?_
  iterate 7 (· simp [l3,hn1,hn1',hnw])
  simp -implicitDefEqProofs [l3,hn1,hn1']
  refine onH_mk _ _ C ⟨?_,?_,?_,?_,?_,?_,?_⟩ ?_
  iterate 7 (· simp [l3,hn1,hn1',hnw])
  simp -implicitDefEqProofs [l3,hn1,hn1']
  refine hF _ _ ?_
  simp -implicitDefEqProofs
 ·simp [l3]
  refine onH_mk _ _ S ⟨?_,?_,?_,?_,?_,?_,?_⟩ ?_
  iterate 7 (· simp [l3,hn1,hn1',hnw])
  simp -implicitDefEqProofs [l3,hn1,hn1']
  refine onH_mk _ _ C ⟨?_,?_,?_,?_,?_,?_,?_⟩ ?_
  iterate 7 (· simp [l3,hn1,hn1',hnw])
  simp -implicitDefEqProofs [l3,hn1,hn1']
  refine hF _ _ ?_
  simp -implicitDefEqProofs
open Go.Proofs
theorem idsL_appW (a b:List AV):idsL (a++b)=idsL a++idsL b:=by
 induction a with
 |nil=>rfl
 |cons x r ih=>simp only [List.cons_append,idsL,ih,List.append_assoc]
theorem win_nil (e:List (Nat×AV)) (row:List AV) (pm:List (Pl×Nat)) (l3:lk e 3= .nils):
  wpA (SpH Tryz.prog gl) (AC.tl 4 c73) (postF [.t 2] (.sl [])) ⟨e,[(.n 1,row)],pm⟩:=by
 have S:=Sp.h (d:=30) sortNil_spec
 have C:=compactNil_spec 32
 simp only [c73,AC.tl]
 simp -implicitDefEqProofs [l3]
 refine onH_mk _ _ S ⟨?_,?_,?_,?_,?_,?_,?_⟩ ?_
 iterate 7 (· simp [l3])
 simp -implicitDefEqProofs [l3]
 refine onH_mk _ _ C ⟨?_,?_,?_,?_,?_,?_,?_⟩ ?_
 iterate 7 (· simp [l3])
 simp -implicitDefEqProofs [l3,postF]
theorem win_all (x:Gl) (hl:x.ru.length≤10) (b:Id) (hb:b= .n 19∨b= .n 28) (e:List (Nat×AV)) (bx:List (Id×List AV)) (pm:List (Pl×Nat)) (l3:lk e 3= .ms b 0 (allW x).length 1) (hbx:bx=[(.n 1,x.row),(b,intCells .i64 (allW x))]∨bx=[(b,intCells .i64 (allW x)),(.n 1,x.row)]):
  wpA (SpH Tryz.prog gl) (AC.tl 4 c73) (postF [.t 2] (.sl (intRows (winP x)))) ⟨e,bx,pm⟩:=
 win_tail (allW x) (by have:=allW_len x;omega) b hb e x.row rfl l3 bx pm hbx
theorem win_roll (x:Gl) (hl:x.ru.length≤10) (e:List (Nat×AV)) (l1:lk e 1= .ptr (.n 1) 0)
  (h:(ruW x.ru=[]∧lk e 3= .nils)∨(ruW x.ru≠[]∧lk e 3= .ms (.n 19) 0 (ruW x.ru).length 1)):
  wpA (SpH Tryz.prog gl) (AC.tl 3 c73) (postF [.t 2] (.sl (intRows (winP x)))) ⟨e,if ruW x.ru=[] then [(.n 1,x.row)] else [(.n 1,x.row),(.n 19,intCells .i64 (ruW x.ru))],[]⟩:=by
 have ec:AC.tl 3 c73=AC.cutAt 1 (AC.tl 4 c73) (AC.tl 3 c73):=rfl
 rw [ec]
 have TA:=win_all x hl
 have TN:=fun e pm=>win_nil e x.row pm
 have hx:x.row=[.str x.n,.int .u32 x.t,i6 x.g,i6 x.a,i6 x.o,i6 x.c,.sl (x.lb.map Lb.row),.sl (x.ru.map Ru.row)]:=rfl
 have hlim:lim=140737488355328:=rfl
 have hrow:idsL x.row=[]:=rfl
 have hw:allW x=ruW x.ru++(if x.o=0 then [] else [x.o]):=rfl
 have hwn:x.o=0→ruW x.ru=[]→winP x=[]:=fun h1 h2=>by
  unfold winP allW
  rw [h2,if_pos h1]
  simp [sortI,compactI,Lib.compact,Lib.compactUpTo]
 have hlen:=ruW_len x.ru
 generalize AC.tl 4 c73=T at *
 simp only [c73,AC.tl,AC.cutAt]
 rw [hx] at TA TN hrow ⊢
 generalize winP x=W at *
 generalize x.lb.map Lb.row=LB at *
 generalize x.ru.map Ru.row=RU at *
 generalize ruW x.ru=L at *
 generalize allW x=AL at *
 rcases h with ⟨h1,h3⟩|⟨h1,h3⟩
 ·subst h1
  simp only [if_true]
  by_cases h0:x.o=0
  ·have hW:=hwn h0 rfl
   subst hW
   rw [h0] at TN ⊢
   simp -implicitDefEqProofs [l1,h3]
   refine TN _ _ ?_
   simp -implicitDefEqProofs [h3]
  ·rw [if_neg h0,List.nil_append] at hw
   subst hw
   have TA:=TA (.n 28) (.inr rfl)
   have hne:(x.o !=0)=true:=by simpa using h0
   have ei:intCells .i64 [x.o]=[i6 x.o]:=rfl
   rw [ei] at TA
   simp -implicitDefEqProofs [l1,h0,h3,hlim,hne]
   refine TA _ _ _ ?_ (.inr rfl)
   simp -implicitDefEqProofs
 ·rw [if_neg h1]
  by_cases h0:x.o=0
  ·rw [if_pos h0,List.append_nil] at hw
   subst hw
   have TA:=TA (.n 19) (.inl rfl)
   rw [h0] at TA ⊢
   simp -implicitDefEqProofs [l1,h3]
   refine TA _ _ _ ?_ (.inl rfl)
   simp -implicitDefEqProofs [h3]
  ·rw [if_neg h0] at hw
   subst hw
   have TA:=TA (.n 28) (.inr rfl)
   rw [intCells_app,List.length_append] at TA
   have ei:intCells .i64 [x.o]=[i6 x.o]:=rfl
   rw [ei] at TA
   have hcl:=intCells_len .i64 L
   have hci:=intCells_ids .i64 L
   have hne:(x.o !=0)=true:=by simpa using h0
   have hll:(L.length+1)*8≤140737488355328:=by omega
   generalize intCells .i64 L=CL at *
   simp -implicitDefEqProofs [l1,h0,h3,hlim,hcl,hci,hne,hll]
   refine TA _ _ _ ?_ (.inr rfl)
   simp -implicitDefEqProofs
theorem win_spec (x:Gl) (hl:x.ru.length≤10):Sp Tryz.prog gl 73 [.agg x.row] (.sl (intRows (winP x))):=by
 refine s73 rfl rfl ?_
 have ec:c73=AC.cutAt 3 (AC.tl 3 c73) c73:=rfl
 rw [ec]
 have T:=win_roll x hl
 generalize AC.tl 3 c73=TT at T ⊢
 have hx:x.row=[.str x.n,.int .u32 x.t,i6 x.g,i6 x.a,i6 x.o,i6 x.c,.sl (x.lb.map Lb.row),.sl (x.ru.map Ru.row)]:=rfl
 have hlim:lim=140737488355328:=rfl
 have rat: ∀i (h:i<x.ru.length),∀h2,(x.ru.map Ru.row)[i]'h2=[.str x.ru[i].n,.bool x.ru[i].p,i6 x.ru[i].l,i6 x.ru[i].s,u x.ru[i].f,i6 x.ru[i].w,i6 x.ru[i].k]:=fun i h h2=>by simp [Ru.row]
 have rl:(x.ru.map Ru.row).length=x.ru.length:=by simp
 generalize winP x=W at *
 rw [hx] at T ⊢
 generalize x.lb.map Lb.row=LB at *
 generalize x.ru.map Ru.row=RU at *
 generalize x.ru=ru at *
 simp only [c73,AC.cutAt]
 simp -implicitDefEqProofs [rl]
 refine wp_lpk (α:=Nat×List Int) (fun z=>stW [.str x.n,.int .u32 x.t,i6 x.g,i6 x.a,i6 x.o,i6 x.c,.sl LB,.sl RU] RU ru.length z.1 z.2) (fun z=>z.1≤ru.length∧z.2=ruW (ru.take z.1)) (fun z=>ru.length - z.1) ?_ (0,[]) ?_ ?_
 ·rintro K ⟨i,acc⟩ hK ⟨h1,h2⟩
  simp only at h1 h2
  by_cases g:i<ru.length
  ·have t1:IntKind.i64.wrap ((i:Int)+1)=(i+1:Nat):=by rw [wrap_i64]<;>omega
   have ra:=rat i g
   have gR:i<RU.length:=by omega
   have es:ruW (ru.take (i+1))=acc++[ru[i].l,ru[i].s]:=by
    rw [List.take_succ_eq_append_getElem g,h2]
    simp only [ruW,List.flatMap_append,List.flatMap_cons,List.flatMap_nil,List.append_nil]
   have fin: ∀σ',Weak σ' (stW [.str x.n,.int .u32 x.t,i6 x.g,i6 x.a,i6 x.o,i6 x.c,.sl LB,.sl RU] RU ru.length (i+1) (acc++[ru[i].l,ru[i].s]))→K σ':=
    fun σ' hσ=>hK (i+1,acc++[ru[i].l,ru[i].s]) σ' ⟨by simp only;omega,es.symm⟩ (by simp only;omega) hσ
   have al:acc.length≤2*i:=by
    rw [h2,ruW_len,List.length_take];omega
   rw [stW_ne (by simp)] at fin
   rw [intCells_app,List.length_append] at fin
   have ei:intCells .i64 [ru[i].l,ru[i].s]=[i6 ru[i].l,i6 ru[i].s]:=rfl
   rw [ei] at fin
   clear hK T rat h2 es
   by_cases ha:acc=[]
   ·subst ha
    simp only [stW]
    have e0:intCells .i64 []=[]:=rfl
    rw [e0] at fin
    simp -implicitDefEqProofs [g,gR,ra,hlim]
    refine fin _ ?_
    refine weak_mk ?_ ?_ ?_ ?_ ?_ ?_<;>simp -implicitDefEqProofs [t1]
   ·rw [stW_ne ha]
    have hcl:=intCells_len .i64 acc
    have hci:=intCells_ids .i64 acc
    have hll:(acc.length+2)*8≤140737488355328:=by omega
    generalize intCells .i64 acc=CL at *
    have hci2:idsL (CL++[i6 ru[i].l,i6 ru[i].s])=[]:=by rw [idsL_appW,hci];rfl
    simp -implicitDefEqProofs [g,gR,ra,hlim,hcl,hci,hll]
    refine fin _ ?_
    refine weak_mk ?_ ?_ ?_ ?_ ?_ ?_<;>simp -implicitDefEqProofs [t1,hci2]
  ·obtain rfl:i=ru.length:=by omega
   rw [List.take_length] at h2
   clear hK rat
   subst h2
   by_cases ha:ruW ru=[]
   ·have T:=fun e l1 l3=>T e l1 (.inl ⟨ha,l3⟩)
    simp only [ha,if_true] at T
    rw [ha]
    simp only [stW]
    simp -implicitDefEqProofs
    refine T _ ?_ ?_<;>simp -implicitDefEqProofs
   ·have T:=fun e l1 l3=>T e l1 (.inr ⟨ha,l3⟩)
    simp only [ha,if_false] at T
    rw [stW_ne ha]
    simp -implicitDefEqProofs
    refine T _ ?_ ?_<;>simp -implicitDefEqProofs
 ·exact ⟨Nat.zero_le _,by simp [ruW]⟩
 ·simp only [stW]
  refine weak_mk ?_ ?_ ?_ ?_ ?_ ?_<;>simp -implicitDefEqProofs
open Go.Proofs
def Rising (l:List Int):Prop:=l.Pairwise (· < ·)
theorem rising_ext: ∀ {a b:List Int},Rising a→Rising b→(∀z,z∈a↔z∈b)→a=b
 |[],[],_,_,_=>rfl
 |[],y::b,_,_,h=>by have:=(h y).2 (by simp);simp at this
 |x::a,[],_,_,h=>by have:=(h x).1 (by simp);simp at this
 |x::a,y::b,ha,hb,h=>by
  simp only [Rising,List.pairwise_cons] at ha hb
  have e:x=y:=by
   have h1:=(h x).1 (by simp)
   have h2:=(h y).2 (by simp)
   rcases List.mem_cons.1 h1 with e|h1
   ·exact e
   ·rcases List.mem_cons.1 h2 with e|h2
    ·exact e.symm
    ·have:=ha.1 y h2;have:=hb.1 x h1;omega
  subst e
  congr 1
  refine rising_ext ha.2 hb.2 (fun z=>?_)
  have hz:=h z
  simp only [List.mem_cons] at hz
  constructor
  ·intro hm
   rcases hz.1 (.inr hm) with e|e
   ·subst e;have:=ha.1 z hm;omega
   ·exact e
  ·intro hm
   rcases hz.2 (.inr hm) with e|e
   ·subst e;have:=hb.1 z hm;omega
   ·exact e
theorem sorted_le {l:List Int} (h:l.Pairwise (· ≤ ·)) {i j:Nat} (hij:i≤j) (hj:j<l.length):l[i]'(by omega)≤l[j]:=by
 rcases Nat.lt_or_eq_of_le hij with h1|h1
 ·exact List.pairwise_iff_getElem.1 h i j (by omega) hj h1
 ·subst h1;exact Int.le_refl _
theorem compact_go (l:List Int) (h:l.Pairwise (· ≤ ·)): ∀m,m≤l.length→Rising (Lib.compactUpTo l.toArray m)∧(∀z,z∈Lib.compactUpTo l.toArray m↔ ∃j,j<m∧l[j]?=some z)∧ ∀z∈Lib.compactUpTo l.toArray m,∀j,m≤j+1→ ∀y,l[j]?=some y→z≤y
 |0,_=>by
  refine ⟨by simp [Lib.compactUpTo,Rising],fun z=>by simp [Lib.compactUpTo],fun z hz=>by simp [Lib.compactUpTo] at hz⟩
 |m+1,hm=>by
  obtain ⟨h1,h2,h3⟩:=compact_go l h m (by omega)
  rw [Lib.compactUpTo_succ]
  have hml:m<l.length:=by omega
  have em:l.toArray[m]! =l[m]:=by simp [hml]
  by_cases hk:Lib.keeps l.toArray m=true
  ·rw [if_pos hk,em]
   refine ⟨?_,fun z=>?_,?_⟩
   ·unfold Rising
    rw [List.pairwise_append]
    refine ⟨h1,by simp,fun a ha b hb=>?_⟩
    simp only [List.mem_singleton] at hb
    subst hb
    rcases Nat.eq_zero_or_pos m with rfl|h0
    ·simp [Lib.compactUpTo] at ha
    ·have q:=h3 a ha (m - 1) (by omega) l[m - 1] (by simp [show m - 1<l.length by omega])
     have q2:=sorted_le h (show m - 1≤m by omega) hml
     unfold Lib.keeps at hk
     rw [decide_eq_true_eq] at hk
     rcases hk with hk|hk
     ·omega
     ·rw [em] at hk
      have e2:l.toArray[m - 1]! =l[m - 1]:=by simp [show m - 1<l.length by omega]
      rw [e2] at hk
      omega
   ·rw [List.mem_append,h2,List.mem_singleton]
    constructor
    ·rintro (⟨j,hj,e⟩|rfl)
     ·exact ⟨j,by omega,e⟩
     ·exact ⟨m,by omega,by simp [hml]⟩
    ·rintro ⟨j,hj,e⟩
     rcases Nat.lt_or_ge j m with q|q
     ·exact .inl ⟨j,q,e⟩
     ·have:j=m:=by omega
      subst this
      rw [List.getElem?_eq_getElem hml] at e
      exact .inr (Option.some.inj e).symm
   ·intro z hz j hj y hy
    have hjl:j<l.length:=(List.getElem?_eq_some_iff.1 hy).1
    rw [List.getElem?_eq_getElem hjl] at hy
    have hy:=Option.some.inj hy
    subst hy
    rcases List.mem_append.1 hz with hz|hz
    ·obtain ⟨k,hk1,hk2⟩:=(h2 z).1 hz
     have hkl:k<l.length:=by omega
     rw [List.getElem?_eq_getElem hkl] at hk2
     have hk2:=Option.some.inj hk2
     subst hk2
     exact sorted_le h (by omega) hjl
    ·simp only [List.mem_singleton] at hz
     subst hz
     exact sorted_le h (by omega) hjl
  ·rw [if_neg hk,List.append_nil]
   have hk':m≠0∧l[m]=l[m - 1]'(by omega):=by
    unfold Lib.keeps at hk
    rw [decide_eq_true_eq] at hk
    have h0:m≠0:=fun e=>hk (.inl e)
    refine ⟨h0,?_⟩
    have: ¬l.toArray[m]! ≠l.toArray[m - 1]! :=fun e=>hk (.inr e)
    rw [em,show l.toArray[m - 1]! =l[m - 1]'(by omega) by simp [show m - 1<l.length by omega]] at this
    simpa using this
   refine ⟨h1,fun z=>?_,?_⟩
   ·rw [h2]
    constructor
    ·rintro ⟨j,hj,e⟩;exact ⟨j,by omega,e⟩
    ·rintro ⟨j,hj,e⟩
     rcases Nat.lt_or_ge j m with q|q
     ·exact ⟨j,q,e⟩
     ·have:j=m:=by omega
      subst this
      refine ⟨j - 1,by omega,?_⟩
      rw [List.getElem?_eq_getElem (by omega),←hk'.2,←List.getElem?_eq_getElem hml,e]
   ·intro z hz j hj y hy
    exact h3 z hz j (by omega) y hy
theorem sortI_sorted (l:List Int):(sortI l).Pairwise (· ≤ ·):=by
 have:=List.pairwise_mergeSort (le:=fun x y:Int=>decide (x≤y)) (fun a b c h1 h2=>by simp at *;omega) (fun a b=>by simp;omega) l
 exact this.imp (fun h=>by simpa using h)
theorem sortI_mem (l:List Int) (z:Int):z∈sortI l↔z∈l:=(List.mergeSort_perm l _).mem_iff
theorem winP_rising (x:Gl):Rising (winP x):=by
 have:=(compact_go (sortI (allW x)) (sortI_sorted _) (sortI (allW x)).length (Nat.le_refl _)).1
 simpa [winP,compactI,Lib.compact] using this
theorem winP_mem (x:Gl) (z:Int):z∈winP x↔z∈allW x:=by
 have:=(compact_go (sortI (allW x)) (sortI_sorted _) (sortI (allW x)).length (Nat.le_refl _)).2.1 z
 have e:winP x=Lib.compactUpTo (sortI (allW x)).toArray (sortI (allW x)).length:=rfl
 rw [e,this,←sortI_mem]
 constructor
 ·rintro ⟨j,_,hj⟩;exact List.mem_of_getElem? hj
 ·intro h
  obtain ⟨j,hj⟩:=List.getElem?_of_mem h
  exact ⟨j,(List.getElem?_eq_some_iff.1 hj).1,hj⟩
theorem countP_lt {α:Type} (p q:α→Bool) (h: ∀x,q x=true→p x=true): ∀(l:List α),(∃x∈l,p x=true∧q x=false)→l.countP q<l.countP p
 |[],hx=>by obtain ⟨x,hx,_⟩:=hx;simp at hx
 |y::r,hx=>by
  have hle:r.countP q≤r.countP p:=List.countP_mono_left (fun x _=>h x)
  simp only [List.countP_cons]
  obtain ⟨x,hm,h1,h2⟩:=hx
  rcases List.mem_cons.1 hm with rfl|hm
  ·rw [if_pos h1,if_neg (by rw [h2];decide)];omega
  ·have:=countP_lt p q h r ⟨x,hm,h1,h2⟩
   by_cases hq:q y=true
   ·rw [if_pos hq,if_pos (h y hq)];omega
   ·rw [if_neg hq];split<;>omega
open Go.Proofs
def candP (last:Option Int) (z:Int):Prop:= ∀y,last=some y→y<z
def BInv (all:List Int) (last:Option Int) (j:Nat) (b:Int):Prop:=
 (b= -1∧ ∀k,k<j→ ∀z,all[k]?=some z→ ¬candP last z)∨ ∃n:Nat,b=n∧n<j∧ ∃m,all[n]?=some m∧candP last m∧ ∀k,k<j→ ∀z,all[k]?=some z→candP last z→m≤z
theorem BInv.skip {all:List Int} {last:Option Int} {j:Nat} {b:Int} (h:BInv all last j b) (hj: ∀z,all[j]?=some z→candP last z→ ∃n:Nat,b=n∧ ∃m,all[n]?=some m∧m≤z):BInv all last (j+1) b:=by
 rcases h with ⟨h1,h2⟩|⟨n,h1,h2,m,h3,h4,h5⟩
 ·left
  refine ⟨h1,fun k hk z hz hc=>?_⟩
  rcases Nat.lt_or_ge k j with q|q
  ·exact h2 k q z hz hc
  ·obtain rfl:k=j:=by omega
   obtain ⟨n,hn,_⟩:=hj z hz hc
   omega
 ·right
  refine ⟨n,h1,by omega,m,h3,h4,fun k hk z hz hc=>?_⟩
  rcases Nat.lt_or_ge k j with q|q
  ·exact h5 k q z hz hc
  ·obtain rfl:k=j:=by omega
   obtain ⟨n',hn',m',hm',hle⟩:=hj z hz hc
   have:n'=n:=by omega
   subst this
   rw [h3] at hm';cases hm';exact hle
theorem BInv.take {all:List Int} {last:Option Int} {j:Nat} {b:Int} (h:BInv all last j b) {z:Int} (hz:all[j]?=some z) (hc:candP last z) (hb:b<0∨ ∃n:Nat,b=n∧ ∃m,all[n]?=some m∧z<m):BInv all last (j+1) j:=by
 right
 refine ⟨j,rfl,by omega,z,hz,hc,fun k hk y hy hcy=>?_⟩
 rcases Nat.lt_or_ge k j with q|q
 ·rcases h with ⟨h1,h2⟩|⟨n,h1,h2,m,h3,h4,h5⟩
  ·exact absurd hcy (h2 k q y hy)
  ·rcases hb with hb|⟨n',hn',m',hm',hlt⟩
   ·omega
   ·have:n'=n:=by omega
    subst this
    rw [h3] at hm';cases hm'
    have:=h5 k q y hy hcy
    omega
 ·obtain rfl:k=j:=by omega
  rw [hz] at hy;cases hy;exact Int.le_refl _
structure OInv (all out:List Int):Prop where
 r:Rising out
 s: ∀z∈out,z∈all
 d: ∀z∈all,(∃y,out.getLast?=some y∧z≤y)→z∈out
theorem OInv.next {all out:List Int} (h:OInv all out) {n:Nat} {m:Int} (hm:all[n]?=some m) (hc:candP out.getLast? m) (hmin: ∀(k:Nat) z,all[k]?=some z→candP out.getLast? z→m≤z):OInv all (out++[m]):=by
 refine ⟨?_,?_,?_⟩
 ·unfold Rising
  rw [List.pairwise_append]
  refine ⟨h.r,by simp,fun a ha b hb=>?_⟩
  simp only [List.mem_singleton] at hb
  subst hb
  obtain ⟨y,hy⟩: ∃y,out.getLast?=some y:=by
   cases hl:out.getLast? with
   |none=>rw [List.getLast?_eq_none_iff] at hl;subst hl;simp at ha
   |some y=>exact ⟨y,rfl⟩
  have hcy:=hc y hy
  obtain ⟨pre,rfl⟩: ∃pre,out=pre++[y]:=by
   rw [List.getLast?_eq_some_iff] at hy;exact hy
  rcases List.mem_append.1 ha with ha|ha
  ·have:=(List.pairwise_append.1 h.r).2.2 a ha y (by simp)
   omega
  ·simp only [List.mem_singleton] at ha;omega
 ·intro z hz
  rcases List.mem_append.1 hz with hz|hz
  ·exact h.s z hz
  ·simp only [List.mem_singleton] at hz;subst hz;exact List.mem_of_getElem? hm
 ·rintro z hz ⟨y,hy,hle⟩
  simp only [List.getLast?_append,List.getLast?_singleton,Option.some_or,Option.some.injEq] at hy
  subst hy
  rw [List.mem_append]
  by_cases hcz:candP out.getLast? z
  ·obtain ⟨k,hk⟩:=List.getElem?_of_mem hz
   have:=hmin k z hk hcz
   right;simp;omega
  ·left
   unfold candP at hcz
   obtain ⟨y',hy'⟩: ∃y',out.getLast?=some y'∧ ¬y'<z:=by
    apply Classical.byContradiction
    intro hn
    exact hcz (fun y hy=>Classical.byContradiction fun hlt=>hn ⟨y,hy,hlt⟩)
   exact h.d z hz ⟨y',hy'.1,by omega⟩
theorem OInv.done {all out:List Int} (h:OInv all out) (hno: ∀(k:Nat) z,all[k]?=some z→ ¬candP out.getLast? z): ∀z,z∈out↔z∈all:=by
 intro z
 refine ⟨h.s z,fun hz=>?_⟩
 obtain ⟨k,hk⟩:=List.getElem?_of_mem hz
 have hcz:=hno k z hk
 unfold candP at hcz
 obtain ⟨y',hy'⟩: ∃y',out.getLast?=some y'∧ ¬y'<z:=by
  apply Classical.byContradiction
  intro hn
  exact hcz (fun y hy=>Classical.byContradiction fun hlt=>hn ⟨y,hy,hlt⟩)
 exact h.d z hz ⟨y',hy'.1,by omega⟩
def candB (last:Option Int) (z:Int):Bool:=match last with
 |none=>true
 |some y=>decide (y<z)
theorem candB_iff (last:Option Int) (z:Int):candB last z=true↔candP last z:=by
 cases last with
 |none=>simp [candB,candP]
 |some y=>simp [candB,candP]
theorem next_lt {all out:List Int} {n:Nat} {m:Int} (hm:all[n]?=some m) (hc:candP out.getLast? m):all.countP (candB (out++[m]).getLast?)<all.countP (candB out.getLast?):=by
 have e:(out++[m]).getLast?=some m:=by simp
 rw [e]
 refine countP_lt _ _ (fun x hx=>?_) all ⟨m,List.mem_of_getElem? hm,(candB_iff _ _).2 hc,by simp [candB]⟩
 rw [candB_iff]
 have:m<x:=by simpa [candB] using hx
 intro y hy
 have:=hc y hy
 omega
theorem intRows_at (l:List Int) (i:Nat) (h:i<l.length): ∀h2,(intRows l)[i]'h2=[i6 l[i]]:=fun h2=>by simp [intRows]
theorem intRows_snoc (l:List Int) (z:Int):intRows (l++[z])=intRows l++[[i6 z]]:=by simp [intRows]
end Go.Ai
