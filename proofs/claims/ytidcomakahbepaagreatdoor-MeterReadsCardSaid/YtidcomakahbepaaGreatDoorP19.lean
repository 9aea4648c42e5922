/- P19: a part of the proof: the rules, or what functions compute. Conditions: as each theorem says. -/
import Derived.Test.YtidcomakahbepaaGreatDoorP18
import Derived.Test.YtidcomakahbepaaGreatDoorP14
import Derived.Test.YtidcomakahbepaaGreatDoorP13
import Derived.Test.YtidcomakahbepaaGreatDoorP17
import Derived.Test.YtidcomakahbepaaGreatDoorP15
set_option linter.unusedSimpArgs false
set_option linter.unusedVariables false
set_option maxRecDepth 20000
namespace Go.Ai
open Go.Proofs
def wndV (Wl:List Int) (K w:Nat→Nat) (t:Nat) (L:List Ev) (sd:Bool) (z:Int):AV:=
 if z∈Wl then (if sd=true then .tup [.agg [u 0,u 0],i6 17] else .tup [.agg [u (sumG (K (bsI Wl z)) (w (bsI Wl z)) (t / w (bsI Wl z)) L),u (sumT (K (bsI Wl z)) (w (bsI Wl z)) (t / w (bsI Wl z)) L)],i6 0]) else .tup [.agg [u 0,u 0],i6 7]
theorem mwindow_spec (M A:Id) (R B:Nat→Id) (h:Nms M A R B) (x:Gl) (n:Nat) (hn:n≤1000000) (Wl:List Int) (hW:Wl.length=n) (hr:Rising Wl) (K w:Nat→Nat) (t:Nat) (L:List Ev) (sd:Bool) (z:Int) (d:Nat) (hd:M.isNw d=false):
  SpH Tryz.prog gl 18 d ⟨[.ptr M 0,i6 z],mtB M A R B x n (intRows Wl) K w t L sd,[]⟩ ⟨wndV Wl K w t L sd z,mtB M A R B x n (intRows Wl) K w t L sd,[]⟩:=by
 refine h18 rfl ?_
 obtain ⟨W,hWr⟩: ∃W,W=intRows Wl:=⟨_,rfl⟩
 have BS:=bsearch_spec Wl hr (by omega) z
 have hm:=bsI_mem (z:=z) hr
 rw [←hWr] at BS ⊢
 have hsh:shutL [AV.sl W]=some [AV.sl W]:=rfl
 have hu:=h.up
 have hi:=inn_notNw hd
 have hdA:A.isNw d=false:=by rw [←h.na];exact hd
 have hiA:=inn_notNw hdA
 have mi:=h.mi
 have ai:=h.ai
 have ma:=h.ma
 have ma':A≠M:=fun e=>h.ma e.symm
 have mr:=h.mr
 have mb:=h.mb
 have ar:=h.ar
 have ab:=h.ab
 have mr': ∀i,¬R i=M:=fun i e=>h.mr i e.symm
 have mb': ∀i,¬B i=M:=fun i e=>h.mb i e.symm
 have ar': ∀i,¬R i=A:=fun i e=>h.ar i e.symm
 have ab': ∀i,¬B i=A:=fun i e=>h.ab i e.symm
 have hpa:=fun i (hi:i<n)=>ptrC_at (R:=fun i=>Id.up (R i)) hi
 have hpl:=ptrC_len (fun i=>Id.up (R i)) n
 have hpu:=ptrC_up (R:=R) (n:=n)
 have hpo: ∀ob,∀i∈idsL (ptrC R n),idOk d ob i:=fun ob=>ptrC_outi h hd
 have hpi:=ptrC_inn h (n:=n) hd
 have hfree:=fun C D s=>rgs_free (R:=R) (B:=B) (C:=C) (D:=D) (n:=n) (s:=s)
 have hnn:=fun C D s=>rgsB_none (R:=fun i=>Id.up (R i)) (B:=fun i=>Id.up (B i)) (C:=C) (D:=D) (x:= .n s) (fun i e=>by cases e) (fun i e=>by cases e) n
 have hin:=mtB_up M A R B x n W K w t L sd
 have SM:=fun i e he=>rsum_spec (.up (R i)) (.up (B i)) (h.pr i).up (K i) (w i) (t / w i) t (sumG (K i) (w i) (t / w i) L) (sumT (K i) (w i) (t / w i) L) e he
 simp only [←ringC_eq] at SM
 have hout:=fun σ=>rgs_out h (C:=rgC K w t L) (D:=rgD K w t L) (n:=n) (d:=d) (σ:=σ) hd (fun f i b=>rgC_mp f K w t _ i b) (fun f i=>rgD_mp f K w t _ i)
 have houi:=fun ob=>rgs_outi h (C:=rgC K w t L) (D:=rgD K w t L) (n:=n) (d:=d) (ob:=ob) hd (rgC_ids K w t _) (rgD_ids K w t _)
 have hlk: ∀i,i<n→lkB (rgsB (fun i=> .up (R i)) (fun i=> .up (B i)) (rgC K w t L) (rgD K w t L) n) (.up (R i))=some (rgC K w t L i (.up (B i)))∧lkB (rgsB (fun i=> .up (R i)) (fun i=> .up (B i)) (rgC K w t L) (rgD K w t L) n) (.up (B i))=some (rgD K w t L i):=
  fun i hi=>⟨rgsB_R hu n hi,rgsB_B hu n hi⟩
 have fr:=hfree (rgC K w t L) (rgD K w t L)
 simp only [inSt,mpL,mpP,AV.mp,hin]
 clear hin
 generalize ptrC (fun i=>Id.up (R i)) n=PC at *
 unfold wndV
 generalize hk:bsI Wl z=k at *
 simp only [mtB,mtC]
 by_cases c:z∈Wl
 ·rw [decide_eq_true c] at BS
  rw [if_pos c]
  have kn:k<n:=by
   have:=hm.1 c
   obtain ⟨hl,-⟩:=List.getElem?_eq_some_iff.1 this
   omega
  cases sd with
  |true=>
   rw [if_pos rfl]
   simp -implicitDefEqProofs [c18,hnn]
   refine onC_mk _ BS ?_
   simp -implicitDefEqProofs
   refine postH_r ⟨?_,?_,?_,?_,?_,?_⟩
   ·simp
   ·simp
   ·intro p hp
    rcases List.mem_cons.1 hp with rfl|hp
    ·simp [hi,hiA,mi]
    ·rcases List.mem_cons.1 hp with rfl|hp
     ·simp [hi,hiA,ai,ma,ma',hpi]
     ·refine hout _ (fun i hi=>?_) p hp
      simp -implicitDefEqProofs [mr,mb,ar,ab,hlk i hi]
   ·intro p hp
    rcases List.mem_cons.1 hp with rfl|hp
    ·simp [ai,hdA]
    ·rcases List.mem_cons.1 hp with rfl|hp
     ·exact hpo _
     ·exact houi _ p hp
   ·simp
   ·simp
  |false=>
   rw [if_neg (by simp)]
   obtain ⟨lR,lB⟩:=hlk k kn
   have SMk:=SM k
   have e0:PC[k]?=some (.ptr (.up (R k)) 0):=hpa k kn
   have kl:k<PC.length:=by omega
   have e1:PC[k]'kl= .ptr (.up (R k)) 0:=by rw [List.getElem?_eq_getElem kl] at e0;exact Option.some.inj e0
   have kn':(k:Int)<n:=by omega
   have rb2: ∀i j,¬R i=B j:=fun i j=>h.rb i j
   have rb3: ∀i j,¬B i=R j:=fun i j e=>h.rb j i e.symm
   simp only [rgC] at lR
   simp -implicitDefEqProofs [c18,hnn]
   refine onC_mk _ BS ?_
   simp -implicitDefEqProofs [e0,e1,kl,hpl,ma,ma',kn,kn']
   refine onH_mk _ _ (SMk _ rfl) ⟨?_,?_,?_,?_,?_,?_,?_⟩ ?_
   iterate 6 (· simp [lR,lB,mr,mb,ar,ab,mr',mb',ar',ab'])
   ·simp;exact fr _
   simp -implicitDefEqProofs [mr,mb,ar,ab,mr',mb',ar',ab']
   refine postH_r ⟨?_,?_,?_,?_,?_,?_⟩
   ·simp
   ·simp
   ·intro p hp
    rcases List.mem_cons.1 hp with rfl|hp
    ·simp [hi,hiA,mi,mr',mb']
    ·rcases List.mem_cons.1 hp with rfl|hp
     ·simp [hi,hiA,ai,ma,ma',hpi,ar',ab']
     ·refine hout _ (fun i hi=>?_) p hp
      by_cases e:i=k
      ·subst e;simp -implicitDefEqProofs [rb2,rb3,rgC,rgD,mb,ab,lkB_rmB,lB]
      ·have n1: ¬R k=R i:=fun q=>e (h.rr _ _ q).symm
       have n2: ¬B k=B i:=fun q=>e (h.bb _ _ q).symm
       simp -implicitDefEqProofs [lkB_rmB,mr,mb,ar,ab,n1,n2,rb2,rb3,hlk i hi]
   ·intro p hp
    rcases List.mem_cons.1 hp with rfl|hp
    ·simp [ai,hdA]
    ·rcases List.mem_cons.1 hp with rfl|hp
     ·exact hpo _
     ·exact houi _ p hp
   ·simp
   ·simp
 ·rw [decide_eq_false c] at BS
  rw [if_neg c]
  simp -implicitDefEqProofs [c18,hnn]
  refine onC_mk _ BS ?_
  simp -implicitDefEqProofs
  refine postH_r ⟨?_,?_,?_,?_,?_,?_⟩
  ·simp
  ·simp
  ·intro p hp
   rcases List.mem_cons.1 hp with rfl|hp
   ·simp [hi,hiA,mi]
   ·rcases List.mem_cons.1 hp with rfl|hp
    ·simp [hi,hiA,ai,ma,ma',hpi]
    ·refine hout _ (fun i hi=>?_) p hp
     simp -implicitDefEqProofs [mr,mb,ar,ab,hlk i hi]
  ·intro p hp
   rcases List.mem_cons.1 hp with rfl|hp
   ·simp [ai,hdA]
   ·rcases List.mem_cons.1 hp with rfl|hp
    ·exact hpo _
    ·exact houi _ p hp
  ·simp
  ·simp
open Go.Proofs
def R0 (i:Nat):Id:= .ix (.n 1) i
def B0 (i:Nat):Id:= .ix (.n 2) i
theorem ring_rn (a b:Id) (k:Nat) (ha:a= .nw 30 (.n 23)) (hb:b= .nw 30 (.n 21)): ∃f g:Id→Id,RnOk f g∧f a=R0 k∧f b=B0 k∧(∀j,f (.n j)= .n j)∧(∀j,f (.up j)= .up j)∧ ∀i,i<k→f (R0 i)=R0 i∧f (B0 i)=B0 i:=by
 subst ha hb
 have s1:=swp_ok (a:= .nw 30 (.n 23)) (b:=R0 k) rfl rfl rfl rfl
 have s2:=swp_ok (a:= .nw 30 (.n 21)) (b:=B0 k) rfl rfl rfl rfl
 refine ⟨_,_,s1.comp s2,?_,?_,fun j=>?_,fun j=>?_,fun i hi=>⟨?_,?_⟩⟩
 ·simp [swp,R0,B0]
 ·simp [swp,R0,B0]
 ·simp [swp,R0,B0]
 ·simp [swp,R0,B0]
 ·have: ¬i=k:=by omega
  simp [swp,R0,B0,this]
 ·have: ¬i=k:=by omega
  simp [swp,R0,B0,this]
theorem nms0 (d:Nat):Nms (.nw d (.n 16)) (.nw d (.n 40)) (fun i=> .nw d (R0 i)) (fun i=> .nw d (B0 i)):=by
 refine ⟨rfl,rfl,fun _=>rfl,fun _=>rfl,?_,?_,?_,?_,?_,?_,?_,?_,fun _=>rfl,fun _ _=>rfl,fun _ _=>rfl⟩
 ·intro i j e;simp [R0] at e;exact e
 ·intro i j e;simp [B0] at e;exact e
 ·intro i j e;simp [R0,B0] at e
 ·intro i e;simp [R0] at e
 ·intro i e;simp [B0] at e
 ·intro i e;simp [R0] at e
 ·intro i e;simp [B0] at e
 ·intro e;simp at e
theorem nms1:Nms (.n 16) (.n 40) R0 B0:=by
 refine ⟨rfl,rfl,fun _=>rfl,fun _=>rfl,?_,?_,?_,?_,?_,?_,?_,?_,fun _=>rfl,fun _ _=>rfl,fun _ _=>rfl⟩
 ·intro i j e;simp [R0] at e;exact e
 ·intro i j e;simp [B0] at e;exact e
 ·intro i j e;simp [R0,B0] at e
 ·intro i e;simp [R0] at e
 ·intro i e;simp [B0] at e
 ·intro i e;simp [R0] at e
 ·intro i e;simp [B0] at e
 ·intro e;simp at e
theorem mnew_bad (x:Gl) (hf:x.Fit) (hx:goalP x=false) (d:Nat):SpH Tryz.prog gl 35 d ⟨[.agg x.row],[],[]⟩ ⟨.tup [.nilp,i6 2],[],[]⟩:=by
 refine h35 rfl ?_
 have G:=goal_spec x hf
 rw [hx] at G
 have hids:idsL x.row=[]:=rfl
 simp only [Gl.row] at G ⊢
 simp only [inSt,mpL,mpB,mpP,AV.mp]
 simp -implicitDefEqProofs [c35]
 refine onC_mk _ G ?_
 simp -implicitDefEqProofs
 refine postH_r ⟨?_,?_,?_,?_,?_,?_⟩<;>simp -implicitDefEqProofs
theorem purB_app (b:Id) (l m:List (Id×List AV)):purB (l++m) b=purB l b++purB m b:=by simp [purB]
theorem purB_rgs {b:Id} {R B:Nat→Id} {C:Nat→Id→List AV} {D:Nat→List AV} (hC: ∀i x,idsL (C i x)=[x]) (hD: ∀i,idsL (D i)=[]) (hb: ∀i,b≠B i): ∀n,purB (rgsB R B C D n) b=rgsB R B C D n
 |0=>rfl
 |n+1=>by
  rw [rgsB_succ,purB_app,purB_rgs hC hD hb n]
  have e1:purC b (C n (B n))=C n (B n):=purC_same (by rw [hC];simp [hb n])
  have e2:purC b (D n)=D n:=purC_same (by rw [hD];simp)
  simp only [purB,List.map_cons,List.map_nil,e1,e2]
theorem purB_cons (b d:Id) (c:List AV) (r:List (Id×List AV)):purB ((d,c)::r) b=(d,purC b c)::purB r b:=rfl
theorem purC_cons (b:Id) (v:AV) (r:List AV):purC b (v::r)=(if b∈v.ids then .undef else v)::purC b r:=rfl
theorem purC_nil (b:Id):purC b []=[]:=rfl
def rgV (k:Nat):AV:=if k=0 then .nils else .ms (.n 40) 0 k 1
def abx (k:Nat):List (Id×List AV):=if k=0 then [] else [(.n 40,ptrC R0 k)]
theorem mpL_app (f:Id→Id): ∀a b:List AV,mpL f (a++b)=mpL f a++mpL f b
 |[],b=>rfl
 |x::r,b=>by simp only [List.cons_append,mpL,mpL_app f r b]
theorem ptrC_succ (R:Nat→Id) (n:Nat):ptrC R (n+1)=ptrC R n++[.ptr (R n) 0]:=by unfold ptrC;rw [List.range_succ];simp
theorem ptrC_congr {R R':Nat→Id} {n:Nat} (h: ∀i,i<n→R i=R' i):ptrC R n=ptrC R' n:=by
 unfold ptrC
 exact List.map_congr_left fun i hi=>by rw [h i (List.mem_range.1 hi)]
theorem rgsB_names {R B R' B':Nat→Id} {C:Nat→Id→List AV} {D:Nat→List AV}: ∀ {n:Nat},(∀i,i<n→R i=R' i∧B i=B' i)→rgsB R B C D n=rgsB R' B' C D n
 |0,_=>rfl
 |n+1,h=>by rw [rgsB_succ,rgsB_succ,rgsB_names (fun i hi=>h i (by omega)),(h n (by omega)).1,(h n (by omega)).2]
theorem mnew_spec (x:Gl) (hf:x.Fit) (hl:x.ru.length≤10) (hx:goalP x=true) (n:Nat) (hn:n≤1000000) (hn1:1≤n) (hW:(winP x).length=n) (g:Nat) (hg:x.g=(g:Nat)) (wd:Nat→Nat) (hwd: ∀i,i<n→(winP x)[i]?=some ((wd i:Nat):Int)∧Wd (wd i) g) (d:Nat):
  SpH Tryz.prog gl 35 d ⟨[.agg x.row],[],[]⟩ ⟨.tup [.ptr (.nw d (.n 16)) 0,i6 0],mtB (.nw d (.n 16)) (.nw d (.n 40)) (fun i=> .nw d (R0 i)) (fun i=> .nw d (B0 i)) x n (intRows (winP x)) (fun i=>wK (wd i) g) (fun i=>wW (wd i) g) 0 [] false,[]⟩:=by
 refine h35 rfl ?_
 have G:=goal_spec x hf
 rw [hx] at G
 have WS:=win_spec x hl
 have hrow:x.row=[.str x.n,.int .u32 x.t,i6 x.g,i6 x.a,i6 x.o,i6 x.c,.sl (x.lb.map Lb.row),.sl (x.ru.map Ru.row)]:=rfl
 have hWl:(intRows (winP x)).length=n:=by rw [intRows_len];exact hW
 have hW1:=intRows_one (winP x)
 have hWa: ∀k,(hk:k<n)→(intRows (winP x))[k]'(hWl▸hk)=[i6 ((wd k:Nat):Int)]:=fun k hk=>by
  have h1:=(hwd k hk).1
  have hk':k<(winP x).length:=by omega
  rw [List.getElem?_eq_getElem hk'] at h1
  simp only [intRows,List.getElem_map,Option.some.inj h1]
 have RN:=fun k (hk:k<n) e=>rnew_spec (wd k) g (hwd k hk).2 e
 generalize intRows (winP x)=W at *
 rw [hrow,hg] at G WS ⊢
 simp only [inSt,mpL,mpB,mpP,AV.mp]
 simp -implicitDefEqProofs [c35]
 refine onC_mk _ G ?_
 simp -implicitDefEqProofs
 refine onC_mk _ WS ?_
 simp -implicitDefEqProofs
 refine wp_lpr (α:=Nat) (fun k=>⟨[(1,.ptr (.n 1) 0),(4,.ptr (.n 16) 0),(20,.sl W),(21,i6 n),(22,i6 k)],(.n 1,[.str x.n,.int .u32 x.t,i6 g,i6 x.a,i6 x.o,i6 x.c,.sl (x.lb.map Lb.row),.sl (x.ru.map Ru.row)])::(.n 16,[.str x.n,.int .u32 x.t,i6 g,i6 x.a,i6 x.o,i6 x.c,.sl (x.lb.map Lb.row),.sl (x.ru.map Ru.row),.sl W,rgV k,i6 0,i6 0,u 0,u 0,i6 0,.bool false])::(abx k++rgsB R0 B0 (rgC (fun i=>wK (wd i) g) (fun i=>wW (wd i) g) 0 []) (rgD (fun i=>wK (wd i) g) (fun i=>wW (wd i) g) 0 []) k),[]⟩) (fun k=>k≤n) (fun k=>n - k) ?_ 0 ?_ ?_
 ·intro K' k hK' k1
  by_cases c:k<n
  ·have c':(k:Int)<n:=by omega
   have w1:IntKind.i64.wrap ((k:Int)+1)=(k+1:Nat):=by rw [wr]<;>omega
   have wl:k<W.length:=by omega
   have ew:=hWa k c
   have ew0:W[k]?=some [i6 ((wd k:Nat):Int)]:=by rw [List.getElem?_eq_getElem wl,ew]
   have RNk:=RN k c 30
   obtain ⟨f,f',hok,fa,fb,fn,fu,fR⟩:=ring_rn _ _ k rfl rfl
   have hRR: ∀i j,(R0 i=R0 j)=(i=j):=fun i j=>by simp [R0]
   have hBB: ∀i j,(B0 i=B0 j)=(i=j):=fun i j=>by simp [B0]
   have hRB: ∀i j,¬R0 i=B0 j:=fun i j=>nms1.rb i j
   have hBR: ∀i j,¬B0 i=R0 j:=fun i j e=>nms1.rb j i e.symm
   have hnR: ∀s i,¬Id.n s=R0 i:=fun s i e=>by simp [R0] at e
   have hnB: ∀s i,¬Id.n s=B0 i:=fun s i e=>by simp [B0] at e
   have hRn: ∀s i,¬R0 i=Id.n s:=fun s i e=>by simp [R0] at e
   have hBn: ∀s i,¬B0 i=Id.n s:=fun s i e=>by simp [B0] at e
   have hnn: ∀C D s,lkB (rgsB R0 B0 C D k) (.n s)=none:=fun C D s=>rgsB_none (hnR s) (hnB s) k
   have hmr:mpL f (rgL (.nw 30 (.n 21)) (wK (wd k) g) (wW (wd k) g) 0 0 0 0)=rgL (B0 k) (wK (wd k) g) (wW (wd k) g) 0 0 0 0:=by
    simp only [rgL,mpL,AV.mp,fb]
   have hrg: ∀b,ringC b (wK (wd k) g) (wW (wd k) g) 0 []=rgL b (wK (wd k) g) (wW (wd k) g) 0 0 0 0:=fun b=>by
    rw [ringC_nil,Nat.zero_div]
   have hbk:bkC (wK (wd k) g) (wW (wd k) g) 0 []=bkC (wK (wd k) g) (wW (wd k) g) (0 / wW (wd k) g) []:=by rw [Nat.zero_div]
   have hbi:idsL (bkC (wK (wd k) g) (wW (wd k) g) 0 [])=[]:=cellsF_ids _ _ _
   have hbm:=mpL_noids (f:=f) hbi
   have lt': ∀i,i<k+1→lkB (rgsB R0 B0 (rgC (fun i=>wK (wd i) g) (fun i=>wW (wd i) g) 0 []) (rgD (fun i=>wK (wd i) g) (fun i=>wW (wd i) g) 0 []) (k+1)) (R0 i)=some (rgC (fun i=>wK (wd i) g) (fun i=>wW (wd i) g) 0 [] i (B0 i))∧lkB (rgsB R0 B0 (rgC (fun i=>wK (wd i) g) (fun i=>wW (wd i) g) 0 []) (rgD (fun i=>wK (wd i) g) (fun i=>wW (wd i) g) 0 []) (k+1)) (B0 i)=some (rgD (fun i=>wK (wd i) g) (fun i=>wW (wd i) g) 0 [] i):=
    fun i hi=>⟨rgsB_R nms1 (k+1) hi,rgsB_B nms1 (k+1) hi⟩
   have hab:abx (k+1)=[(.n 40,ptrC R0 (k+1))]:=if_neg (by omega)
   have hrv:rgV (k+1)= .ms (.n 40) 0 (k+1) 1:=if_neg (by omega)
   have fin:=fun σ' hσ=>hK' (k+1) σ' (by omega) (by omega) (.inr ⟨f,f',hok,hσ⟩)
   simp only [hab,hrv] at fin
   have rC:rgC (fun i=>wK (wd i) g) (fun i=>wW (wd i) g) 0 [] k (B0 k)=rgL (B0 k) (wK (wd k) g) (wW (wd k) g) 0 0 0 0:=hrg _
   have rD:rgD (fun i=>wK (wd i) g) (fun i=>wW (wd i) g) 0 [] k=bkC (wK (wd k) g) (wW (wd k) g) 0 []:=hbk.symm
   have cids:=rgC_ids (fun i=>wK (wd i) g) (fun i=>wW (wd i) g) 0 []
   have dids:=rgD_ids (fun i=>wK (wd i) g) (fun i=>wW (wd i) g) 0 []
   have cmp:=fun f i b=>rgC_mp f (fun i=>wK (wd i) g) (fun i=>wW (wd i) g) 0 [] i b
   have dmp:=fun f i=>rgD_mp f (fun i=>wK (wd i) g) (fun i=>wW (wd i) g) 0 [] i
   simp only [hrg] at RNk
   clear hK' RN hWa hwd hbk
   generalize rgC (fun i=>wK (wd i) g) (fun i=>wW (wd i) g) 0 []=C at *
   generalize rgD (fun i=>wK (wd i) g) (fun i=>wW (wd i) g) 0 []=D at *
   generalize bkC (wK (wd k) g) (wW (wd k) g) 0 []=X at *
   have hpt:mpL f (ptrC R0 k++[.ptr (.nw 30 (.n 23)) 0])=ptrC R0 (k+1):=by
    rw [mpL_app,ptrC_mp,ptrC_succ,ptrC_congr (fun i hi=>(fR i hi).1)]
    simp only [mpL,AV.mp,fa]
   have hmb:mpB f (rgsB R0 B0 C D k)=rgsB R0 B0 C D k:=by rw [mpB_rgs (cmp f) (dmp f),rgsB_names fR]
   have hlim:lim=140737488355328:=rfl
   by_cases k0:k=0
   ·subst k0
    have rg0:rgsB R0 B0 C D 0=[]:=rfl
    have pt0:ptrC R0 0=[]:=rfl
    rw [pt0] at hpt
    simp only [List.nil_append] at hpt
    simp -implicitDefEqProofs [c,c',ew,ew0,wl,hWl,hW1,rgV,abx,rg0]
    refine onH_mk _ _ RNk ⟨?_,?_,?_,?_,?_,?_,?_⟩ ?_
    iterate 7 (· simp)
    have p1:ptrC R0 1=[.ptr (R0 0) 0]:=rfl
    simp -implicitDefEqProofs [rg0,hlim,w1]
    refine fin _ (weak_mk ?_ ?_ ?_ ?_ ?_ ?_)
    ·simp [St.rn,fn,fu,fa,fb,hnR,hnB,hRn,hBn,hRR,hBB,hRB,hBR,hmr,hbm,hpt,rC,rD,w1,w64_1]
    ·intro p hp
     rcases List.mem_cons.1 hp with rfl|hp
     ·simp [St.rn,fn,fu,fa,fb,hnR,hnB,hRn,hBn,hRR,hBB,hRB,hBR,hmr,hbm,hpt,rC,rD]
     ·rcases List.mem_cons.1 hp with rfl|hp
      ·simp [St.rn,fn,fu,fa,fb,hnR,hnB,hRn,hBn,hRR,hBB,hRB,hBR,hmr,hbm,hpt,rC,rD]
      ·rcases List.mem_cons.1 hp with rfl|hp
       ·simp [St.rn,fn,fu,fa,fb,hnR,hnB,hRn,hBn,hRR,hBB,hRB,hBR,hmr,hbm,hpt,p1,rC,rD]
       ·obtain ⟨i,hi,e⟩:=mem_rgsB.1 hp
        by_cases hik:i=0
        ·subst hik
         rcases e with rfl|rfl
         ·simp [St.rn,fn,fu,fa,fb,hnR,hnB,hRn,hBn,hRR,hBB,hRB,hBR,hmr,hbm,hpt,rC,rD,hmb,lkB_rmB]
         ·simp [St.rn,fn,fu,fa,fb,hnR,hnB,hRn,hBn,hRR,hBB,hRB,hBR,hmr,hbm,hpt,rC,rD,hmb,lkB_rmB]
        ·exfalso;omega
    ·simp
    ·simp [hnR,hnB]
    ·intro p hp
     rcases List.mem_cons.1 hp with rfl|hp
     ·simp
     ·rcases List.mem_cons.1 hp with rfl|hp
      ·simp
      ·rcases List.mem_cons.1 hp with rfl|hp
       ·intro j hj
        obtain ⟨i,hi,rfl⟩:=ptrC_ids hj
        simp -implicitDefEqProofs [hnR,lt' i hi]
       ·obtain ⟨i,hi,e⟩:=mem_rgsB.1 hp
        intro j hj
        rcases e with rfl|rfl
        ·simp only [cids,List.mem_singleton] at hj
         subst hj
         simp -implicitDefEqProofs [hnB,lt' i hi]
        ·simp only [dids] at hj
         simp at hj
    ·simp
   ·have rv:rgV k= .ms (.n 40) 0 k 1:=if_neg k0
    have ab:abx k=[(.n 40,ptrC R0 k)]:=if_neg k0
    have pl:=ptrC_len R0 k
    have hpu:=purB_rgs (b:= .n 40) (n:=k) cids dids (R:=R0) (B:=B0) (hnB 40)
    have pi: ∀s,¬Id.n s∈idsL (ptrC R0 k):=fun s q=>by
     obtain ⟨i,_,e⟩:=ptrC_ids q
     exact hnR _ _ e
    have l1:(k+1)*8≤140737488355328:=by omega
    simp only [rv,ab]
    simp -implicitDefEqProofs [c,c',ew,ew0,wl,hWl,hW1,hnn]
    refine onH_mk _ _ RNk ⟨?_,?_,?_,?_,?_,?_,?_⟩ ?_
    iterate 6 (· simp)
    ·simp
     intro a b hm
     obtain ⟨i,_,e|e⟩:=mem_rgsB.1 hm<;>cases e<;>rfl
    have hpr:purC (.n 40) (rgL (.nw 30 (.n 21)) (wK (wd k) g) (wW (wd k) g) 0 0 0 0)=rgL (.nw 30 (.n 21)) (wK (wd k) g) (wW (wd k) g) 0 0 0 0:=purC_same (by simp [rgL,idsL,AV.ids])
    have hpX:purC (.n 40) X=X:=purC_same (by rw [hbi];simp)
    have hpP:purC (.n 40) (ptrC R0 k)=ptrC R0 k:=purC_same (pi 40)
    have hrm:rmB (rgsB R0 B0 C D k) (.n 40)=rgsB R0 B0 C D k:=rgsB_rm (hnR 40) (hnB 40) k
    simp -implicitDefEqProofs [hlim,w1,hnn]
    simp -implicitDefEqProofs [purB_cons,purC_cons,purC_nil,hpr,hpX,hpP,hpu,hrm,hnn,pl,pi 40,l1,AV.ids]
    refine fin _ (weak_mk ?_ ?_ ?_ ?_ ?_ ?_)
    ·simp [St.rn,fn,fu,fa,fb,hnR,hnB,hRn,hBn,hRR,hBB,hRB,hBR,hmr,hbm,hpt,rC,rD,w1,w64_1]
    ·intro p hp
     rcases List.mem_cons.1 hp with rfl|hp
     ·simp [St.rn,fn,fu,fa,fb,hnR,hnB,hRn,hBn,hRR,hBB,hRB,hBR,hmr,hbm,hpt,rC,rD]
     ·rcases List.mem_cons.1 hp with rfl|hp
      ·simp [St.rn,fn,fu,fa,fb,hnR,hnB,hRn,hBn,hRR,hBB,hRB,hBR,hmr,hbm,hpt,rC,rD]
      ·rcases List.mem_cons.1 hp with rfl|hp
       ·simp [St.rn,fn,fu,fa,fb,hnR,hnB,hRn,hBn,hRR,hBB,hRB,hBR,hmr,hbm,hpt,rC,rD]
       ·obtain ⟨i,hi,e⟩:=mem_rgsB.1 hp
        by_cases hik:i=k
        ·subst hik
         rcases e with rfl|rfl
         ·simp [St.rn,fn,fu,fa,fb,hnR,hnB,hRn,hBn,hRR,hBB,hRB,hBR,hmr,hbm,hpt,rC,rD,hmb,lkB_rmB]
         ·simp [St.rn,fn,fu,fa,fb,hnR,hnB,hRn,hBn,hRR,hBB,hRB,hBR,hmr,hbm,hpt,rC,rD,hmb,lkB_rmB]
        ·have hi2:i<k:=by omega
         have hik': ¬k=i:=fun q=>hik q.symm
         rcases e with rfl|rfl
         ·simp [St.rn,fn,fu,fa,fb,hnR,hnB,hRn,hBn,hRR,hBB,hRB,hBR,hmr,hbm,hpt,rC,rD,hmb,lkB_rmB,hik,hik',rgsB_R nms1 k hi2]
         ·simp [St.rn,fn,fu,fa,fb,hnR,hnB,hRn,hBn,hRR,hBB,hRB,hBR,hmr,hbm,hpt,rC,rD,hmb,lkB_rmB,hik,hik',rgsB_B nms1 k hi2]
    ·simp
    ·simp [hnR,hnB]
    ·intro p hp
     rcases List.mem_cons.1 hp with rfl|hp
     ·simp
     ·rcases List.mem_cons.1 hp with rfl|hp
      ·simp
      ·rcases List.mem_cons.1 hp with rfl|hp
       ·intro j hj
        obtain ⟨i,hi,rfl⟩:=ptrC_ids hj
        simp -implicitDefEqProofs [hnR,lt' i hi]
       ·obtain ⟨i,hi,e⟩:=mem_rgsB.1 hp
        intro j hj
        rcases e with rfl|rfl
        ·simp only [cids,List.mem_singleton] at hj
         subst hj
         simp -implicitDefEqProofs [hnB,lt' i hi]
        ·simp only [dids] at hj
         simp at hj
    ·simp
  ·obtain rfl:k=n:=by omega
   have c': ¬(k:Int)<k:=by omega
   have c2: ¬k<k:=Nat.lt_irrefl _
   have rv:rgV k= .ms (.n 40) 0 k 1:=if_neg (by omega)
   have ab:abx k=[(.n 40,ptrC R0 k)]:=if_neg (by omega)
   have PS:=mperiod_spec (.n 16) (.n 40) ⟨rfl,rfl,by simp,fun _=>rfl⟩ x k W 0 0 0 0 0 false 0 (by omega) 48 rfl
   simp only [mtC,hg] at PS
   have cids:=rgC_ids (fun i=>wK (wd i) g) (fun i=>wW (wd i) g) 0 []
   have dids:=rgD_ids (fun i=>wK (wd i) g) (fun i=>wW (wd i) g) 0 []
   have cmp:=fun f i b=>rgC_mp f (fun i=>wK (wd i) g) (fun i=>wW (wd i) g) 0 [] i b
   have dmp:=fun f i=>rgD_mp f (fun i=>wK (wd i) g) (fun i=>wW (wd i) g) 0 [] i
   have hpz:pcG x.c 0 []=0∧pcT x.c 0 []=0:=by unfold pcG pcT;split<;>exact ⟨rfl,rfl⟩
   simp only [rv,ab]
   simp only [mtB,mtC,hpz,hg]
   clear hK' RN hWa hwd
   generalize rgC (fun i=>wK (wd i) g) (fun i=>wW (wd i) g) 0 []=C at *
   generalize rgD (fun i=>wK (wd i) g) (fun i=>wW (wd i) g) 0 []=D at *
   simp -implicitDefEqProofs [c',c2]
   refine onH_mk _ _ PS ⟨?_,?_,?_,?_,?_,?_,?_⟩ ?_
   iterate 6 (· simp)
   ·simp
    intro a b hm
    obtain ⟨i,_,e|e⟩:=mem_rgsB.1 hm<;>cases e<;>rfl
   have hrm:=rgsB_rm (R:=R0) (B:=B0) (C:=C) (D:=D) (x:= .n 16) (nms1.mr) (nms1.mb) k
   have i1: ∀i,(Id.nw d (R0 i)).inn d=R0 i:=fun i=>by simp [R0]
   have i2: ∀i,(Id.nw d (B0 i)).inn d=B0 i:=fun i=>by simp [B0]
   have hpi:mpL (Id.inn d) (ptrC (fun i=> .nw d (R0 i)) k)=ptrC R0 k:=by
    rw [ptrC_mp];exact ptrC_congr fun i _=>i1 i
   have hnR: ∀s i,¬Id.n s=R0 i:=fun s i e=>by simp [R0] at e
   have hnB: ∀s i,¬Id.n s=B0 i:=fun s i e=>by simp [B0] at e
   have n0:=nms0 d
   have o1:=n0.mr
   have o2:=n0.mb
   have o3:=n0.ar
   have o4:=n0.ab
   simp -implicitDefEqProofs [hrm]
   refine postH_r ⟨?_,?_,?_,?_,?_,?_⟩
   ·simp
   ·simp
   ·intro p hp
    rcases List.mem_cons.1 hp with rfl|hp
    ·simp
    ·rcases List.mem_cons.1 hp with rfl|hp
     ·simp [hpi]
     ·obtain ⟨i,hi,e⟩:=mem_rgsB.1 hp
      rcases e with rfl|rfl
      ·refine ⟨by rw [i1];rfl,?_⟩
       simp only [obx,i1]
       simp -implicitDefEqProofs [hnR,rgsB_R nms1 k hi,cmp,i2]
      ·refine ⟨by rw [i2];rfl,?_⟩
       simp only [obx,i2]
       simp -implicitDefEqProofs [hnB,rgsB_B nms1 k hi,dmp]
   ·intro p hp
    rcases List.mem_cons.1 hp with rfl|hp
    ·simp
    ·rcases List.mem_cons.1 hp with rfl|hp
     ·intro j hj
      obtain ⟨i,hi,rfl⟩:=ptrC_ids hj
      refine ⟨rfl,fun _=>?_⟩
      have:=rgsB_R n0 (C:=C) (D:=D) k hi
      simp only [lkB]
      rw [if_neg (o1 i),if_neg (o3 i),this];rfl
     ·obtain ⟨i,hi,e⟩:=mem_rgsB.1 hp
      intro j hj
      rcases e with rfl|rfl
      ·simp only [cids,List.mem_singleton] at hj
       subst hj
       refine ⟨rfl,fun _=>?_⟩
       have:=rgsB_B n0 (C:=C) (D:=D) k hi
       simp only [lkB]
       rw [if_neg (o2 i),if_neg (o4 i),this];rfl
      ·simp only [dids] at hj
       simp at hj
   ·simp
   ·simp
 ·exact Nat.zero_le _
 ·have rg0:rgsB R0 B0 (rgC (fun i=>wK (wd i) g) (fun i=>wW (wd i) g) 0 []) (rgD (fun i=>wK (wd i) g) (fun i=>wW (wd i) g) 0 []) 0=[]:=rfl
  simp only [rg0,rgV,abx,if_true,List.append_nil]
  refine weak_mk ?_ ?_ ?_ ?_ ?_ ?_<;>simp -implicitDefEqProofs [hWl]
open Go.Proofs
def mixC (R S:Nat→Id) (f k n:Nat):List AV:=(List.range n).map fun i=>if i<f then .ptr (R i) 0 else if i<k then .nilp else .ptr (S i) 0
theorem mixC_len (R S:Nat→Id) (f k n:Nat):(mixC R S f k n).length=n:=by simp [mixC]
theorem mixC_get {R S:Nat→Id} {f k n i:Nat} (h:i<n):(mixC R S f k n)[i]?=some (if i<f then .ptr (R i) 0 else if i<k then .nilp else .ptr (S i) 0):=by simp [mixC,h]
theorem mixC_zero (R S:Nat→Id) (n:Nat):mixC R S 0 0 n=ptrC S n:=by simp [mixC,ptrC]
theorem mixC_full (R S:Nat→Id) (n:Nat):mixC R S n n n=ptrC R n:=by
 unfold mixC ptrC
 exact List.map_congr_left fun i hi=>if_pos (List.mem_range.1 hi)
theorem put_get {l:List AV} {k i:Nat} {a:AV} (h:k<l.length):(l.take k++a::l.drop (k+1))[i]?=if i=k then some a else l[i]?:=by
 have e:l.take k++a::l.drop (k+1)=l.set k a:=by
  rw [List.set_eq_take_append_cons_drop,if_pos h]
 rw [e,List.getElem?_set]
 by_cases c:k=i
 ·rw [if_pos c,if_pos c.symm,if_pos h]
 ·rw [if_neg c,if_neg (fun q=>c q.symm)]
theorem mixC_nil {R S:Nat→Id} {f k n:Nat} (h:k<n) (hf:f≤k):(mixC R S f k n).take k++ .nilp::(mixC R S f k n).drop (k+1)=mixC R S f (k+1) n:=by
 apply List.ext_getElem?
 intro i
 rw [put_get (by rw [mixC_len];exact h)]
 by_cases c:i<n
 ·rw [mixC_get c,mixC_get c]
  by_cases e:i=k
  ·subst e;rw [if_pos rfl,if_neg (by omega),if_pos (by omega)]
  ·rw [if_neg e]
   by_cases e2:i<k
   ·rw [if_pos e2,if_pos (show i<k+1 by omega)]
   ·rw [if_neg e2,if_neg (show ¬i<k+1 by omega)]
 ·rw [if_neg (by omega),List.getElem?_eq_none (by rw [mixC_len];omega),List.getElem?_eq_none (by rw [mixC_len];omega)]
theorem mpL_get (g:Id→Id): ∀(l:List AV) (i:Nat),(mpL g l)[i]?=(l[i]?).map (AV.mp g)
 |[],i=>by simp [mpL]
 |v::r,0=>by simp [mpL]
 |v::r,i+1=>by simp [mpL,mpL_get g r i]
theorem mixC_put {R S:Nat→Id} {g:Id→Id} {a:Id} {k n:Nat} (h:k<n) (ga:g a=R k) (gR: ∀i,i<k→g (R i)=R i) (gS: ∀i,g (S i)=S i):
  mpL g ((mixC R S k k n).take k++ .ptr a 0::(mixC R S k k n).drop (k+1))=mixC R S (k+1) (k+1) n:=by
 apply List.ext_getElem?
 intro i
 rw [mpL_get,put_get (by rw [mixC_len];exact h)]
 by_cases c:i<n
 ·rw [mixC_get c,mixC_get c]
  by_cases e:i=k
  ·subst e;rw [if_pos rfl,if_pos (by omega),Option.map_some];simp only [AV.mp,ga]
  ·rw [if_neg e]
   by_cases e2:i<k
   ·rw [if_pos e2,if_pos (show i<k+1 by omega),Option.map_some];simp only [AV.mp,gR i e2]
   ·rw [if_neg e2,if_neg e2,if_neg (show ¬i<k+1 by omega),if_neg (show ¬i<k+1 by omega),Option.map_some];simp only [AV.mp,gS]
 ·rw [if_neg (by omega),List.getElem?_eq_none (by rw [mixC_len];omega),List.getElem?_eq_none (by rw [mixC_len];omega)];rfl
theorem idsL_mem {x:Id}: ∀ {l:List AV},x∈idsL l→ ∃v∈l,x∈v.ids
 |v::r,h=>by
  simp only [idsL,List.mem_append] at h
  rcases h with h|h
  ·exact ⟨v,List.mem_cons_self ..,h⟩
  ·obtain ⟨w,h1,h2⟩:=idsL_mem h
   exact ⟨w,List.mem_cons_of_mem _ h1,h2⟩
theorem mixC_ids {R S:Nat→Id} {f k n:Nat} {x:Id} (h:x∈idsL (mixC R S f k n)): ∃i,i<n∧((i<f∧x=R i)∨x=S i):=by
 obtain ⟨v,hv,hx⟩:=idsL_mem h
 unfold mixC at hv
 obtain ⟨i,hi,rfl⟩:=List.mem_map.1 hv
 have hi:=List.mem_range.1 hi
 refine ⟨i,hi,?_⟩
 by_cases e:i<f
 ·rw [if_pos e] at hx;simp [AV.ids] at hx;exact .inl ⟨e,hx⟩
 ·rw [if_neg e] at hx
  by_cases e2:i<k
  ·rw [if_pos e2] at hx;simp [AV.ids] at hx
  ·rw [if_neg e2] at hx;simp [AV.ids] at hx;exact .inr hx
theorem mspoil_spec (st:RS) (hl:rsLe st 1000000) (d:Nat) (c:Id) (hc:c.isIt=false) (hd:c.isNw d=false):
  SpH Tryz.prog gl 75 d ⟨[.ptr c 0],[(c,rdv st)],[]⟩ ⟨.nilp,[(c,rdv none)],[]⟩:=by
 refine h75 rfl ?_
 have hi:=inn_notNw hd
 have C:=wCountM_spec st hl 4 (.up c) hc rfl
 have i2:=rdv_ids none
 have m1:=rdv_mp st
 have m2:=rdv_mp none
 generalize rdv none=B2 at *
 generalize rdv st=B1 at *
 simp only [inSt,mpL,mpB,mpP,AV.mp,m1]
 simp -implicitDefEqProofs [c75]
 refine onH_mk _ _ (C) ⟨?_,?_,?_,?_,?_,?_,?_⟩ ?_
 iterate 7 (· simp)
 simp -implicitDefEqProofs
 refine postH_r ⟨?_,?_,?_,?_,?_,?_⟩<;>simp -implicitDefEqProofs [hi,hc,i2,m2]
theorem ring_rn2 (a b:Id) (k:Nat) (ha:a= .nw 86 (.nw 17 (.n 23))) (hb:b= .nw 86 (.nw 17 (.n 21))): ∃f g:Id→Id,RnOk f g∧f a=R0 k∧f b=B0 k∧(∀j,f (.n j)= .n j)∧(∀j,f (.up j)= .up j)∧(∀j,f (.nw 13 j)= .nw 13 j)∧ ∀i,i<k→f (R0 i)=R0 i∧f (B0 i)=B0 i:=by
 subst ha hb
 have s1:=swp_ok (a:= .nw 86 (.nw 17 (.n 23))) (b:=R0 k) rfl rfl rfl rfl
 have s2:=swp_ok (a:= .nw 86 (.nw 17 (.n 21))) (b:=B0 k) rfl rfl rfl rfl
 refine ⟨_,_,s1.comp s2,?_,?_,fun j=>?_,fun j=>?_,fun j=>?_,fun i hi=>⟨?_,?_⟩⟩
 ·simp [swp,R0,B0]
 ·simp [swp,R0,B0]
 ·simp [swp,R0,B0]
 ·simp [swp,R0,B0]
 ·simp [swp,R0,B0]
 ·have: ¬i=k:=by omega
  simp [swp,R0,B0,this]
 ·have: ¬i=k:=by omega
  simp [swp,R0,B0,this]
def qG (K:Nat→Nat) (st:RS) (i:Nat):Nat:=suT (rdG (mrS K st i)) (K i)
def qT (K:Nat→Nat) (st:RS) (i:Nat):Nat:=suT (rdT (mrS K st i)) (K i)
def qF (K N:Nat→Nat) (st:RS) (i:Nat):Nat→Nat:=bkG (K i) (N i) (rdG (mrS K st i)) (K i)
def qH (K N:Nat→Nat) (st:RS) (i:Nat):Nat→Nat:=bkG (K i) (N i) (rdT (mrS K st i)) (K i)
def qM (d:Nat):Id:= .nw d (.nw 13 (.n 16))
def qA (d:Nat):Id:= .nw d (.nw 13 (.n 40))
def qR (d:Nat) (i:Nat):Id:= .nw d (R0 i)
def qB (d:Nat) (i:Nat):Id:= .nw d (B0 i)
def mgO (d:Nat) (c:Id) (x:Gl) (n:Nat) (W:List (List AV)) (fr tt cg ct t:Nat) (sd:Bool) (K w:Nat→Nat) (st:RS):Out:=
 ⟨.ptr (qM d) 0,(c,rdv (mrS K st n))::mtG (qM d) (qA d) (qR d) (qB d) (mtC x (qA d) n W fr tt cg ct t sd) n (gC K w (fun i=>t / w i) t (qG K st) (qT K st)) (gD K (qF K (fun i=>t / w i) st) (qH K (fun i=>t / w i) st)),[]⟩
theorem nmsQ (d:Nat):Nms (qM d) (qA d) (qR d) (qB d):=by
 refine ⟨rfl,rfl,fun _=>rfl,fun _=>rfl,?_,?_,?_,?_,?_,?_,?_,?_,fun _=>rfl,fun _ _=>rfl,fun _ _=>rfl⟩
 ·intro i j e;simp [qR,R0] at e;exact e
 ·intro i j e;simp [qB,B0] at e;exact e
 ·intro i j e;simp [qR,qB,R0,B0] at e
 ·intro i e;simp [qM,qR,R0] at e
 ·intro i e;simp [qM,qB,B0] at e
 ·intro i e;simp [qA,qR,R0] at e
 ·intro i e;simp [qA,qB,B0] at e
 ·intro e;simp [qM,qA] at e
open Go.Proofs
def evR (K N w:Nat) (st:RS):Nat→List (List AV)
 |0=>[]
 |k+1=>if K≤N+1+k then evR K N w st k++[[i6 ((N+1+k - K)*w:Nat),u (rdG st k),u (rdT st k)]] else evR K N w st k
theorem evR_len (K N w:Nat) (st:RS): ∀k,(evR K N w st k).length≤k
 |0=>Nat.le_refl _
 |k+1=>by
  have:=evR_len K N w st k
  rw [evR];split
  ·rw [List.length_append,List.length_cons,List.length_nil];omega
  ·omega
theorem evR_3 (K N w:Nat) (st:RS): ∀k,∀r∈evR K N w st k,r.length=3
 |0,r,h=>by cases h
 |k+1,r,h=>by
  rw [evR] at h
  split at h
  ·rcases List.mem_append.1 h with h|h
   ·exact evR_3 K N w st k r h
   ·rw [List.mem_singleton] at h;subst h;rfl
  ·exact evR_3 K N w st k r h
def rgO19 (d wd g t:Nat) (B:List UInt8) (K N w:Nat) (st:RS):Out:=
 ⟨.tup [.ptr (.nw d (.n 39)) 0,i6 (posN B (rdS st K)),.bool true],[(.nw d (.n 39),[i6 wd,i6 g,i6 t,.sl (evR K N w st K)])],[]⟩
def rgX19:Out:=⟨.tup [.nilp,i6 0,.bool false],[],[]⟩
set_option maxHeartbeats 1000000 in
theorem ryget_any (B:List UInt8) (hB:B.length≤1000000) (a:Nat) (ha:a≤B.length) (wd g:Nat) (h:Wd wd g) (t:Nat) (ht:t≤253402300799) (d:Nat) (O:Out)
  (h1:(∀i,i<wK wd g→ROk (wK wd g) (t / wW wd g) (some (B.drop a)) i)→O=rgO19 d wd g t B (wK wd g) (t / wW wd g) (wW wd g) (some (B.drop a)))
  (h2: ∀i,i<wK wd g→ ¬ROk (wK wd g) (t / wW wd g) (some (B.drop a)) i→O=rgX19):
  SpH Tryz.prog gl 81 d ⟨[.sl (byteRows B),i6 a,i6 wd,i6 g,i6 t],[],[]⟩ O:=by
 refine h81 rfl ?_
 have GO:=rgo_spec wd g h
 have BS:=rbuckets_spec wd g h
 have TK:=rtick19_spec (t:Int)
 have tk:(decide (0≤(t:Int))&&decide ((t:Int)≤253402300799))=true:=by
  rw [Bool.and_eq_true,decide_eq_true_eq,decide_eq_true_eq];omega
 rw [tk] at TK
 have NB:=fun p (hp:p≤B.length)=>number_spec B p hB (by omega)
 have OV:=fun st' ct hc cg=>rover_spec 0 st' cg ct hc
 obtain ⟨k1,k2,k3,w1',k5⟩:=wK_ok h
 have hdv:(wd:Int).tdiv (wK wd g:Nat)=(wW wd g:Nat):=by
  rw [Int.tdiv_eq_ediv_of_nonneg (by omega)];rfl
 have hdt:(t:Int).tdiv (wW wd g:Nat)=(t / wW wd g:Nat):=by
  rw [Int.tdiv_eq_ediv_of_nonneg (by omega)];rfl
 have hN:t / wW wd g≤253402300799:=Nat.le_trans (Nat.div_le_self _ _) ht
 have hNw:t / wW wd g*wW wd g≤t:=Nat.div_mul_le_self _ _
 generalize t / wW wd g=N at *
 have wz: ¬wW wd g=0:=by omega
 have wz': ¬(wW wd g:Int)=0:=by omega
 have t1:IntKind.i64.wrap (wW wd g:Int)=wW wd g:=by rw [wrap_i64]<;>omega
 have t2:IntKind.i64.wrap (N:Int)=N:=by rw [wrap_i64]<;>omega
 have kz': ¬(wK wd g:Int)=0:=by omega
 have kz: ¬wK wd g=0:=by omega
 generalize wW wd g=w at *
 generalize wK wd g=K at *
 generalize hst:(some (B.drop a):RS)=st at *
 have hp0: ∃p,rdS st 0=some (B.drop p)∧p≤B.length∧posN B (rdS st 0)=p:=⟨a,by rw [←hst];rfl,ha,by rw [←hst];simp only [rdS,posN,List.length_drop];omega⟩
 have lG: ∀k,rdG st k<18446744073709551616:=fun k=>getN_lt _
 have lT: ∀k,rdT st k<18446744073709551616:=fun k=>getN_lt _
 have hlim:lim=140737488355328:=rfl
 have bl:=byteRows_len B
 have e0:posN B (rdS st 0)=a:=by
  obtain ⟨p,q1,q2,q3⟩:=hp0
  rw [←hst];simp only [rdS,posN,List.length_drop];omega
 simp only [inSt,mpL,mpB,mpP,AV.mp]
 simp -implicitDefEqProofs [c81]
 refine onC_mk _ (GO) ?_
 simp -implicitDefEqProofs
 refine onC_mk _ (TK) ?_
 simp -implicitDefEqProofs
 refine onC_mk _ (BS) ?_
 simp -implicitDefEqProofs [kz,kz',hdv,t1]
 refine wp_lpk (α:=Nat) (fun k=>⟨[(0,.sl (byteRows B)),(1,i6 (posN B (rdS st k))),(2,i6 wd),(3,i6 g),(4,i6 t),(13,.ptr (.n 39) 0),(14,i6 K),(15,i6 w),(16,.ptr (.n 16) 0),(17,i6 k)],[(.n 16,[u 0,u (suT (rdT st) k)]),(.n 39,[i6 wd,i6 g,i6 t,.sl (evR K N w st k)])],[(.b (.n 39) 3,3)]⟩) (fun k=>k≤K∧(∀i,i<k→ROk K N st i)∧ ∃p,rdS st k=some (B.drop p)∧p≤B.length∧posN B (rdS st k)=p) (fun k=>K - k) ?_ 0 ?_ ?_
 ·rintro K' k hK' ⟨k4,k5',p,p1,p2,p3⟩
  by_cases c0:k<K
  ·have c':(k:Int)<K:=by omega
   have w1'':IntKind.i64.wrap ((k:Int)+1)=(k+1:Nat):=by rw [wrap_i64]<;>omega
   have v1:IntKind.i64.wrap ((N:Int) - K)=(N:Int) - K:=by rw [wrap_i64]<;>omega
   have v2:IntKind.i64.wrap ((N:Int) - K+1)=(N:Int) - K+1:=by rw [wrap_i64]<;>omega
   have v3:IntKind.i64.wrap ((N:Int) - K+1+k)=(N:Int) - K+1+k:=by rw [wrap_i64]<;>omega
   have Np:=NB p p2
   unfold numAt at Np
   rw [p3]
   have hx2:=h2 k c0
   unfold rgX19 at hx2
   have el:=evR_len K N w st k
   have e3:=evR_3 K N w st k
   have sT:suT (rdT st) k≤9223372036854775807:=by
    cases k with
    |zero=>exact Nat.zero_le _
    |succ j=>have:=(k5' j (by omega)).m2;simp only [suT];omega
   rcases num_pos p2 with ⟨n1,x1,g1,g2,g3,g4⟩|⟨g1,g4⟩
   ·have eG:rdG st k=n1:=by unfold rdG;rw [p1,g4]
    have eS:(getN (rdS st k)).1=some (B.drop x1):=by rw [p1,g4]
    have Nx:=NB x1 g2
    unfold numAt at Nx
    rw [g1] at Np
    have lG1:=lG k
    have lT1:=lT k
    rcases num_pos g2 with ⟨n2,x2,f1,f2,f3,f4⟩|⟨f1,f4⟩
    ·have eT:rdT st k=n2:=by unfold rdT;rw [eS,f4]
     have eN:rdS st (k+1)=some (B.drop x2):=by rw [rdS,eS,f4]
     have px:posN B (rdS st (k+1))=x2:=by rw [eN];simp only [posN,List.length_drop];omega
     rw [f1] at Nx
     have OVk:=OV (suT (rdT st) k) n2 (by rw [←eT];exact lT1) n1
     by_cases ok:ROk K N st k
     ·obtain ⟨-,o2,o3,o4,o5⟩:=id ok
      have k5'': ∀i,i<k+1→ROk K N st i:=fun i hi=>by
       by_cases e:i=k
       ·rw [e];exact ok
       ·exact k5' i (by omega)
      have fin:=fun σ' hσ=>hK' (k+1) σ' ⟨by omega,k5'',x2,eN,f2,px⟩ (by omega) hσ
      have aT:suT (rdT st) (k+1)=suT (rdT st) k+n2:=by rw [←eT];rfl
      have ev:evR K N w st (k+1)=if K≤N+1+k then evR K N w st k++[[i6 ((N+1+k - K)*w:Nat),u n1,u n2]] else evR K N w st k:=by rw [←eG,←eT];rfl
      rw [eG,eT] at o2
      rw [eT] at o3 o4
      rw [eG,eT] at o5
      have fb:fitB (suT (rdT st) k) n2=true:=by unfold fitB;rw [decide_eq_true_eq];exact ⟨o3,o4⟩
      rw [fb] at OVk
      rw [px,aT,ev] at fin
      have o2': ¬n2<n1:=by omega
      have o2'': ¬(n2:Int)<n1:=by omega
      have wt:IntKind.u64.wrap ((suT (rdT st) k:Int)+n2)=(suT (rdT st) k+n2:Nat):=by rw [wrap_u64]<;>omega
      clear hK' h1 h2 hx2 k5' k5'' ok eG eT eN px aT ev NB OV lG lT GO TK BS p1 g4 f4 eS hp0 fb hst e0
      generalize evR K N w st k=EV at *
      generalize suT (rdT st) k=sm' at *
      generalize byteRows B=BR at *
      by_cases gz:K≤N+1+k
      ·have zz: ¬(N:Int) - K+1+k<0:=by omega
       have zz':0≤(N:Int) - K+1+k:=by omega
       have zw:IntKind.i64.wrap (((N:Int) - K+1+k)*w)=((N+1+k - K)*w:Nat):=by
        have e1:(N:Int) - K+1+k=((N+1+k - K:Nat):Int):=by omega
        have e2:(N+1+k - K)*w≤N*w:=Nat.mul_le_mul_right _ (by omega)
        rw [e1,←Int.natCast_mul,wrap_i64]<;>omega
       rw [if_pos gz] at fin
       simp -implicitDefEqProofs [c',c0]
       refine onC_mk _ (Np) ?_
       simp -implicitDefEqProofs
       refine onC_mk _ (Nx) ?_
       simp -implicitDefEqProofs [v1,v2,v3,hdt,t2,wz,wz',o2',o2'']
       refine onC_mk _ (OVk) ?_
       simp -implicitDefEqProofs [zz,zz',wt,zw,hlim,e3]
       refine ⟨by omega,e3,fin _ ?_⟩
       refine weak_mk ?_ ?_ ?_ ?_ ?_ ?_<;>simp -implicitDefEqProofs [w1'']
      ·obtain ⟨rfl,rfl⟩:n1=0∧n2=0:=by rcases o5 with q|q;exact absurd q gz;exact q
       have zz:(N:Int) - K+1+k<0:=by omega
       have zz': ¬0≤(N:Int) - K+1+k:=by omega
       rw [if_neg gz] at fin
       simp -implicitDefEqProofs [c',c0]
       refine onC_mk _ (Np) ?_
       simp -implicitDefEqProofs
       refine onC_mk _ (Nx) ?_
       simp -implicitDefEqProofs [v1,v2,v3,hdt,t2,wz,wz']
       refine onC_mk _ (OVk) ?_
       simp only [Nat.add_zero] at fin
       have wt':IntKind.u64.wrap (sm':Int)=sm':=by rw [wrap_u64]<;>omega
       simp -implicitDefEqProofs [zz,zz',wt']
       refine fin _ ?_
       refine weak_mk ?_ ?_ ?_ ?_ ?_ ?_<;>simp -implicitDefEqProofs [w1'',wt']
     ·rw [hx2 ok]
      have bad:(n2<n1)∨fitB (suT (rdT st) k) n2=false∨(¬K≤N+1+k∧ ¬(n1=0∧n2=0)):=by
       by_cases q2:n2<n1
       ·exact .inl q2
       ·by_cases q3:fitB (suT (rdT st) k) n2=true
        ·refine .inr (.inr (not_or.1 fun q4=>ok ?_))
         unfold fitB at q3
         rw [decide_eq_true_eq] at q3
         exact ⟨by rw [eN];rfl,by rw [eG,eT];omega,by rw [eT];exact q3.1,by rw [eT];exact q3.2,by rw [eG,eT];exact q4⟩
        ·exact .inr (.inl (by simpa using q3))
      clear hK' h1 h2 hx2 k5' ok eG eT eN px NB OV lG lT GO TK BS p1 g4 f4 eS hp0 hst e0
      generalize evR K N w st k=EV at *
      generalize suT (rdT st) k=sm' at *
      generalize byteRows B=BR at *
      by_cases q2:n2<n1
      ·have q2':(n2:Int)<n1:=by omega
       simp -implicitDefEqProofs [c',c0]
       refine onC_mk _ (Np) ?_
       simp -implicitDefEqProofs
       refine onC_mk _ (Nx) ?_
       simp -implicitDefEqProofs [v1,v2,v3,hdt,t2,wz,wz',q2,q2']
       refine postH_r ⟨?_,?_,?_,?_,?_,?_⟩<;>simp -implicitDefEqProofs
      ·have q2': ¬(n2:Int)<n1:=by omega
       generalize fitB sm' n2=fb at *
       cases fb with
       |false=>
        simp -implicitDefEqProofs [c',c0]
        refine onC_mk _ (Np) ?_
        simp -implicitDefEqProofs
        refine onC_mk _ (Nx) ?_
        simp -implicitDefEqProofs [v1,v2,v3,hdt,t2,wz,wz',q2,q2']
        refine onC_mk _ (OVk) ?_
        simp -implicitDefEqProofs
        refine postH_r ⟨?_,?_,?_,?_,?_,?_⟩<;>simp -implicitDefEqProofs
       |true=>
        obtain ⟨z1,z2⟩: ¬K≤N+1+k∧ ¬(n1=0∧n2=0):=by
         rcases bad with q|q|q
         ·exact absurd q q2
         ·cases q
         ·exact q
        have zz:(N:Int) - K+1+k<0:=by omega
        have e1:(((n1:Int)==0)&&((n2:Int)==0))=false:=by
         rw [Bool.and_eq_false_iff,beq_eq_false_iff_ne,beq_eq_false_iff_ne];omega
        simp -implicitDefEqProofs [c',c0]
        refine onC_mk _ (Np) ?_
        simp -implicitDefEqProofs
        refine onC_mk _ (Nx) ?_
        simp -implicitDefEqProofs [v1,v2,v3,hdt,t2,wz,wz',q2,q2']
        refine onC_mk _ (OVk) ?_
        simp -implicitDefEqProofs [zz,e1]
        refine postH_r ⟨?_,?_,?_,?_,?_,?_⟩<;>simp -implicitDefEqProofs
    ·have nok: ¬ROk K N st k:=fun q=>by have:=q.sm;rw [rdS,eS,f4] at this;cases this
     rw [f1] at Nx
     rw [hx2 nok]
     clear hK' h1 h2 hx2 k5' NB OV lG lT GO TK BS p1 g4 f4 eS hp0 hst e0
     generalize evR K N w st k=EV at *
     generalize suT (rdT st) k=sm' at *
     generalize byteRows B=BR at *
     simp -implicitDefEqProofs [c',c0]
     refine onC_mk _ (Np) ?_
     simp -implicitDefEqProofs
     refine onC_mk _ (Nx) ?_
     simp -implicitDefEqProofs [v1,v2,v3,hdt,t2,wz,wz']
     refine postH_r ⟨?_,?_,?_,?_,?_,?_⟩<;>simp -implicitDefEqProofs
   ·have nok: ¬ROk K N st k:=fun q=>by have:=q.sm;rw [rdS,p1,g4] at this;cases this
    rw [g1] at Np
    rw [hx2 nok]
    clear hK' h1 h2 hx2 k5' NB OV lG lT GO TK BS p1 g4 hp0 hst e0
    generalize evR K N w st k=EV at *
    generalize suT (rdT st) k=sm' at *
    generalize byteRows B=BR at *
    simp -implicitDefEqProofs [c',c0]
    refine onC_mk _ (Np) ?_
    simp -implicitDefEqProofs
    refine postH_r ⟨?_,?_,?_,?_,?_,?_⟩<;>simp -implicitDefEqProofs
  ·obtain rfl:k=K:=by omega
   have c': ¬(k:Int)<k:=by omega
   have c2: ¬k<k:=Nat.lt_irrefl _
   rw [h1 k5']
   unfold rgO19
   clear hK' h1 h2 k5' NB OV lG lT GO TK BS hp0 hst e0
   generalize evR k N w st k=EV at *
   generalize posN B (rdS st k)=P at *
   generalize byteRows B=BR at *
   simp -implicitDefEqProofs [c',c2]
   refine postH_r ⟨?_,?_,?_,?_,?_,?_⟩<;>simp -implicitDefEqProofs
 ·exact ⟨Nat.zero_le _,fun i hi=>by omega,hp0⟩
 ·refine weak_mk ?_ ?_ ?_ ?_ ?_ ?_<;>simp -implicitDefEqProofs [e0,evR,suT]
open Go.Proofs
def mgQ (f k:Nat) (K:Nat→Nat) (st:RS):RS:=if f=k then mrS K st k else none
theorem mgQ_le {K:Nat→Nat} {st:RS} {n:Nat} (h:rsLe st n) (f k:Nat):rsLe (mgQ f k K st) n:=by
 unfold mgQ;split
 ·exact mrS_le h k
 ·intro b e;cases e
def mgT (C1 C:Nat→Id→List AV) (D1 D:Nat→List AV) (n f:Nat):List (Id×List AV):=rgsB R0 B0 C1 D1 f++rgsB (fun i=> .nw 13 (R0 i)) (fun i=> .nw 13 (B0 i)) C D n
section
variable {C1 C:Nat→Id→List AV} {D1 D:Nat→List AV} {n f:Nat}
theorem mgT_R {i:Nat} (h:i<f):lkB (mgT C1 C D1 D n f) (R0 i)=some (C1 i (B0 i)):=by rw [mgT,lkB_app,rgsB_R nms1 f h]
theorem mgT_B {i:Nat} (h:i<f):lkB (mgT C1 C D1 D n f) (B0 i)=some (D1 i):=by rw [mgT,lkB_app,rgsB_B nms1 f h]
theorem mgT_no {x:Id} (h1: ∀i,x≠R0 i) (h2: ∀i,x≠B0 i):lkB (mgT C1 C D1 D n f) x=lkB (rgsB (fun i=> .nw 13 (R0 i)) (fun i=> .nw 13 (B0 i)) C D n) x:=by rw [mgT,lkB_app,rgsB_none h1 h2 f]
theorem mgT_S {i:Nat} (h:i<n):lkB (mgT C1 C D1 D n f) (.nw 13 (R0 i))=some (C i (.nw 13 (B0 i))):=by
 rw [mgT_no (fun j e=>by simp [R0] at e) (fun j e=>by simp [B0] at e)]
 exact rgsB_R (nms0 13) n h
theorem mgT_T {i:Nat} (h:i<n):lkB (mgT C1 C D1 D n f) (.nw 13 (B0 i))=some (D i):=by
 rw [mgT_no (fun j e=>by simp [R0] at e) (fun j e=>by simp [B0] at e)]
 exact rgsB_B (nms0 13) n h
theorem mgT_none {x:Id} (h1: ∀i,x≠R0 i) (h2: ∀i,x≠B0 i) (h3: ∀i,x≠ .nw 13 (R0 i)) (h4: ∀i,x≠ .nw 13 (B0 i)):lkB (mgT C1 C D1 D n f) x=none:=by
 rw [mgT_no h1 h2];exact rgsB_none h3 h4 n
theorem mgT_mem {p:Id×List AV} (h:p∈mgT C1 C D1 D n f):(∃i,i<f∧(p=(R0 i,C1 i (B0 i))∨p=(B0 i,D1 i)))∨ ∃i,i<n∧(p=(.nw 13 (R0 i),C i (.nw 13 (B0 i)))∨p=(.nw 13 (B0 i),D i)):=by
 unfold mgT at h
 rcases List.mem_append.1 h with h|h
 ·exact .inl (mem_rgsB.1 h)
 ·exact .inr (mem_rgsB.1 h)
theorem mgT_rm {x:Id} (h1: ∀i,x≠R0 i) (h2: ∀i,x≠B0 i) (h3: ∀i,x≠ .nw 13 (R0 i)) (h4: ∀i,x≠ .nw 13 (B0 i)):rmB (mgT C1 C D1 D n f) x=mgT C1 C D1 D n f:=by
 unfold mgT;rw [rmB_app,rgsB_rm h1 h2,rgsB_rm h3 h4]
theorem mgT_mp {g:Id→Id} (hC1: ∀i b,mpL g (C1 i b)=C1 i (g b)) (hD1: ∀i,mpL g (D1 i)=D1 i) (hC: ∀i b,mpL g (C i b)=C i (g b)) (hD: ∀i,mpL g (D i)=D i) (gR: ∀i,i<f→g (R0 i)=R0 i∧g (B0 i)=B0 i) (gS: ∀j,g (.nw 13 j)= .nw 13 j):
  mpB g (mgT C1 C D1 D n f)=mgT C1 C D1 D n f:=by
 unfold mgT
 rw [mpB_app,mpB_rgs hC1 hD1,mpB_rgs hC hD,rgsB_names gR,rgsB_names (fun i _=>⟨gS _,gS _⟩)]
theorem mgT_free {j:Nat} (hj:j≠13): ∀p∈mgT C1 C D1 D n f,p.1.isNw j=false:=by
 intro p hp
 have hj': ¬13=j:=fun e=>hj e.symm
 rcases mgT_mem hp with ⟨i,_,e|e⟩|⟨i,_,e|e⟩<;>subst e<;>simp [R0,B0,Id.isNw,hj']
end
theorem rok_none {K N:Nat} (h:1≤K): ¬RingOk K N none:=fun q=>by
 have:=(q 0 h).sm
 rw [rdS_none] at this
 cases this
set_option maxHeartbeats 1000000 in
theorem mget_loop (x:Gl) (n:Nat) (hn:n≤1000000) (hn1:1≤n) (g:Nat) (hg:x.g=(g:Nat)) (wd:Nat→Nat) (hwd: ∀i,i<n→Wd (wd i) g) (W:List (List AV)) (hWl:W.length=n) (hWa: ∀i,i<n→W[i]?=some [i6 ((wd i:Nat):Int)])
  (t:Nat) (ht:t≤253402300799) (st:RS) (hl:rsLe st 1000000) (fr tt cg ct:Nat) (sd:Bool) (C:Nat→Id→List AV) (D:Nat→List AV) (hC: ∀i b,idsL (C i b)=[b]) (hD: ∀i,idsL (D i)=[]) (hCm: ∀f i b,mpL f (C i b)=C i (f b)) (hDm: ∀f i,mpL f (D i)=D i)
  (d:Nat) (c:Id) (hc:c.isIt=false) (hd:c.isNw d=false) (O:Out)
  (h1:(∀i,i<n→RingOk (wK (wd i) g) (t / wW (wd i) g) (mrS (fun i=>wK (wd i) g) st i))→O=mgO d c x n W fr tt cg ct t sd (fun i=>wK (wd i) g) (fun i=>wW (wd i) g) st)
  (h2: ∀i,i<n→ ¬RingOk (wK (wd i) g) (t / wW (wd i) g) (mrS (fun i=>wK (wd i) g) st i)→O=rgX c)
  (e:List (Nat×AV)) (bx:List (Id×List AV)) (e0:lk e 0= .ptr (.up c) 0) (e2:lk e 2=i6 t) (e4:lk e 4= .ptr (.n 4) 0) (e7:lk e 7= .ptr (.nw 13 (.n 16)) 0)
  (b1:lkB bx (.up c)=some (rdv st)) (b2:lkB bx (.n 4)=some [.str x.n,.int .u32 x.t,i6 g,i6 x.a,i6 x.o,i6 x.c,.sl (x.lb.map Lb.row),.sl (x.ru.map Ru.row)])
  (b3:lkB bx (.nw 13 (.n 16))=some [.str x.n,.int .u32 x.t,i6 g,i6 x.a,i6 x.o,i6 x.c,.sl (x.lb.map Lb.row),.sl (x.ru.map Ru.row),.sl W,.ms (.nw 13 (.n 40)) 0 n 1,i6 fr,i6 tt,u cg,u ct,i6 t,.bool sd])
  (b4:lkB bx (.nw 13 (.n 40))=some (ptrC (fun i=> .nw 13 (R0 i)) n)) (b5: ∀p∈rgsB (fun i=> .nw 13 (R0 i)) (fun i=> .nw 13 (B0 i)) C D n,lkB bx p.1=some p.2):
  wpA (SpH Tryz.prog gl) (AC.tl 6 c29) (postH d [.t 6] O) ⟨e,bx,[]⟩:=by
 have hi:=inn_notNw hd
 have hmx: ∀f k,(mixC R0 (fun i=> .nw 13 (R0 i)) f k n).length=n:=fun f k=>mixC_len _ _ _ _ _
 obtain ⟨K,hK⟩: ∃K:Nat→Nat,K=fun i=>wK (wd i) g:=⟨_,rfl⟩
 obtain ⟨w,hw⟩: ∃w:Nat→Nat,w=fun i=>wW (wd i) g:=⟨_,rfl⟩
 have k1: ∀i,i<n→1≤K i:=fun i hi=>by rw [hK];exact (wK_ok (hwd i hi)).1
 have RG:=fun k (hk:k<n) st (hl:rsLe st 1000000) O=>rget_any st hl (wd k) g (hwd k hk) t ht 86 (.up c) hc rfl O
 simp only [congrFun hK.symm,congrFun hw.symm,←hK,←hw] at h1 h2 RG
 obtain ⟨C1,hC1⟩: ∃C1,C1=gC K w (fun i=>t / w i) t (qG K st) (qT K st):=⟨_,rfl⟩
 obtain ⟨D1,hD1⟩: ∃D1,D1=gD K (qF K (fun i=>t / w i) st) (qH K (fun i=>t / w i) st):=⟨_,rfl⟩
 have c1i: ∀i b,idsL (C1 i b)=[b]:=fun i b=>by rw [hC1];exact gC_ids ..
 have d1i: ∀i,idsL (D1 i)=[]:=fun i=>by rw [hD1];exact gD_ids ..
 have c1m: ∀f i b,mpL f (C1 i b)=C1 i (f b):=fun f i b=>by rw [hC1];exact gC_mp ..
 have d1m: ∀f i,mpL f (D1 i)=D1 i:=fun f i=>by rw [hD1];exact gD_mp ..
 have RRi: ∀i j,(R0 i=R0 j)=(i=j):=fun i j=>by simp [R0]
 have BBi: ∀i j,(B0 i=B0 j)=(i=j):=fun i j=>by simp [B0]
 have RBn: ∀i j,¬R0 i=B0 j:=fun i j=>nms1.rb i j
 have BRn: ∀i j,¬B0 i=R0 j:=fun i j e=>nms1.rb j i e.symm
 have nR: ∀s i,¬Id.n s=R0 i:=fun s i e=>by simp [R0] at e
 have nB: ∀s i,¬Id.n s=B0 i:=fun s i e=>by simp [B0] at e
 have uR: ∀s i,¬Id.up s=R0 i:=fun s i e=>by simp [R0] at e
 have uB: ∀s i,¬Id.up s=B0 i:=fun s i e=>by simp [B0] at e
 have wR: ∀a s i,¬Id.nw a s=R0 i:=fun a s i e=>by simp [R0] at e
 have wB: ∀a s i,¬Id.nw a s=B0 i:=fun a s i e=>by simp [B0] at e
 have Rn: ∀s i,¬R0 i=Id.n s:=fun s i e=>nR s i e.symm
 have Bn: ∀s i,¬B0 i=Id.n s:=fun s i e=>nB s i e.symm
 have Ru': ∀s i,¬R0 i=Id.up s:=fun s i e=>uR s i e.symm
 have Bu: ∀s i,¬B0 i=Id.up s:=fun s i e=>uB s i e.symm
 have Rw: ∀a s i,¬R0 i=Id.nw a s:=fun a s i e=>wR a s i e.symm
 have Bw: ∀a s i,¬B0 i=Id.nw a s:=fun a s i e=>wB a s i e.symm
 have ids:=rdv_ids
 have idm:=rdv_mp
 have trm: ∀f,rmB (mgT C1 C D1 D n f) (.up c)=mgT C1 C D1 D n f:=fun f=>mgT_rm (uR c) (uB c) (fun i e=>by cases e) (fun i e=>by cases e)
 have tup: ∀f,lkB (mgT C1 C D1 D n f) (.up c)=none:=fun f=>mgT_none (uR c) (uB c) (fun i e=>by cases e) (fun i e=>by cases e)
 have tn4: ∀f,lkB (mgT C1 C D1 D n f) (.n 4)=none:=fun f=>mgT_none (nR 4) (nB 4) (fun i e=>by cases e) (fun i e=>by cases e)
 simp only [c29,AC.tl]
 simp -implicitDefEqProofs [e7,b3]
 refine wp_lpr (α:=Nat×Nat) (fun p=>⟨[(0,.ptr (.up c) 0),(2,i6 t),(4,.ptr (.n 4) 0),(7,.ptr (.nw 13 (.n 16)) 0),(69,.sl W),(70,i6 n),(71,i6 p.1)],(.up c,rdv (mgQ p.2 p.1 K st))::(.n 4,[.str x.n,.int .u32 x.t,i6 g,i6 x.a,i6 x.o,i6 x.c,.sl (x.lb.map Lb.row),.sl (x.ru.map Ru.row)])::(.nw 13 (.n 16),[.str x.n,.int .u32 x.t,i6 g,i6 x.a,i6 x.o,i6 x.c,.sl (x.lb.map Lb.row),.sl (x.ru.map Ru.row),.sl W,.ms (.nw 13 (.n 40)) 0 n 1,i6 fr,i6 tt,u cg,u ct,i6 t,.bool sd])::(.nw 13 (.n 40),mixC R0 (fun i=> .nw 13 (R0 i)) p.2 p.1 n)::mgT C1 C D1 D n p.2,[]⟩)
  (fun p=>p.2≤p.1∧p.1≤n∧(∀i,i<p.2→RingOk (K i) (t / w i) (mrS K st i))∧(p.2<p.1→ ¬RingOk (K p.2) (t / w p.2) (mrS K st p.2))) (fun p=>n - p.1) ?_ (0,0) ?_ ?_
 ·rintro K' ⟨k,f⟩ hK' ⟨i1,i2,i3,i4⟩
  simp only at i1 i2 i3 i4 ⊢
  by_cases c0:k<n
  ·have c':(k:Int)<n:=by omega
   have w1':IntKind.i64.wrap ((k:Int)+1)=(k+1:Nat):=by rw [wrap_i64]<;>omega
   have ew:=hWa k c0
   have wl:k<W.length:=by omega
   have ew0:W[k]'wl=[i6 ((wd k:Nat):Int)]:=by rw [List.getElem?_eq_getElem wl] at ew;exact Option.some.inj ew
   have hfr:=fun f=>mgT_free (C1:=C1) (C:=C) (D1:=D1) (D:=D) (n:=n) (f:=f) (j:=86) (by decide)
   have nx:rdv none=[.sl [],.bool true]:=rfl
   by_cases ok:f=k∧RingOk (K k) (t / w k) (mrS K st k)
   ·obtain ⟨rfl,ok⟩:=ok
    have m0:mgQ f f K st=mrS K st f:=if_pos rfl
    have m1:mgQ (f+1) (f+1) K st=rdS (mrS K st f) (K f):=if_pos rfl
    have RGk:=RG f c0 (mrS K st f) (mrS_le hl f) (rgO 86 (.up c) (K f) (w f) (t / w f) t (mrS K st f)) (fun _=>rfl) (fun i hi q=>absurd (ok i hi) q)
    have i3': ∀i,i<f+1→RingOk (K i) (t / w i) (mrS K st i):=fun i hi=>by
     by_cases e:i=f
     ·rw [e];exact ok
     ·exact i3 i (by omega)
    obtain ⟨φ,φ',hok,fa,fb,fn,fu,fw,fR⟩:=ring_rn2 _ _ f rfl rfl
    have fin:=fun σ' hσ=>hK' (f+1,f+1) σ' ⟨Nat.le_refl _,by simp only;omega,i3',fun h=>by simp at h⟩ (by simp only;omega) (.inr ⟨φ,φ',hok,hσ⟩)
    have en:=mixC_put (R:=R0) (S:=fun i=> .nw 13 (R0 i)) (g:=φ) c0 fa (fun i hi=>(fR i hi).1) (fun i=>fw _)
    have pl:=hmx f f
    have hidn:=fun d h=>mixC_ids (R:=R0) (S:=fun i=> .nw 13 (R0 i)) (f:=f+1) (k:=f+1) (n:=n) (x:=d) h
    have tR:=fun i (hi:i<f)=>mgT_R (C1:=C1) (C:=C) (D1:=D1) (D:=D) (n:=n) hi
    have tB:=fun i (hi:i<f)=>mgT_B (C1:=C1) (C:=C) (D1:=D1) (D:=D) (n:=n) hi
    have tS:=fun i (hi:i<n)=>mgT_S (C1:=C1) (C:=C) (D1:=D1) (D:=D) (f:=f) hi
    have tT:=fun i (hi:i<n)=>mgT_T (C1:=C1) (C:=C) (D1:=D1) (D:=D) (f:=f) hi
    have tR2:=fun i (hi:i<f+1)=>mgT_R (C1:=C1) (C:=C) (D1:=D1) (D:=D) (n:=n) hi
    have tB2:=fun i (hi:i<f+1)=>mgT_B (C1:=C1) (C:=C) (D1:=D1) (D:=D) (n:=n) hi
    have tS2:=fun i (hi:i<n)=>mgT_S (C1:=C1) (C:=C) (D1:=D1) (D:=D) (f:=f+1) hi
    have tT2:=fun i (hi:i<n)=>mgT_T (C1:=C1) (C:=C) (D1:=D1) (D:=D) (f:=f+1) hi
    have mem:=fun p hp=>mgT_mem (C1:=C1) (C:=C) (D1:=D1) (D:=D) (n:=n) (f:=f+1) (p:=p) hp
    have tmp:=mgT_mp (D1:=D1) (n:=n) (f:=f) (g:=φ) (c1m φ) (d1m φ) (hCm φ) (hDm φ) fR fw
    have trm:=trm f
    have tup:=tup f
    have tn4:=tn4 f
    have hfr:=hfr f
    have i1':=ids (mrS K st f)
    have i2':=ids (rdS (mrS K st f) (K f))
    have q2:=idm (rdS (mrS K st f) (K f)) φ
    have ec: ∀b,C1 f b=rgL b (K f) (w f) (t / w f) t (suT (rdG (mrS K st f)) (K f)) (suT (rdT (mrS K st f)) (K f)):=fun b=>by rw [hC1];rfl
    have ed:D1 f=cellsF (K f) (bkG (K f) (t / w f) (rdG (mrS K st f)) (K f)) (bkG (K f) (t / w f) (rdT (mrS K st f)) (K f)):=by rw [hD1];rfl
    have cm1:=c1m φ
    have dm1:=d1m φ
    have cm2:=hCm φ
    have dm2:=hDm φ
    unfold rgO at RGk
    rw [←ec,←ed] at RGk
    simp only [m1] at fin
    rw [m0]
    clear hK' RG i3 i3' i4 h1 h2 ok ec ed hC1 hD1 ids idm hmx c1m d1m hCm hDm
    generalize mixC R0 (fun i=> .nw 13 (R0 i)) f f n=PC at *
    generalize mixC R0 (fun i=> .nw 13 (R0 i)) (f+1) (f+1) n=PC2 at *
    generalize mgT C1 C D1 D n f=TL at *
    generalize mgT C1 C D1 D n (f+1)=TL2 at *
    generalize rdv (mrS K st f)=Q1 at *
    generalize rdv (rdS (mrS K st f) (K f))=Q2 at *
    simp -implicitDefEqProofs [c0,c',wl,hWl,ew,ew0,pl]
    refine onQ_mk _ _ (RGk) ⟨?_,?_,?_,?_,?_,?_,?_⟩ ⟨?_,?_,?_⟩ ?_
    iterate 6 (· simp [Pl.isB,Pl.isF])
    ·simp;exact fun a b hm=>hfr _ hm
    iterate 3 (· simp [Pl.isB,Pl.isF])
    simp -implicitDefEqProofs [trm,pl,c0,c',w1']
    refine ⟨by omega,fin _ (weak_mk ?_ ?_ ?_ ?_ ?_ ?_)⟩
    ·simp [St.rn,fn,fu,fw,w1']
    ·intro p hp
     rcases List.mem_cons.1 hp with rfl|hp
     ·simp [St.rn,fn,fu,fw,fa,fb,q2]
     ·rcases List.mem_cons.1 hp with rfl|hp
      ·simp [St.rn,fn,fu,fw,fa,fb,q2,Rn,Ru',Rw,Bn,Bu,Bw]
      ·rcases List.mem_cons.1 hp with rfl|hp
       ·simp [St.rn,fn,fu,fw,fa,fb,q2,Rn,Ru',Rw,Bn,Bu,Bw]
       ·rcases List.mem_cons.1 hp with rfl|hp
        ·simp [St.rn,fn,fu,fw,fa,fb,q2,Rn,Ru',Rw,Bn,Bu,Bw,en]
        ·rcases mem p hp with ⟨i,hi,e|e⟩|⟨i,hi,e|e⟩<;>subst e
         ·by_cases e:i=f
          ·subst e;simp -implicitDefEqProofs [St.rn,fn,fu,fw,fa,fb,q2,Rn,Ru',Rw,Bn,Bu,Bw,uR,uB,cm1]
          ·have e': ¬f=i:=fun q=>e q.symm
           simp -implicitDefEqProofs [St.rn,fn,fu,fw,fa,fb,q2,Rn,Ru',Rw,Bn,Bu,Bw,uR,uB,nR,nB,wR,wB,RRi,RBn,BRn,e,e',tmp,tR i (by omega)]
         ·by_cases e:i=f
          ·subst e;simp -implicitDefEqProofs [St.rn,fn,fu,fw,fa,fb,q2,Rn,Ru',Rw,Bn,Bu,Bw,uR,uB,RBn,BRn,dm1]
          ·have e': ¬f=i:=fun q=>e q.symm
           simp -implicitDefEqProofs [St.rn,fn,fu,fw,fa,fb,q2,Rn,Ru',Rw,Bn,Bu,Bw,uR,uB,nR,nB,wR,wB,BBi,RBn,BRn,e,e',tmp,tB i (by omega)]
         ·simp [St.rn,fn,fu,fw,fa,fb,q2,Rn,Ru',Rw,Bn,Bu,Bw,nR,tmp,tS i hi]
         ·simp [St.rn,fn,fu,fw,fa,fb,q2,Rn,Ru',Rw,Bn,Bu,Bw,nB,tmp,tT i hi]
    ·simp
    ·simp
    ·intro p hp
     rcases List.mem_cons.1 hp with rfl|hp
     ·simp [i2']
     ·rcases List.mem_cons.1 hp with rfl|hp
      ·simp
      ·rcases List.mem_cons.1 hp with rfl|hp
       ·simp
       ·rcases List.mem_cons.1 hp with rfl|hp
        ·intro j hj
         left
         obtain ⟨i,hi,⟨h3,rfl⟩|rfl⟩:=hidn j hj
         ·simp [Rn,Ru',Rw,uR,nR,wR,tR2 i h3]
         ·simp [nR,tS2 i hi]
        ·intro j hj
         left
         rcases mem p hp with ⟨i,hi,e|e⟩|⟨i,hi,e|e⟩<;>subst e
         ·simp only [c1i,List.mem_singleton] at hj;subst hj
          simp -implicitDefEqProofs [Bn,Bu,Bw,uB,nB,wB,tB2 i hi]
         ·simp only [d1i] at hj;simp at hj
         ·simp only [hC,List.mem_singleton] at hj;subst hj
          simp -implicitDefEqProofs [nB,tT2 i hi]
         ·simp only [hD] at hj;simp at hj
    ·simp
   ·have nq:mgQ f (k+1) K st=none:=by unfold mgQ;rw [if_neg (by omega)]
    have bad: ¬ ∀i,i<K k→ROk (K k) (t / w k) (mgQ f k K st) i:=by
     unfold mgQ
     by_cases e:f=k
     ·rw [if_pos e];exact fun q=>ok ⟨e,q⟩
     ·rw [if_neg e];exact rok_none (k1 k c0)
    have RGk:=RG k c0 (mgQ f k K st) (mgQ_le hl f k) (rgX (.up c)) (fun q=>absurd q bad) (fun _ _ _=>rfl)
    have i4':f<k+1→ ¬RingOk (K f) (t / w f) (mrS K st f):=fun _=>by
     by_cases e:f=k
     ·rw [e];exact fun q=>ok ⟨e,q⟩
     ·exact i4 (by omega)
    have fin:=fun σ' hσ=>hK' (k+1,f) σ' ⟨by simp only;omega,by simp only;omega,i3,i4'⟩ (by simp only;omega) (.inl hσ)
    have en:=mixC_nil (R:=R0) (S:=fun i=> .nw 13 (R0 i)) c0 i1
    have pl:=hmx f k
    have hidn:=fun d h=>mixC_ids (R:=R0) (S:=fun i=> .nw 13 (R0 i)) (f:=f) (k:=k+1) (n:=n) (x:=d) h
    have tR:=fun i (hi:i<f)=>mgT_R (C1:=C1) (C:=C) (D1:=D1) (D:=D) (n:=n) hi
    have tB:=fun i (hi:i<f)=>mgT_B (C1:=C1) (C:=C) (D1:=D1) (D:=D) (n:=n) hi
    have tS:=fun i (hi:i<n)=>mgT_S (C1:=C1) (C:=C) (D1:=D1) (D:=D) (f:=f) hi
    have tT:=fun i (hi:i<n)=>mgT_T (C1:=C1) (C:=C) (D1:=D1) (D:=D) (f:=f) hi
    have mem:=fun p hp=>mgT_mem (C1:=C1) (C:=C) (D1:=D1) (D:=D) (n:=n) (f:=f) (p:=p) hp
    have trm:=trm f
    have tup:=tup f
    have tn4:=tn4 f
    have hfr:=hfr f
    have i1':=ids (mgQ f k K st)
    have i2':=ids none
    unfold rgX at RGk
    simp only [nq] at fin
    clear hK' RG i3 i4 i4' h1 h2 bad ok
    generalize mixC R0 (fun i=> .nw 13 (R0 i)) f k n=PC at *
    generalize mixC R0 (fun i=> .nw 13 (R0 i)) f (k+1) n=PC2 at *
    generalize mgT C1 C D1 D n f=TL at *
    generalize rdv (mgQ f k K st)=Q1 at *
    generalize rdv none=Q2 at *
    simp -implicitDefEqProofs [c0,c',wl,hWl,ew,ew0,pl]
    refine onQ_mk _ _ (RGk) ⟨?_,?_,?_,?_,?_,?_,?_⟩ ⟨?_,?_,?_⟩ ?_
    iterate 6 (· simp [Pl.isB,Pl.isF])
    ·simp;exact fun a b hm=>hfr _ hm
    iterate 3 (· simp [Pl.isB,Pl.isF])
    simp -implicitDefEqProofs [trm,pl,c0,c',en,w1']
    refine ⟨by omega,fin _ (weak_mk ?_ ?_ ?_ ?_ ?_ ?_)⟩
    ·simp [w1']
    ·intro p hp
     rcases List.mem_cons.1 hp with rfl|hp
     ·simp
     ·rcases List.mem_cons.1 hp with rfl|hp
      ·simp
      ·rcases List.mem_cons.1 hp with rfl|hp
       ·simp
       ·rcases List.mem_cons.1 hp with rfl|hp
        ·simp
        ·rcases mem p hp with ⟨i,hi,e|e⟩|⟨i,hi,e|e⟩<;>subst e
         ·simp [Rn,Ru',Rw,uR,nR,wR,tR i hi]
         ·simp [Bn,Bu,Bw,uB,nB,wB,tB i hi]
         ·simp [nR,tS i hi]
         ·simp [nB,tT i hi]
    ·simp
    ·simp
    ·intro p hp
     rcases List.mem_cons.1 hp with rfl|hp
     ·simp [i2']
     ·rcases List.mem_cons.1 hp with rfl|hp
      ·simp
      ·rcases List.mem_cons.1 hp with rfl|hp
       ·simp
       ·rcases List.mem_cons.1 hp with rfl|hp
        ·intro j hj
         left
         obtain ⟨i,hi,⟨h3,rfl⟩|rfl⟩:=hidn j hj
         ·simp [Rn,Ru',Rw,uR,nR,wR,tR i h3]
         ·simp [nR,tS i hi]
        ·intro j hj
         left
         rcases mem p hp with ⟨i,hi,e|e⟩|⟨i,hi,e|e⟩<;>subst e
         ·simp only [c1i,List.mem_singleton] at hj;subst hj
          simp -implicitDefEqProofs [Bn,Bu,Bw,uB,nB,wB,tB i hi]
         ·simp only [d1i] at hj;simp at hj
         ·simp only [hC,List.mem_singleton] at hj;subst hj
          simp -implicitDefEqProofs [nB,tT i hi]
         ·simp only [hD] at hj;simp at hj
    ·simp
  ·obtain rfl:k=n:=by omega
   have c': ¬(k:Int)<k:=by omega
   have c2: ¬k<k:=Nat.lt_irrefl _
   have hfr:=fun f=>mgT_free (C1:=C1) (C:=C) (D1:=D1) (D:=D) (n:=k) (f:=f) (j:=90) (by decide)
   by_cases ok:f=k
   ·subst ok
    have m0:mgQ f f K st=mrS K st f:=if_pos rfl
    have WB:=wbad_spec (mrS K st f) 90 (.up c) hc rfl
    have gd:(mrS K st f).isNone=false:=by
     obtain ⟨j,rfl⟩: ∃j,f=j+1:=⟨f - 1,by omega⟩
     obtain ⟨k',hk'⟩: ∃k',K j=k'+1:=⟨K j - 1,by have:=k1 j (by omega);omega⟩
     have:=(i3 j (by omega) k' (by omega)).sm
     rw [mrS,hk'];exact this
    rw [gd] at WB
    rw [h1 i3,m0]
    unfold mgO
    rw [←hC1,←hD1]
    have tR:=fun i (hi:i<f)=>mgT_R (C1:=C1) (C:=C) (D1:=D1) (D:=D) (n:=f) hi
    have tB:=fun i (hi:i<f)=>mgT_B (C1:=C1) (C:=C) (D1:=D1) (D:=D) (n:=f) hi
    have trm:=trm f
    have tup:=tup f
    have hfr:=hfr f
    have m2:=idm (mrS K st f)
    have i2:=ids (mrS K st f)
    have mf:=mixC_full R0 (fun i=> .nw 13 (R0 i)) f
    have n0:=nmsQ d
    have o1:=n0.mr
    have o2:=n0.mb
    have o3:=n0.ar
    have o4:=n0.ab
    have o5:=n0.ma
    have j1: ∀i,(Id.nw d (R0 i)).inn d=R0 i:=fun i=>by simp [R0]
    have j2: ∀i,(Id.nw d (B0 i)).inn d=B0 i:=fun i=>by simp [B0]
    have hpi:mpL (Id.inn d) (ptrC (qR d) f)=ptrC R0 f:=by
     rw [ptrC_mp];exact ptrC_congr fun i _=>j1 i
    have cmd:=c1m (Id.inn d)
    have dmd:=d1m (Id.inn d)
    have lR:=fun i (hi:i<f)=>rgsB_R n0 (C:=C1) (D:=D1) f hi
    have lB:=fun i (hi:i<f)=>rgsB_B n0 (C:=C1) (D:=D1) f hi
    have nd1: ∀i,¬c=qR d i:=fun i q=>by rw [q] at hd;simp [qR,R0,Id.isNw,Id.isUp] at hd
    have nd2: ∀i,¬c=qB d i:=fun i q=>by rw [q] at hd;simp [qB,B0,Id.isNw,Id.isUp] at hd
    have nd3: ¬c= .nw d (.nw 13 (.n 16)):=fun q=>by rw [q] at hd;simp [Id.isNw,Id.isUp] at hd
    have nd4: ¬c= .nw d (.nw 13 (.n 40)):=fun q=>by rw [q] at hd;simp [Id.isNw,Id.isUp] at hd
    rw [mf]
    clear hK' RG i3 i4 h1 h2 hC1 hD1 ids idm hmx c1m d1m hCm hDm m0 gd
    generalize mgT C1 C D1 D f f=TL at *
    generalize rdv (mrS K st f)=Q1 at *
    simp -implicitDefEqProofs [c',c2]
    refine onH_mk _ _ (WB) ⟨?_,?_,?_,?_,?_,?_,?_⟩ ?_
    iterate 6 (· simp)
    ·simp;exact fun a b hm=>hfr _ hm
    simp -implicitDefEqProofs [trm]
    refine postH_r ⟨?_,?_,?_,?_,?_,?_⟩
    ·simp [qM]
    ·simp [qM,mtG,nd3]
    ·intro p hp
     rcases List.mem_cons.1 hp with rfl|hp
     ·simp [hi,hc,m2]
     ·unfold mtG at hp
      rcases List.mem_cons.1 hp with rfl|hp
      ·simp [qM,qA,mtC,hg]
      ·rcases List.mem_cons.1 hp with rfl|hp
       ·simp [qA,hpi]
       ·obtain ⟨i,hi',e|e⟩:=mem_rgsB.1 hp
        ·subst e
         refine ⟨by rw [qR,j1];rfl,?_⟩
         simp only [obx,qR,j1]
         simp -implicitDefEqProofs [uR,nR,wR,tR i hi',cmd,qB,j2]
        ·subst e
         refine ⟨by rw [qB,j2];rfl,?_⟩
         simp only [obx,qB,j2]
         simp -implicitDefEqProofs [uB,nB,wB,tB i hi',dmd]
    ·intro p hp
     rcases List.mem_cons.1 hp with rfl|hp
     ·simp [i2]
     ·unfold mtG at hp
      rcases List.mem_cons.1 hp with rfl|hp
      ·simp [qM,qA,mtC,mtG,nd4]
      ·rcases List.mem_cons.1 hp with rfl|hp
       ·intro j hj
        obtain ⟨i,hi',rfl⟩:=ptrC_ids hj
        refine ⟨rfl,fun _=>?_⟩
        simp only [lkB,mtG]
        rw [if_neg (nd1 i),if_neg (o1 i),if_neg (o3 i),lR i hi'];rfl
       ·obtain ⟨i,hi',e|e⟩:=mem_rgsB.1 hp
        ·subst e
         intro j hj
         simp only [c1i,List.mem_singleton] at hj
         subst hj
         refine ⟨rfl,fun _=>?_⟩
         simp only [lkB,mtG]
         rw [if_neg (nd2 i),if_neg (o2 i),if_neg (o4 i),lB i hi'];rfl
        ·subst e
         intro j hj
         simp only [d1i] at hj
         simp at hj
    ·simp
    ·simp
   ·have m0:mgQ f k K st=none:=if_neg ok
    have WB:=wbad_spec none 90 (.up c) hc rfl
    rw [h2 f (by omega) (i4 (by omega)),m0]
    unfold rgX
    have trm:=trm f
    have tup:=tup f
    have hfr:=hfr f
    have m2:=idm none
    have i2:=ids none
    clear hK' RG i3 i4 h1 h2 hC1 hD1 ids idm hmx c1m d1m hCm hDm m0
    generalize mgT C1 C D1 D k f=TL at *
    generalize mixC R0 (fun i=> .nw 13 (R0 i)) f k k=PC at *
    have wn:(none:RS).isNone=true:=rfl
    rw [wn] at WB
    generalize rdv none=Q1 at *
    simp -implicitDefEqProofs [c',c2]
    refine onH_mk _ _ (WB) ⟨?_,?_,?_,?_,?_,?_,?_⟩ ?_
    iterate 6 (· simp)
    ·simp;exact fun a b hm=>hfr _ hm
    simp -implicitDefEqProofs [trm]
    refine postH_r ⟨?_,?_,?_,?_,?_,?_⟩<;>simp -implicitDefEqProofs [hi,hc,m2,i2]
 ·exact ⟨Nat.le_refl _,Nat.zero_le _,fun i hi=>by simp at hi,fun h=>by simp at h⟩
 ·have m0:mgQ 0 0 K st=st:=if_pos rfl
  have mz:=mixC_zero R0 (fun i=> .nw 13 (R0 i)) n
  simp only
  rw [m0,mz]
  refine weak_mk ?_ ?_ ?_ ?_ ?_ ?_
  ·simp [e0,e2,e4,e7,hWl]
  ·intro p hp
   rcases List.mem_cons.1 hp with rfl|hp
   ·simp [b1]
   ·rcases List.mem_cons.1 hp with rfl|hp
    ·simp [b2]
    ·rcases List.mem_cons.1 hp with rfl|hp
     ·simp [b3]
     ·rcases List.mem_cons.1 hp with rfl|hp
      ·simp [b4]
      ·unfold mgT at hp
       have q:=b5 p hp
       simp only [wkB,q];exact wkL_rfl' _
  ·simp
  ·simp
  ·intro p hp
   rcases List.mem_cons.1 hp with rfl|hp
   ·simp [ids]
   ·rcases List.mem_cons.1 hp with rfl|hp
    ·simp
    ·rcases List.mem_cons.1 hp with rfl|hp
     ·simp
     ·rcases List.mem_cons.1 hp with rfl|hp
      ·intro j hj
       left
       obtain ⟨i,hi',rfl⟩:=ptrC_ids hj
       simp -implicitDefEqProofs [nR,mgT_S (C1:=C1) (C:=C) (D1:=D1) (D:=D) (f:=0) hi']
      ·intro j hj
       left
       rcases mgT_mem hp with ⟨i,hi',e|e⟩|⟨i,hi',e|e⟩
       ·exact absurd hi' (by omega)
       ·exact absurd hi' (by omega)
       ·subst e
        simp only [hC,List.mem_singleton] at hj;subst hj
        simp -implicitDefEqProofs [nB,mgT_T (C1:=C1) (C:=C) (D1:=D1) (D:=D) (f:=0) hi']
       ·subst e;simp only [hD] at hj;simp at hj
  ·simp
open Go.Proofs
end Go.Ai
