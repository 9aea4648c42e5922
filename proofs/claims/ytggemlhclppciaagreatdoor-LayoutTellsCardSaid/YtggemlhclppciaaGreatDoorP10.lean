/- P10: a part of the proof: the rules, or what functions compute. Conditions: as each theorem says. -/
import Derived.Test.YtggemlhclppciaaGreatDoorP9
set_option linter.unusedSimpArgs false
set_option linter.unusedVariables false
set_option maxRecDepth 20000
namespace Go.Ai
open Go.Proofs
def wordT (t:Tk):Bool:=decide (1≤t.k)&&(decide (t.k≤6)&&tkR t.k t.t t.n)
theorem tk_agg (t:Tk):AV.agg t.row=tkA t.k t.t t.n t.ln t.co:=rfl
theorem lword_spec (t:Tk) (hl:t.t.length≤900000):Sp Tryz.prog gl 42 [.agg t.row] (.bool (wordT t)):=by
 refine s42 rfl rfl ?_
 have R:=sright_spec t.k t.t t.n t.ln t.co hl
 unfold wordT
 obtain ⟨k,s,n,l,c⟩:=t
 simp only at R ⊢
 unfold tkA at R
 unfold Tk.row
 simp only
 by_cases c1:(1:Int)≤k
 ·by_cases c2:k≤(6:Int)
  ·simp [c42,c1,c2]
   refine onC_mk _ (R) ?_
   simp -implicitDefEqProofs [c1,c2]
  ·simp [c42,c1,c2]
 ·simp [c42,c1]
theorem lbad_spec (t:Tk) (hl:t.t.length≤900000):Sp Tryz.prog gl 41 [.agg t.row] (.bool (!wordT t)):=by
 refine s41 rfl rfl ?_
 have R:=lword_spec t hl
 generalize wordT t=b at *
 unfold Tk.row at *
 simp -implicitDefEqProofs [c41]
 refine onC_mk _ (R) ?_
 simp -implicitDefEqProofs
open Go.Proofs
def ixW:List Tk→Nat→Int
 |[],_=> -1
 |a::r,i=>if (!wordT a)=true then (i:Int) else ixW r (i+1)
theorem ixW_ge: ∀(l:List Tk) (i:Nat),decide (0≤ixW l i)=!l.all wordT
 |[],i=>rfl
 |a::r,i=>by
  rw [List.all_cons]
  by_cases h:wordT a=true
  ·have e:ixW (a::r) i=ixW r (i+1):=if_neg (by simp [h])
   rw [e,ixW_ge r (i+1),h,Bool.true_and]
  ·have e:ixW (a::r) i=i:=if_pos (by simpa using h)
   have h0:wordT a=false:=by simpa using h
   rw [e,h0,Bool.false_and,decide_eq_true (by omega)]
   rfl
theorem wIx_spec (l:List Tk) (hl:l.length≤1000000) (ht: ∀t∈l,t.t.length≤900000) (d:Nat):
  SpH Tryz.prog gl 69 d ⟨[.sl (l.map Tk.row),.fn 41 []],[],[]⟩ ⟨i6 (ixW l 0),[],[]⟩:=by
 refine h69 rfl ?_
 have rl:(l.map Tk.row).length=l.length:=by simp
 have rat: ∀i (h:i<l.length),∀h2,(l.map Tk.row)[i]'h2=[i6 l[i].k,.str l[i].t,u l[i].n,i6 l[i].ln,i6 l[i].co]:=fun i h h2=>by simp [Tk.row]
 obtain ⟨R,hR⟩: ∃R,R=ixW l 0:=⟨_,rfl⟩
 rw [←hR]
 generalize l.map Tk.row=RR at *
 simp only [inSt,mpB,mpL,AV.mp,mpP,Pl.mp]
 simp -implicitDefEqProofs [c69,rl]
 refine wp_lpk (α:=Nat) (fun i=>⟨[(0,.sl RR),(1,.fn 41 []),(7,i6 l.length),(8,i6 i)],[],[]⟩) (fun i=>i≤l.length∧R=ixW (l.drop i) i) (fun i=>l.length - i) ?_ 0 ?_ ?_
 ·rintro K i hK ⟨h1,h2⟩
  by_cases g:i<l.length
  ·have t1:IntKind.i64.wrap ((i:Int)+1)=(i+1:Nat):=by rw [wrap_i64]<;>omega
   have gR:i<RR.length:=by omega
   have ra:=rat i g gR
   rw [List.drop_eq_getElem_cons g] at h2
   simp only [ixW] at h2
   have C:=lbad_spec l[i] (ht _ (List.getElem_mem g))
   unfold Tk.row at C
   have fin:(!wordT l[i])=false→ ∀σ',Weak σ' ⟨[(0,.sl RR),(1,.fn 41 []),(7,i6 l.length),(8,i6 (i+1:Nat))],[],[]⟩→K σ':=
    fun hg σ' hσ=>hK (i+1) σ' ⟨by omega,by rw [hg] at h2;simpa using h2⟩ (by omega) hσ
   have hpos:(!wordT l[i])=true→R=i:=fun hg=>by rw [if_pos hg] at h2;exact h2.symm▸rfl
   clear hK hR rat h2
   generalize (!wordT l[i])=q at *
   generalize l[i]=x at *
   have C:=fun d=>Sp.h (d:=d) C
   simp -implicitDefEqProofs [g,gR,ra,rl]
   refine onH_mk _ _ (C _) ⟨?_,?_,?_,?_,?_,?_,?_⟩ ?_
   iterate 7 (· simp)
   cases q
   ·have fin:=fin rfl
    simp -implicitDefEqProofs [t1]
    refine fin _ ?_
    refine weak_mk ?_ ?_ ?_ ?_ ?_ ?_<;>simp -implicitDefEqProofs [t1]
   ·have h2:=hpos rfl
    subst h2
    simp -implicitDefEqProofs
    refine postH_r ⟨?_,?_,?_,?_,?_,?_⟩<;>simp -implicitDefEqProofs
  ·obtain rfl:i=l.length:=by omega
   rw [List.drop_length] at h2
   simp only [ixW] at h2
   subst h2
   clear hK
   simp -implicitDefEqProofs
   refine postH_r ⟨?_,?_,?_,?_,?_,?_⟩<;>simp -implicitDefEqProofs
 ·exact ⟨Nat.zero_le _,hR⟩
 ·refine weak_mk ?_ ?_ ?_ ?_ ?_ ?_<;>simp -implicitDefEqProofs
theorem wHas_spec (l:List Tk) (hl:l.length≤1000000) (ht: ∀t∈l,t.t.length≤900000) (d:Nat):
  SpH Tryz.prog gl 44 d ⟨[.sl (l.map Tk.row),.fn 41 []],[],[]⟩ ⟨.bool (!l.all wordT),[],[]⟩:=by
 refine h44 rfl ?_
 have Q:=wIx_spec l hl ht 7
 rw [←ixW_ge l 0]
 generalize l.map Tk.row=RR at *
 generalize ixW l 0=R at *
 simp only [inSt,mpB,mpL,AV.mp,mpP,Pl.mp]
 simp -implicitDefEqProofs [c44]
 refine onH_mk _ _ (Q) ⟨?_,?_,?_,?_,?_,?_,?_⟩ ?_
 iterate 7 (· simp)
 simp -implicitDefEqProofs
 refine postH_r ⟨?_,?_,?_,?_,?_,?_⟩<;>simp -implicitDefEqProofs
open Go.Proofs
mutual
def flatI:It→Nat→List (Nat×It)
 | .mk n ws b ks ln co,d=>(d,.mk n ws b ks ln co)::flatL ks (d+1)
def flatL:List It→Nat→List (Nat×It)
 |[],_=>[]
 |x::r,d=>flatI x d++flatL r d
end
def encF (p:Nat×It):List AV:=[i6 p.1,.agg p.2.row]
mutual
theorem toldI_flat: ∀(x:It) (d:Nat),toldI x d=(flatI x d).map encF
 | .mk n ws b ks ln co,d=>by
  rw [toldI,flatI,List.map_cons,toldL_flat ks (d+1)]
  rfl
theorem toldL_flat: ∀(L:List It) (d:Nat),toldL L d=(flatL L d).map encF
 |[],d=>rfl
 |x::r,d=>by rw [toldL,flatL,List.map_append,toldI_flat x d,toldL_flat r d]
end
mutual
theorem flatI_len: ∀(x:It) (d:Nat),(flatI x d).length=cntI x
 | .mk n ws b ks ln co,d=>by rw [flatI,cntI,List.length_cons,flatL_len ks (d+1)];omega
theorem flatL_len: ∀(L:List It) (d:Nat),(flatL L d).length=cntL L
 |[],d=>rfl
 |x::r,d=>by rw [flatL,cntL,List.length_append,flatI_len x d,flatL_len r d]
end
def okIt (k:Nat) (p:Nat×It):Bool:=match p with
 |(d,.mk n ws b ks _ _)=>decide (k≤300)&&decide (d≤4)&&nameT n&&decide (ws.length≤6)&&ws.all wordT&&(b||ks.length==0)
def okAll:Nat→List (Nat×It)→Bool
 |_,[]=>true
 |k,p::r=>okIt (k+1) p&&okAll (k+1) r
def txIt (x:It):Prop:=match x with
 | .mk n ws _ ks _ _=>n.length≤900000∧ws.length≤1000000∧(∀t∈ws,t.t.length≤900000)∧ks.length≤1000000
def lrAsg:AC:=match c19 with
 | .sq _ (.sq _ (.sq (.sq _ (.bl _ (.rf _ _ _ _ a _))) _))=>a
 |_=> .no
def lrBd:AC:=match c19 with
 | .sq _ (.sq _ (.sq (.sq _ (.bl _ (.rf _ _ _ _ _ b))) _))=>b
 |_=> .no
def rdST (RR:List (List AV)) (k:Nat):St:=⟨[(9,.undef),(8,.fn 62 [.ptr (.nw 8 (.n 1)) 0]),(7,.sl RR),(3,.ptr (.n 3) 0),(2,.ptr (.n 2) 0),(0,.sl RR)],[(.nw 8 (.n 1),[.sl RR]),(.n 3,[i6 k]),(.n 2,[.bool false])],[]⟩
set_option maxHeartbeats 2000000 in
theorem lright_round (RR:List (List AV)) (j:Nat) (hj:j≤100000) (dd:Nat) (hdd:dd≤100000) (x:It) (hx:txIt x) (K:AE→St→Prop) (h1:okIt (j+1) (dd,x)=true→K .n (rdST RR (j+1))) (h2:okIt (j+1) (dd,x)=false→K .r (rdST RR (j+1))):
  wpRd (SpH Tryz.prog gl) 9 [9,10] [2,3] lrAsg lrBd (encF (dd,x)) K (rdST RR j):=by
 have t1:IntKind.i64.wrap ((j:Int)+1)=(j+1:Nat):=by rw [wrap_i64]<;>omega
 refine ⟨⟨[.ptr (.n 2) 0,.ptr (.n 3) 0],[(.nw 8 (.n 1),[.sl RR]),(.n 3,[i6 j]),(.n 2,[.bool false])],[]⟩,⟨⟨?_,?_,?_,?_,?_,?_,?_⟩,?_,?_⟩,?_⟩
 iterate 8 (· simp [rdST])
 ·refine noIt_of ?_
  simp -implicitDefEqProofs
 obtain ⟨nm,ws,b,ks,ln,co⟩:=x
 obtain ⟨x1,x2,x3,x4⟩:=hx
 have NM:=tname_spec nm x1
 have HW:=wHas_spec ws x2 x3
 unfold okIt at h1 h2
 simp only [encF,It.row,rdSt,zipE,mpL,mpB,AV.mp,mpP,List.cons_append,List.nil_append,lrAsg,c19]
 have fin: ∀e:AE,K e (rdST RR (j+1))→ ∀σ':St,lkB σ'.bx (.up (.nw 8 (.n 1)))=some [.sl RR]→lkB σ'.bx (.up (.n 3))=some [i6 (j+1:Nat)]→lkB σ'.bx (.up (.n 2))=some [.bool false]→(∀p∈σ'.bx,p.1.isIt=false)→
   rdPost 9 (rdST RR j) [2,3] ⟨[.ptr (.n 2) 0,.ptr (.n 3) 0],[(.nw 8 (.n 1),[.sl RR]),(.n 3,[i6 j]),(.n 2,[.bool false])],[]⟩ K e σ':=by
  intro e hk σ' b1 b2 b3 hi
  refine ⟨⟨.tup [],[(.nw 8 (.n 1),[.sl RR]),(.n 3,[i6 (j+1:Nat)]),(.n 2,[.bool false])],[]⟩,⟨_,.z _,?_,?_,?_,?_,?_,?_⟩,⟨?_,?_,?_,?_,?_,?_,?_⟩,hi,hk⟩
  ·simp
  ·simp
  ·simp [obx,b1,b2,b3]
  ·simp
  ·simp
  ·simp
  iterate 7 (· simp [rdST])
 simp -implicitDefEqProofs [c19]
 simp only [lrBd,c19]
 refine ⟨by rintro a c (⟨rfl,_⟩|⟨rfl,_⟩|⟨rfl,_⟩|⟨rfl,_⟩)<;>rfl,?_⟩
 have wl:(ws.map Tk.row).length=ws.length:=List.length_map _
 have kl:=itRows_len ks
 generalize List.map Tk.row ws=WR at *
 generalize itRows ks=KR at *
 by_cases c1:j+1≤300
 ·have c1': ¬(300:Int)<((j+1:Nat):Int):=by omega
  have c1'': ¬(300:Int)<(j:Int)+1:=by omega
  by_cases c2:dd≤4
  ·have c2': ¬(4:Int)<(dd:Int):=by omega
   cases hn:nameT nm with
   |false=>
    rw [hn] at NM
    simp -implicitDefEqProofs [t1,c1',c1'',c2']
    refine onC_mk _ (NM) ?_
    simp -implicitDefEqProofs
    refine fin _ (h2 (by simp [c1,c2,hn])) _ rfl rfl rfl ?_
    simp -implicitDefEqProofs
   |true=>
    rw [hn] at NM
    by_cases c4:ws.length≤6
    ·have c4': ¬(6:Int)<(ws.length:Int):=by omega
     cases hw:ws.all wordT with
     |false=>
      rw [hw] at HW
      simp -implicitDefEqProofs [t1,c1',c1'',c2']
      refine onC_mk _ (NM) ?_
      simp -implicitDefEqProofs [wl,c4,c4']
      refine onH_mk _ _ (HW _) ⟨?_,?_,?_,?_,?_,?_,?_⟩ ?_
      iterate 7 (· simp)
      simp -implicitDefEqProofs
      refine fin _ (h2 (by simp only [c1,c2,hn,c4,hw];simp)) _ rfl rfl rfl ?_
      simp -implicitDefEqProofs
     |true=>
      rw [hw] at HW
      cases b with
      |true=>
       simp -implicitDefEqProofs [t1,c1',c1'',c2']
       refine onC_mk _ (NM) ?_
       simp -implicitDefEqProofs [wl,c4,c4']
       refine onH_mk _ _ (HW _) ⟨?_,?_,?_,?_,?_,?_,?_⟩ ?_
       iterate 7 (· simp)
       simp -implicitDefEqProofs
       refine fin _ (h1 (by simp only [c1,c2,hn,c4,hw];simp)) _ rfl rfl rfl ?_
       simp -implicitDefEqProofs
      |false=>
       by_cases c6:0<ks.length
       ·have c6':(0:Int)<(ks.length:Int):=by omega
        have c6'':(ks.length==0)=false:=beq_eq_false_iff_ne.2 (by omega)
        simp -implicitDefEqProofs [t1,c1',c1'',c2']
        refine onC_mk _ (NM) ?_
        simp -implicitDefEqProofs [wl,c4,c4']
        refine onH_mk _ _ (HW _) ⟨?_,?_,?_,?_,?_,?_,?_⟩ ?_
        iterate 7 (· simp)
        simp -implicitDefEqProofs [kl,c6,c6']
        refine fin _ (h2 (by simp only [c1,c2,hn,c4,hw,c6''];simp)) _ rfl rfl rfl ?_
        simp -implicitDefEqProofs
       ·have c6': ¬(0:Int)<(ks.length:Int):=by omega
        have c6'':(ks.length==0)=true:=beq_iff_eq.2 (by omega)
        simp -implicitDefEqProofs [t1,c1',c1'',c2']
        refine onC_mk _ (NM) ?_
        simp -implicitDefEqProofs [wl,c4,c4']
        refine onH_mk _ _ (HW _) ⟨?_,?_,?_,?_,?_,?_,?_⟩ ?_
        iterate 7 (· simp)
        simp -implicitDefEqProofs [kl,c6,c6']
        refine fin _ (h1 (by simp only [c1,c2,hn,c4,hw,c6''];simp)) _ rfl rfl rfl ?_
        simp -implicitDefEqProofs
    ·have c4':(6:Int)<(ws.length:Int):=by omega
     simp -implicitDefEqProofs [t1,c1',c1'',c2']
     refine onC_mk _ (NM) ?_
     simp -implicitDefEqProofs [wl,c4,c4']
     refine fin _ (h2 (by simp [c1,c2,hn,c4])) _ rfl rfl rfl ?_
     simp -implicitDefEqProofs
  ·have c2':(4:Int)<(dd:Int):=by omega
   simp -implicitDefEqProofs [t1,c1',c1'',c2']
   refine fin _ (h2 (by simp [c1,c2])) _ rfl rfl rfl ?_
   simp -implicitDefEqProofs
 ·have c1':(300:Int)<((j+1:Nat):Int):=by omega
  have c1'':(300:Int)<(j:Int)+1:=by omega
  simp -implicitDefEqProofs [t1,c1',c1'']
  refine fin _ (h2 (by simp [c1])) _ rfl rfl rfl ?_
  simp -implicitDefEqProofs
open Go.Proofs
mutual
theorem toldI_len: ∀(x:It) (d:Nat),(toldI x d).length=cntI x
 | .mk n ws b ks ln co,d=>by rw [toldI,cntI,List.length_cons,toldL_len ks (d+1)];omega
theorem toldL_len: ∀(L:List It) (d:Nat),(toldL L d).length=cntL L
 |[],d=>rfl
 |x::r,d=>by rw [toldL,cntL,List.length_append,toldI_len x d,toldL_len r d]
end

mutual
theorem toldI_deps: ∀(x:It) (d:Nat),∀y∈toldI x d,∃q c,y=[i6 (q:Nat),.agg c]∧idsL c=[]
 | .mk n ws b ks ln co,d,y,hy=>by
  rw [toldI,List.mem_cons] at hy
  rcases hy with rfl|hy
  ·exact ⟨d,_,rfl,rfl⟩
  ·exact toldL_deps ks (d+1) y hy
theorem toldL_deps: ∀(L:List It) (d:Nat),∀y∈toldL L d,∃q c,y=[i6 (q:Nat),.agg c]∧idsL c=[]
 |[],d,y,hy=>by cases hy
 |x::r,d,y,hy=>by
  rw [toldL,List.mem_append] at hy
  rcases hy with hy|hy
  ·exact toldI_deps x d y hy
  ·exact toldL_deps r d y hy
end
def cntST (RR:List (List AV)) (k:Nat):St:=⟨[(6,.undef),(5,.fn 62 [.ptr (.nw 5 (.n 1)) 0]),(4,.sl RR),(3,.ptr (.n 3) 0),(2,i6 0),(0,.sl RR)],[(.nw 5 (.n 1),[.sl RR]),(.n 3,[i6 k])],[]⟩
set_option maxHeartbeats 2000000 in
theorem lcount_spec (L:List It) (hc:cntL L≤90000) (hd:depL L≤90000) (D:Nat):SpH Tryz.prog gl 11 D ⟨[.sl (itRows L)],[],[]⟩ ⟨i6 (cntL L),[],[]⟩:=by
 refine h11 rfl ?_
 have W:=fun d=>walk_spec L d
 have IT:=walk_iter L (.nw 5 (.n 1)) rfl (by omega) hd
 have fl:=toldL_len L 1
 have td:=toldL_deps L 1
 rw [←fl] at hc ⊢
 generalize toldL L 1=TL at *
 generalize itRows L=RR at *
 simp only [inSt,mpB,mpL,AV.mp,mpP,Pl.mp,c11,wpF_sq,wpF_c,wpF_bl]
 simp -implicitDefEqProofs [wpF_sq,wpF_c,wpF_bl]
 refine onH_mk _ _ (W _) ⟨?_,?_,?_,?_,?_,?_,?_⟩ ?_
 iterate 7 (· simp)
 simp -implicitDefEqProofs [wpF_sq,wpF_c,wpF_bl]
 refine ⟨by simp -implicitDefEqProofs,62,[.ptr (.nw 5 (.n 1)) 0],[(.nw 5 (.n 1),[.sl RR])],TL,rfl,?_,IT,?_,?_⟩
 ·intro d cs h
  simp only [lkB] at h
  split at h
  ·rename_i e
   subst e
   cases h
   simp -implicitDefEqProofs [wkB]
  ·cases h
 ·intro x hx
  obtain ⟨q,c,rfl,_⟩:=td x hx
  rfl
 ·refine wpRs_inv (fun k τ=>τ=cntST RR k) TL 0 _ rfl ?_ ?_
  ·rintro j x τ hx rfl
   rw [Nat.zero_add]
   obtain ⟨hj,he⟩:=List.getElem?_eq_some_iff.1 hx
   obtain ⟨q,c,rfl,hcs⟩:=td x (List.mem_of_getElem? hx)
   have t1:IntKind.i64.wrap ((j:Int)+1)=(j+1:Nat):=by rw [wrap_i64]<;>omega
   refine ⟨⟨[.ptr (.n 3) 0],[(.nw 5 (.n 1),[.sl RR]),(.n 3,[i6 j])],[]⟩,⟨⟨?_,?_,?_,?_,?_,?_,?_⟩,?_,?_⟩,?_⟩
   iterate 8 (· simp [cntST])
   ·refine noIt_of ?_
    simp -implicitDefEqProofs
   simp only [rdSt,zipE,mpL,mpB,AV.mp,mpP,List.cons_append,List.nil_append]
   simp -implicitDefEqProofs
   refine ⟨by rintro a c (⟨rfl,_⟩|⟨rfl,_⟩)<;>rfl,?_⟩
   simp -implicitDefEqProofs [t1]
   refine ⟨⟨.tup [],[(.nw 5 (.n 1),[.sl RR]),(.n 3,[i6 (j+1:Nat)])],[]⟩,⟨_,.z _,?_,?_,?_,?_,?_,?_⟩,⟨?_,?_,?_,?_,?_,?_,?_⟩,?_,rfl⟩
   ·simp
   ·simp
   ·simp [obx]
   ·simp
   ·simp
   ·simp
   iterate 7 (· simp [cntST])
   ·simp
  ·rintro τ rfl
   rw [Nat.zero_add]
   simp only [cntST]
   simp -implicitDefEqProofs [wpF_c,postRF]
   refine postH_r ⟨?_,?_,?_,?_,?_,?_⟩<;>simp -implicitDefEqProofs
open Go.Proofs
def mxD (m:Nat) (p:Nat×It):Nat:=max m p.1
mutual
theorem flatI_mx: ∀(x:It) (d m:Nat),1≤d→(flatI x d).foldl mxD m=max m (d - 1+depI x)
 | .mk n ws b ks ln co,d,m,h=>by
  rw [flatI,depI,List.foldl_cons,flatL_mx ks (d+1) _ (by omega)]
  unfold mxD
  dsimp only
  split<;>omega
theorem flatL_mx: ∀(L:List It) (d m:Nat),1≤d→(flatL L d).foldl mxD m=max m (if depL L=0 then 0 else d - 1+depL L)
 |[],d,m,h=>by rw [flatL,depL];simp
 |x::r,d,m,h=>by
  have hx:1≤depI x:=by cases x;rw [depI];omega
  rw [flatL,depL,List.foldl_append,flatI_mx x d m h,flatL_mx r d _ h]
  split<;>split<;>omega
end
theorem flat_depth (L:List It):(flatL L 1).foldl mxD 0=depL L:=by
 rw [flatL_mx L 1 0 (Nat.le_refl _)]
 split<;>omega
def depST (RR:List (List AV)) (m:Nat):St:=⟨[(7,.undef),(6,.fn 62 [.ptr (.nw 6 (.n 1)) 0]),(5,.sl RR),(3,.ptr (.n 3) 0),(2,i6 0),(0,.sl RR)],[(.nw 6 (.n 1),[.sl RR]),(.n 3,[i6 m])],[]⟩
theorem row_noids (x:It):idsL x.row=[]:=by
 obtain ⟨n,ws,b,ks,ln,co⟩:=x
 rw [It.row];rfl
set_option maxHeartbeats 2000000 in
theorem ldepth_spec (L:List It) (hc:cntL L≤90000) (hd:depL L≤90000) (D:Nat):SpH Tryz.prog gl 13 D ⟨[.sl (itRows L)],[],[]⟩ ⟨i6 (depL L),[],[]⟩:=by
 refine h13 rfl ?_
 have W:=fun d=>walk_spec L d
 have IT:=walk_iter L (.nw 6 (.n 1)) rfl (by omega) hd
 rw [toldL_flat] at IT
 rw [←flat_depth L]
 generalize flatL L 1=FL at *
 generalize itRows L=RR at *
 simp only [inSt,mpB,mpL,AV.mp,mpP,Pl.mp,c13,wpF_sq,wpF_c,wpF_bl]
 simp -implicitDefEqProofs [wpF_sq,wpF_c,wpF_bl]
 refine onH_mk _ _ (W _) ⟨?_,?_,?_,?_,?_,?_,?_⟩ ?_
 iterate 7 (· simp)
 simp -implicitDefEqProofs [wpF_sq,wpF_c,wpF_bl]
 refine ⟨by simp -implicitDefEqProofs,62,[.ptr (.nw 6 (.n 1)) 0],[(.nw 6 (.n 1),[.sl RR])],FL.map encF,rfl,?_,IT,?_,?_⟩
 ·intro d cs h
  simp only [lkB] at h
  split at h
  ·rename_i e
   subst e
   cases h
   simp -implicitDefEqProofs [wkB]
  ·cases h
 ·intro x hx
  obtain ⟨p,_,rfl⟩:=List.mem_map.1 hx
  rfl
 ·refine wpRs_inv (fun k τ=>τ=depST RR ((FL.take k).foldl mxD 0)) (FL.map encF) 0 _ rfl ?_ ?_
  ·rintro j x τ hx rfl
   rw [Nat.zero_add]
   rw [List.getElem?_map] at hx
   cases hp:FL[j]? with
   |none=>rw [hp] at hx;cases hx
   |some p=>
    rw [hp] at hx
    cases hx
    obtain ⟨hj,he⟩:=List.getElem?_eq_some_iff.1 hp
    obtain ⟨q,y⟩:=p
    have hs:(FL.take (j+1)).foldl mxD 0=max ((FL.take j).foldl mxD 0) q:=by
     rw [List.take_succ_eq_append_getElem hj,List.foldl_append,he];rfl
    have hy:=row_noids y
    have hm: ∀f,mpL f y.row=y.row:=fun f=>mpL_noids hy
    rw [hs]
    generalize (FL.take j).foldl mxD 0=m at *
    unfold encF
    dsimp only
    generalize y.row=c at *
    refine ⟨⟨[.ptr (.n 3) 0],[(.nw 6 (.n 1),[.sl RR]),(.n 3,[i6 m])],[]⟩,⟨⟨?_,?_,?_,?_,?_,?_,?_⟩,?_,?_⟩,?_⟩
    iterate 8 (· simp [depST])
    ·refine noIt_of ?_
     simp -implicitDefEqProofs
    simp only [rdSt,zipE,mpL,mpB,AV.mp,mpP,List.cons_append,List.nil_append]
    simp -implicitDefEqProofs
    refine ⟨by rintro a c (⟨rfl,_⟩|⟨rfl,_⟩)<;>rfl,?_⟩
    have hmx0:(if m<q then (q:Int) else (m:Int))=((max m q:Nat):Int):=by split<;>omega
    have hmx:(if (m:Int)<(q:Int) then (q:Int) else (m:Int))=((max m q:Nat):Int):=by split<;>omega
    have hmx2:(if (q:Int)≤(m:Int) then (m:Int) else (q:Int))=((max m q:Nat):Int):=by split<;>omega
    have hmx3:max (m:Int) (q:Int)=((max m q:Nat):Int):=by omega
    refine ⟨⟨.tup [],[(.nw 6 (.n 1),[.sl RR]),(.n 3,[i6 (max m q:Nat)])],[]⟩,⟨_,.z _,?_,?_,?_,?_,?_,?_⟩,⟨?_,?_,?_,?_,?_,?_,?_⟩,?_,rfl⟩
    ·simp
    ·simp
    ·simp [obx,hmx0]
    ·simp
    ·simp
    ·simp
    iterate 7 (· simp [depST])
    ·simp
  ·rintro τ rfl
   rw [Nat.zero_add,List.length_map,List.take_length]
   generalize FL.foldl mxD 0=m at *
   simp only [depST]
   simp -implicitDefEqProofs [wpF_c,postRF]
   refine postH_r ⟨?_,?_,?_,?_,?_,?_⟩<;>simp -implicitDefEqProofs
open Go.Proofs
mutual
def eqI:It→It→Bool
 | .mk n ws b ks _ _,.mk n' ws' b' ks' _ _=>n==n'&&((b==b')&&(eqTs ws ws'&&eqIs ks ks'))
def eqIs:List It→List It→Bool
 |[],[]=>true
 |x::r,y::s=>eqI x y&&eqIs r s
 |_,_=>false
end
theorem eqIs_len: ∀(A B:List It),A.length≠B.length→eqIs A B=false
 |[],[],h=>absurd rfl h
 |[],w::s,_=>by rw [eqIs]<;>intros<;>simp_all
 |v::r,[],_=>by rw [eqIs]<;>intros<;>simp_all
 |v::r,w::s,h=>by rw [eqIs,eqIs_len r s (by simpa using h),Bool.and_false]
set_option maxHeartbeats 2000000 in
theorem lI_spec (x y:It) (hx:bdI x) (hS: ∀n ws b ks l c n' ws' b' ks' l' c',x= .mk n ws b ks l c→y= .mk n' ws' b' ks' l' c'→Sp Tryz.prog gl 17 [.sl (itRows ks),.sl (itRows ks')] (.bool (eqIs ks ks'))):Sp Tryz.prog gl 36 [.agg x.row,.agg y.row] (.bool (eqI x y)):=by
 refine s36 rfl (by simp [idsL,AV.ids,row_noids]) ?_
 obtain ⟨n,ws,b,ks,l,c⟩:=x
 obtain ⟨n',ws',b',ks',l',c'⟩:=y
 have S1:=hS n ws b ks l c n' ws' b' ks' l' c' rfl rfl
 rw [bdI] at hx
 have E:=eqF_spec ws ws' (by omega)
 rw [It.row,It.row,eqI]
 generalize itRows ks=KR at *
 generalize itRows ks'=KR' at *
 generalize ws.map Tk.row=WR at *
 generalize ws'.map Tk.row=WR' at *
 generalize eqTs ws ws'=q1 at *
 generalize eqIs ks ks'=q2 at *
 cases hn:n==n'
 ·simp [c36,hn]
 ·cases hb:b==b'
  ·simp [c36,hn,hb]
  ·simp [c36,hn,hb]
   refine onH_mk _ _ (E _) ⟨?_,?_,?_,?_,?_,?_,?_⟩ ?_
   iterate 7 (· simp)
   cases q1
   ·simp
   ·simp
    refine onC_mk _ (S1) ?_
    simp -implicitDefEqProofs
open Go.Proofs
theorem eqG_spec (A B:List It) (hA:A.length≤1000000) (hC: ∀i (h:i<A.length) (h2:i<B.length),Sp Tryz.prog gl 36 [.agg A[i].row,.agg B[i].row] (.bool (eqI A[i] B[i]))) (d:Nat):
  SpH Tryz.prog gl 35 d ⟨[.sl (itRows A),.sl (itRows B),.fn 36 []],[],[]⟩ ⟨.bool (eqIs A B),[],[]⟩:=by
 refine h35 rfl ?_
 have al:=itRows_len A
 have bl:=itRows_len B
 have aat:=itRows_at A
 have bat:=itRows_at B
 have s6A:=it_six A
 have s6B:=it_six B
 obtain ⟨R,hR⟩: ∃R,R=eqIs A B:=⟨_,rfl⟩
 have hne:A.length≠B.length→R=false:=fun h=>by rw [hR];exact eqIs_len A B h
 rw [←hR]
 generalize itRows A=AR at *
 generalize itRows B=BR at *
 simp only [inSt,mpB,mpL,AV.mp,mpP,Pl.mp]
 by_cases c:A.length=B.length
 ·have c':((A.length:Int)!=(B.length:Int))=false:=by rw [c];simp
  simp -implicitDefEqProofs [c35,al,bl,c]
  refine wp_lpk (α:=Nat) (fun i=>⟨[(1,.sl BR),(2,.fn 36 []),(15,.sl AR),(16,i6 B.length),(17,i6 i)],[],[]⟩) (fun i=>i≤A.length∧R=eqIs (A.drop i) (B.drop i)) (fun i=>A.length - i) ?_ 0 ?_ ?_
  ·rintro K i hK ⟨h1,h2⟩
   by_cases g:i<A.length
   ·have t1:IntKind.i64.wrap ((i:Int)+1)=(i+1:Nat):=by rw [wrap_i64]<;>omega
    have gB:i<B.length:=by omega
    have gA':i<AR.length:=by omega
    have gB':i<BR.length:=by omega
    have ra:=aat i g gA'
    have rb:=bat i gB gB'
    rw [List.drop_eq_getElem_cons g,List.drop_eq_getElem_cons gB] at h2
    simp only [eqIs] at h2
    have C:=fun d=>Sp.h (d:=d) (hC i g gB)
    have n1:=row_noids A[i]
    have n2:=row_noids B[i]
    have z1: ∀f,mpL f A[i].row=A[i].row:=fun f=>mpL_noids n1
    have z2: ∀f,mpL f B[i].row=B[i].row:=fun f=>mpL_noids n2
    have y1:A[i].row.length=6:=s6A _ (by rw [←ra];exact List.getElem_mem gA')
    have y2:B[i].row.length=6:=s6B _ (by rw [←rb];exact List.getElem_mem gB')
    have u1:List.take 6 A[i].row=A[i].row:=List.take_of_length_le (by omega)
    have u2:List.take 6 B[i].row=B[i].row:=List.take_of_length_le (by omega)
    have fin:eqI A[i] B[i]=true→ ∀σ',Weak σ' ⟨[(1,.sl BR),(2,.fn 36 []),(15,.sl AR),(16,i6 B.length),(17,i6 (i+1:Nat))],[],[]⟩→K σ':=fun hg σ' hσ=>
     hK (i+1) σ' ⟨by omega,by rw [hg,Bool.true_and] at h2;exact h2⟩ (by omega) hσ
    have hneg:eqI A[i] B[i]=false→R=false:=fun hg=>by rw [hg,Bool.false_and] at h2;exact h2
    clear hK hR h2 hne aat bat
    generalize eqI A[i] B[i]=q at *
    clear hC
    generalize A[i].row=va at *
    generalize B[i].row=vb at *
    simp -implicitDefEqProofs [g,gB,gA',gB',ra,rb,y1,y2,u1,u2]
    refine onH_mk _ _ (C _) ⟨?_,?_,?_,?_,?_,?_,?_⟩ ?_
    iterate 7 (· simp [n1,n2,z1,z2])
    cases q
    ·have hn:=hneg rfl
     subst hn
     simp -implicitDefEqProofs
     refine postH_r ⟨?_,?_,?_,?_,?_,?_⟩<;>simp -implicitDefEqProofs
    ·have fin:=fin rfl
     simp -implicitDefEqProofs [t1]
     refine fin _ ?_
     refine weak_mk ?_ ?_ ?_ ?_ ?_ ?_<;>simp -implicitDefEqProofs [t1]
   ·obtain rfl:i=A.length:=by omega
    rw [List.drop_length,c,List.drop_length] at h2
    have h2:R=true:=h2
    subst h2
    clear hK
    simp -implicitDefEqProofs [c]
    refine postH_r ⟨?_,?_,?_,?_,?_,?_⟩<;>simp -implicitDefEqProofs
  ·exact ⟨Nat.zero_le _,hR⟩
  ·refine weak_mk ?_ ?_ ?_ ?_ ?_ ?_<;>simp -implicitDefEqProofs [al,bl,c]
 ·have h2:=hne c
  subst h2
  have c2: ¬(A.length:Int)=(B.length:Int):=by omega
  have c3:((A.length:Int)!=(B.length:Int))=true:=bne_iff_ne.2 c2
  have c4:((A.length:Int)==(B.length:Int))=false:=beq_eq_false_iff_ne.2 c2
  simp -implicitDefEqProofs [c35,al,bl,c,c2,c3,c4]
  refine postH_r ⟨?_,?_,?_,?_,?_,?_⟩<;>simp -implicitDefEqProofs
open Go.Proofs
theorem lsame_spec: ∀(N:Nat) (A B:List It),cntL A≤N→cntL A≤100000→bdL A→Sp Tryz.prog gl 17 [.sl (itRows A),.sl (itRows B)] (.bool (eqIs A B)):=by
 intro N
 induction N with
 |zero=>
  intro A B h hc hw
  have hA:A=[]:=by
   have:=len_cnt A
   exact List.eq_nil_of_length_eq_zero (by omega)
  subst hA
  have E:=eqG_spec [] B (by simp) (fun i h=>absurd h (by simp))
  refine s17 rfl rfl ?_
  generalize eqIs [] B=q at *
  generalize itRows B=BR at *
  generalize itRows []=AR at *
  simp -implicitDefEqProofs [c17]
  refine onH_mk _ _ (E _) ⟨?_,?_,?_,?_,?_,?_,?_⟩ ?_
  iterate 7 (· simp)
  simp -implicitDefEqProofs
 |succ N ih=>
  intro A B h hc hw
  have la:=len_cnt A
  have E:=eqG_spec A B (by omega) (fun i h1 h2=>lI_spec A[i] B[i] (bd_mem hw (List.getElem_mem h1)) (fun n ws b ks l c n' ws' b' ks' l' c' e1 e2=>by
   have q1:=cnt_mem (List.getElem_mem h1)
   have q2:=bd_mem hw (List.getElem_mem h1)
   rw [e1,cntI] at q1
   rw [e1,bdI] at q2
   exact ih ks ks' (by omega) (by omega) q2.2))
  refine s17 rfl rfl ?_
  generalize eqIs A B=q at *
  generalize itRows B=BR at *
  generalize itRows A=AR at *
  simp -implicitDefEqProofs [c17]
  refine onH_mk _ _ (E _) ⟨?_,?_,?_,?_,?_,?_,?_⟩ ?_
  iterate 7 (· simp)
  simp -implicitDefEqProofs
mutual
theorem eqI_iff: ∀(x y:It),eqI x y=true↔bareI x=bareI y
 | .mk n ws b ks l c,.mk n' ws' b' ks' l' c'=>by
  rw [eqI,bareI,bareI]
  simp only [Bool.and_eq_true,beq_iff_eq,It.mk.injEq,eqTs_iff,eqIs_iff ks ks',and_true]
  constructor
  ·rintro ⟨h1,h2,h3,h4⟩;exact ⟨h1,h3,h2,h4⟩
  ·rintro ⟨h1,h3,h2,h4⟩;exact ⟨h1,h2,h3,h4⟩
theorem eqIs_iff: ∀(A B:List It),eqIs A B=true↔bareL A=bareL B
 |[],[]=>by rw [eqIs];simp [bareL]
 |[],w::s=>by
  rw [eqIs_len [] (w::s) (by simp)]
  simp [bareL]
 |v::r,[]=>by
  rw [eqIs_len (v::r) [] (by simp)]
  simp [bareL]
 |v::r,w::s=>by rw [eqIs,Bool.and_eq_true,eqI_iff v w,eqIs_iff r s,bareL,bareL,List.cons.injEq]
end
open Go.Proofs
def sT (v w:Tk):Bool:=v.k==w.k&&(v.t==w.t&&(((v.n:Int)==(w.n:Int))&&(v.ln==w.ln&&v.co==w.co)))
def sTs:List Tk→List Tk→Bool
 |[],[]=>true
 |v::r,w::s=>sT v w&&sTs r s
 |_,_=>false
theorem sTs_len: ∀(A B:List Tk),A.length≠B.length→sTs A B=false
 |[],[],h=>absurd rfl h
 |[],w::s,_=>rfl
 |v::r,[],_=>rfl
 |v::r,w::s,h=>by rw [sTs,sTs_len r s (by simpa using h),Bool.and_false]
theorem r13_spec (A B:List Tk) (hA:A.length≤1000000):Sp Tryz.prog gl 33 [.sl (A.map Tk.row),.sl (B.map Tk.row)] (.bool (sTs A B)):=by
 refine s33 rfl rfl ?_
 have al:(A.map Tk.row).length=A.length:=by simp
 have bl:(B.map Tk.row).length=B.length:=by simp
 have aat: ∀i (h:i<A.length),∀h2,(A.map Tk.row)[i]'h2=A[i].row:=fun i h h2=>by simp
 have bat: ∀i (h:i<B.length),∀h2,(B.map Tk.row)[i]'h2=B[i].row:=fun i h h2=>by simp
 obtain ⟨R,hR⟩: ∃R,R=sTs A B:=⟨_,rfl⟩
 have hne:A.length≠B.length→R=false:=fun h=>by rw [hR];exact sTs_len A B h
 rw [←hR]
 generalize A.map Tk.row=AR at *
 generalize B.map Tk.row=BR at *
 by_cases c:A.length=B.length
 ·simp [c33,al,bl,c]
  refine wp_lpk (α:=Nat) (fun i=>⟨[(0,.sl AR),(1,.sl BR),(5,i6 i)],[],[]⟩) (fun i=>i≤A.length∧R=sTs (A.drop i) (B.drop i)) (fun i=>A.length - i) ?_ 0 ?_ ?_
  ·rintro K i hK ⟨h1,h2⟩
   by_cases g:i<A.length
   ·have t1:IntKind.i64.wrap ((i:Int)+1)=(i+1:Nat):=by rw [wrap_i64]<;>omega
    have gB:i<B.length:=by omega
    have gA':i<AR.length:=by omega
    have gB':i<BR.length:=by omega
    have ra:=aat i g gA'
    have rb:=bat i gB gB'
    rw [List.drop_eq_getElem_cons g,List.drop_eq_getElem_cons gB] at h2
    simp only [sTs] at h2
    have fin:sT A[i] B[i]=true→ ∀σ',Weak σ' ⟨[(0,.sl AR),(1,.sl BR),(5,i6 (i+1:Nat))],[],[]⟩→K σ':=fun hg σ' hσ=>
     hK (i+1) σ' ⟨by omega,by rw [hg,Bool.true_and] at h2;exact h2⟩ (by omega) hσ
    have hneg:sT A[i] B[i]=false→R=false:=fun hg=>by rw [hg,Bool.false_and] at h2;exact h2
    clear hK hR h2 aat bat hne
    generalize A[i]=v at *
    generalize B[i]=w at *
    obtain ⟨k,s,n,l,cc⟩:=v
    obtain ⟨k2,s2,n2,l2,c2⟩:=w
    simp only [Tk.row,sT] at *
    cases hq:(k==k2&&(s==s2&&(((n:Int)==(n2:Int))&&(l==l2&&cc==c2))))
    ·have hn:=hneg hq
     subst hn
     simp -implicitDefEqProofs [g,gB,gA',gB',ra,rb,al,bl,c,hq]
    ·have fin:=fin hq
     simp -implicitDefEqProofs [g,gB,gA',gB',ra,rb,al,bl,c,hq]
     refine fin _ ?_
     refine weak_mk ?_ ?_ ?_ ?_ ?_ ?_<;>simp -implicitDefEqProofs [t1]
   ·obtain rfl:i=A.length:=by omega
    rw [List.drop_length,c,List.drop_length] at h2
    have h2:R=true:=h2
    subst h2
    clear hK
    simp -implicitDefEqProofs [al,bl,c]
  ·exact ⟨Nat.zero_le _,hR⟩
  ·refine weak_mk ?_ ?_ ?_ ?_ ?_ ?_<;>simp -implicitDefEqProofs
 ·have h2:=hne c
  subst h2
  have c2: ¬(A.length:Int)=(B.length:Int):=by omega
  have c3:((A.length:Int)!=(B.length:Int))=true:=bne_iff_ne.2 c2
  simp -implicitDefEqProofs [c33,al,bl,c,c2,c3]
open Go.Proofs
mutual
def sI:It→It→Bool
 | .mk n ws b ks l c,.mk n' ws' b' ks' l' c'=>n==n'&&((b==b')&&((l==l'&&c==c')&&(sTs ws ws'&&sIs ks ks')))
def sIs:List It→List It→Bool
 |[],[]=>true
 |x::r,y::s=>sI x y&&sIs r s
 |_,_=>false
end
theorem sIs_len: ∀(A B:List It),A.length≠B.length→sIs A B=false
 |[],[],h=>absurd rfl h
 |[],w::s,_=>by rw [sIs]<;>intros<;>simp_all
 |v::r,[],_=>by rw [sIs]<;>intros<;>simp_all
 |v::r,w::s,h=>by rw [sIs,sIs_len r s (by simpa using h),Bool.and_false]
set_option maxHeartbeats 4000000 in
theorem r14_same: ∀(N:Nat) (A B:List It),cntL A≤N→cntL A≤100000→bdL A→Sp Tryz.prog gl 15 [.sl (itRows A),.sl (itRows B)] (.bool (sIs A B)):=by
 intro N
 induction N with
 |zero=>
  intro A B h hc hw
  have hA:A=[]:=by
   have:=len_cnt A
   exact List.eq_nil_of_length_eq_zero (by omega)
  subst hA
  refine s15 rfl rfl ?_
  cases B with
  |nil=>
   simp -implicitDefEqProofs [c15,itRows,sIs]
   refine wp_lpk (α:=Unit) (fun _=>⟨[(0,.sl []),(1,.sl []),(5,i6 0)],[],[]⟩) (fun _=>True) (fun _=>0) ?_ () trivial ?_
   ·rintro K x hK _
    clear hK
    simp -implicitDefEqProofs
   ·refine weak_mk ?_ ?_ ?_ ?_ ?_ ?_<;>simp -implicitDefEqProofs
  |cons w s=>
   rw [sIs_len [] (w::s) (by simp)]
   have bl:=itRows_len (w::s)
   rw [List.length_cons] at bl
   generalize itRows (w::s)=BR at *
   simp only [itRows]
   have c3:((0:Int)!=((s.length:Int)+1))=true:=bne_iff_ne.2 (by omega)
   have c4:((0:Int)!=((s.length+1:Nat):Int))=true:=bne_iff_ne.2 (by omega)
   simp -implicitDefEqProofs [c15,bl,c3,c4]
 |succ N ih=>
  intro A B h hc hw
  refine s15 rfl rfl ?_
  have al:=itRows_len A
  have bl:=itRows_len B
  have aat:=itRows_at A
  have bat:=itRows_at B
  have ll:=len_cnt A
  obtain ⟨R,hR⟩: ∃R,R=sIs A B:=⟨_,rfl⟩
  have hne:A.length≠B.length→R=false:=fun h=>by rw [hR];exact sIs_len A B h
  rw [←hR]
  generalize itRows A=AR at *
  generalize itRows B=BR at *
  by_cases c:A.length=B.length
  ·simp [c15,al,bl,c]
   refine wp_lpk (α:=Nat) (fun i=>⟨[(0,.sl AR),(1,.sl BR),(5,i6 i)],[],[]⟩) (fun i=>i≤A.length∧R=sIs (A.drop i) (B.drop i)) (fun i=>A.length - i) ?_ 0 ?_ ?_
   ·rintro K i hK ⟨h1,h2⟩
    by_cases g:i<A.length
    ·have t1:IntKind.i64.wrap ((i:Int)+1)=(i+1:Nat):=by rw [wrap_i64]<;>omega
     have gB:i<B.length:=by omega
     have gA':i<AR.length:=by omega
     have gB':i<BR.length:=by omega
     have ra:=aat i g gA'
     have rb:=bat i gB gB'
     rw [List.drop_eq_getElem_cons g,List.drop_eq_getElem_cons gB] at h2
     simp only [sIs] at h2
     have hx1:=cnt_mem (List.getElem_mem g)
     have hx2:=bd_mem hw (List.getElem_mem g)
     have fin:sI A[i] B[i]=true→ ∀σ',Weak σ' ⟨[(0,.sl AR),(1,.sl BR),(5,i6 (i+1:Nat))],[],[]⟩→K σ':=fun hg σ' hσ=>
      hK (i+1) σ' ⟨by omega,by rw [hg,Bool.true_and] at h2;exact h2⟩ (by omega) hσ
     have hneg:sI A[i] B[i]=false→R=false:=fun hg=>by rw [hg,Bool.false_and] at h2;exact h2
     clear hK hR h2 aat bat hne
     generalize A[i]=v at *
     generalize B[i]=w at *
     obtain ⟨n,ws,b,ks,l,cc⟩:=v
     obtain ⟨n2,ws2,b2,ks2,l2,c2⟩:=w
     rw [cntI] at hx1
     rw [bdI] at hx2
     have IH:=ih ks ks2 (by omega) (by omega) hx2.2
     have S13:=r13_spec ws ws2 (by omega)
     rw [It.row] at ra rb
     rw [sI] at fin hneg
     clear ih hx2
     generalize itRows ks=KR at *
     generalize itRows ks2=KR2 at *
     generalize ws.map Tk.row=WR at *
     generalize ws2.map Tk.row=WR2 at *
     generalize sTs ws ws2=q1 at *
     generalize sIs ks ks2=q2 at *
     have hn':(n !=n2)=!(n==n2):=rfl
     have hb':(b !=b2)=!(b==b2):=rfl
     cases hn:n==n2
     ·have hn2:=hneg (by rw [hn];rfl)
      subst hn2
      simp -implicitDefEqProofs [g,gB,gA',gB',ra,rb,al,bl,c,hn,hn']
     ·cases hb:b==b2
      ·have hn2:=hneg (by rw [hn,hb];rfl)
       subst hn2
       simp -implicitDefEqProofs [g,gB,gA',gB',ra,rb,al,bl,c,hn,hn',hb,hb']
      ·cases hp:(l==l2&&cc==c2)
       ·have hn2:=hneg (by rw [hn,hb,hp];rfl)
        subst hn2
        simp -implicitDefEqProofs [g,gB,gA',gB',ra,rb,al,bl,c,hn,hn',hb,hb',hp]
       ·simp [g,gB,gA',gB',ra,rb,al,bl,c,hn,hn',hb,hb',hp]
        refine onC_mk _ (S13) ?_
        cases q1
        ·have hn2:=hneg (by rw [hn,hb,hp];rfl)
         subst hn2
         simp -implicitDefEqProofs [g,gB,gA',gB',ra,rb,al,bl,c]
        ·simp [g,gB,gA',gB',ra,rb,al,bl,c]
         refine onC_mk _ (IH) ?_
         cases q2
         ·have hn2:=hneg (by rw [hn,hb,hp];rfl)
          subst hn2
          simp -implicitDefEqProofs
         ·have fin:=fin (by rw [hn,hb,hp];rfl)
          simp -implicitDefEqProofs
          refine fin _ ?_
          refine weak_mk ?_ ?_ ?_ ?_ ?_ ?_<;>simp -implicitDefEqProofs [t1]
    ·obtain rfl:i=A.length:=by omega
     rw [List.drop_length,c,List.drop_length] at h2
     have h2:R=true:=by rw [h2,sIs]
     subst h2
     clear hK
     simp -implicitDefEqProofs [al,bl,c]
   ·exact ⟨Nat.zero_le _,hR⟩
   ·refine weak_mk ?_ ?_ ?_ ?_ ?_ ?_<;>simp -implicitDefEqProofs
  ·have h2:=hne c
   subst h2
   have c2: ¬(A.length:Int)=(B.length:Int):=by omega
   have c3:((A.length:Int)!=(B.length:Int))=true:=bne_iff_ne.2 c2
   simp -implicitDefEqProofs [c15,al,bl,c,c2,c3]
open Go.Proofs
def okTx (x:It):Bool:=match x with
 | .mk n ws _ _ _ _=>decide (n.length≤2000)&&(decide (ws.length≤20)&&ws.all (fun t=>decide (t.t.length≤2000)))
mutual
def wgI:It→Nat→Nat→Option Nat
 | .mk n ws b ks l c,d,m=>if m=0∨okTx (.mk n ws b ks l c)=false then none else if (d=1∧ks≠[])∨m - 1<ks.length then none else wgL ks (d - 1) (m - 1)
def wgL:List It→Nat→Nat→Option Nat
 |[],_,m=>some m
 |x::r,d,m=>match wgI x d m with
  |none=>none
  |some m'=>wgL r d m'
end
def wg (L:List It) (d m:Nat):Option Nat:=if (d=0∧L≠[])∨m<L.length then none else wgL L d m
def wgV (o:Option Nat):Int:=match o with
 |none=> -1
 |some m=>m
mutual
theorem wgI_ok: ∀(x:It) (d m q:Nat),1≤d→wgI x d m=some q→cntI x+q=m∧depI x≤d∧bdI x
 | .mk n ws b ks l c,d,m,q,hd,h=>by
  rw [wgI] at h
  split at h
  ·cases h
  ·rename_i h1
   simp only [not_or,Bool.not_eq_false] at h1
   split at h
   ·cases h
   ·rename_i h2
    simp only [not_or,not_and,ne_eq,Decidable.not_not] at h2
    obtain ⟨m0,ok⟩:=h1
    unfold okTx at ok
    simp only [Bool.and_eq_true,decide_eq_true_eq,List.all_eq_true] at ok
    obtain ⟨o1,o2,o3⟩:=ok
    have hb:(ws.length≤1000∧n.length≤100000∧ ∀t∈ws,t.t.length≤100000):=⟨by omega,by omega,fun t ht=>by have:=o3 t ht;omega⟩
    rw [cntI,depI,bdI]
    by_cases e:d=1
    ·have hk:=h2.1 e
     subst hk
     rw [wgL] at h
     cases h
     refine ⟨by rw [cntL];omega,by rw [depL];omega,hb,by rw [bdL];trivial⟩
    ·obtain ⟨q1,q2,q3⟩:=wgL_ok ks (d - 1) (m - 1) q (by omega) h
     exact ⟨by omega,by omega,hb,q3⟩
theorem wgL_ok: ∀(L:List It) (d m q:Nat),1≤d→wgL L d m=some q→cntL L+q=m∧depL L≤d∧bdL L
 |[],d,m,q,hd,h=>by
  rw [wgL] at h
  cases h
  exact ⟨by rw [cntL];omega,by rw [depL];omega,by rw [bdL];trivial⟩
 |x::r,d,m,q,hd,h=>by
  rw [wgL] at h
  split at h
  ·cases h
  ·rename_i m' hx
   obtain ⟨q1,q2,q3⟩:=wgI_ok x d m m' hd hx
   obtain ⟨p1,p2,p3⟩:=wgL_ok r d m' q hd h
   exact ⟨by rw [cntL];omega,by rw [depL];omega,by rw [bdL];exact ⟨q3,p3⟩⟩
end
theorem wg_ok {L:List It} {q:Nat} (h:wg L 40 400=some q):cntL L≤400∧depL L≤40∧bdL L:=by
 unfold wg at h
 split at h
 ·cases h
 ·obtain ⟨q1,q2,q3⟩:=wgL_ok L 40 400 q (by decide) h
  exact ⟨by omega,q2,q3⟩
open Go.Proofs
theorem wgV_lt (o:Option Nat):decide (wgV o<0)=o.isNone:=by
 cases o with
 |none=>rfl
 |some m=>
  have: ¬((m:Nat):Int)<0:=by omega
  show decide (((m:Nat):Int)<0)=false
  exact decide_eq_false this
def okWs (l:List Tk):Bool:=l.all (fun t=>decide (t.t.length≤2000))
theorem wgI_eq (n:List UInt8) (ws:List Tk) (b:Bool) (ks:List It) (l c:Int) (d m:Nat) (hd:1≤d):wgI (.mk n ws b ks l c) d m=if m=0∨okTx (.mk n ws b ks l c)=false then none else wg ks (d - 1) (m - 1):=by
 rw [wgI]
 unfold wg
 have e:(d - 1=0)↔d=1:=by omega
 simp only [e]
set_option maxHeartbeats 4000000 in
theorem weigh_spec: ∀(N:Nat) (L:List It) (d m:Nat),m+d≤N→d≤100000→m≤100000→Sp Tryz.prog gl 31 [.sl (itRows L),i6 d,i6 m] (i6 (wgV (wg L d m))):=by
 intro N
 induction N with
 |zero=>
  intro L d m h hd hm
  obtain rfl:d=0:=by omega
  obtain rfl:m=0:=by omega
  refine s31 rfl rfl ?_
  have rl:=itRows_len L
  cases L with
  |nil=>
   simp -implicitDefEqProofs [c31,itRows,wg,wgL,wgV]
   refine wp_lpk (α:=Unit) (fun _=>⟨[(0,.sl []),(1,i6 0),(2,i6 0),(7,i6 0)],[],[]⟩) (fun _=>True) (fun _=>0) ?_ () trivial ?_
   ·rintro K x hK _
    clear hK
    simp -implicitDefEqProofs
   ·refine weak_mk ?_ ?_ ?_ ?_ ?_ ?_<;>simp -implicitDefEqProofs
  |cons x r=>
   rw [List.length_cons] at rl
   have e:wg (x::r) 0 0=none:=by unfold wg;rw [if_pos (.inl ⟨rfl,by simp⟩)]
   rw [e]
   generalize itRows (x::r)=RR at *
   have c1:(0:Int)<(r.length:Int)+1:=by omega
   have c2:(0:Int)<((r.length+1:Nat):Int):=by omega
   simp -implicitDefEqProofs [c31,rl,c1,c2,wgV]
 |succ N ih=>
  intro L d m h hd hm
  refine s31 rfl rfl ?_
  have rl:=itRows_len L
  have rat:=itRows_at L
  obtain ⟨R,hR⟩: ∃R,R=wg L d m:=⟨_,rfl⟩
  rw [←hR]
  by_cases bad:(d=0∧L≠[])∨m<L.length
  ·have hn:R=none:=by rw [hR];unfold wg;rw [if_pos bad]
   subst hn
   generalize itRows L=RR at *
   by_cases hd0:d=0
   ·subst hd0
    by_cases hl:0<L.length
    ·have c1:(0:Int)<L.length:=by omega
     simp -implicitDefEqProofs [c31,rl,hl,c1,wgV]
    ·have:L=[]:=List.eq_nil_of_length_eq_zero (by omega)
     subst this
     rcases bad with ⟨_,hb⟩|hb
     ·exact absurd rfl hb
     ·simp at hb
   ·have hb:m<L.length:=by
     rcases bad with ⟨hb,_⟩|hb
     ·exact absurd hb hd0
     ·exact hb
    have c0:((d:Int)==0)=false:=beq_eq_false_iff_ne.2 (by omega)
    have c2:(m:Int)<L.length:=by omega
    simp -implicitDefEqProofs [c31,rl,hd0,c0,hb,c2,wgV]
  ·have hR2:R=wgL L d m:=by rw [hR];unfold wg;rw [if_neg bad]
   clear hR
   simp only [not_or,not_and,ne_eq,Decidable.not_not,Nat.not_lt] at bad
   obtain ⟨bad1,bad2⟩:=bad
   have c2: ¬(m:Int)<L.length:=by omega
   have c2': ¬m<L.length:=by omega
   have start: ∀K:St→Prop,K ⟨[],[],[]⟩→True:=fun _ _=>trivial
   have c0:(((d:Int)==0)&&decide ((0:Int)<L.length))=false:=by
    by_cases e:d=0
    ·rw [bad1 e];simp
    ·have:((d:Int)==0)=false:=beq_eq_false_iff_ne.2 (by omega)
     rw [this];rfl
   generalize itRows L=RR at *
   by_cases hd0:d=0
   ·have hL:=bad1 hd0
    subst hL
    subst hd0
    simp at rl
    subst rl
    rw [wgL] at hR2
    subst hR2
    simp -implicitDefEqProofs [c31,wgV]
    refine wp_lpk (α:=Unit) (fun _=>⟨[(0,.sl []),(1,i6 0),(2,i6 m),(7,i6 0)],[],[]⟩) (fun _=>True) (fun _=>0) ?_ () trivial ?_
    ·rintro K x hK _
     clear hK
     simp -implicitDefEqProofs
    ·refine weak_mk ?_ ?_ ?_ ?_ ?_ ?_<;>simp -implicitDefEqProofs
   ·have c0:((d:Int)==0)=false:=beq_eq_false_iff_ne.2 (by omega)
    simp -implicitDefEqProofs [c31,rl,hd0,c0,c2,c2']
    refine wp_lpk (α:=Nat×Nat) (fun y=>⟨[(0,.sl RR),(1,i6 d),(2,i6 y.2),(7,i6 y.1)],[],[]⟩) (fun y=>y.1≤L.length∧y.2≤m∧R=wgL (L.drop y.1) d y.2) (fun y=>L.length - y.1) ?_ (0,m) ?_ ?_
    ·rintro K ⟨i,q⟩ hK ⟨h1,hq,h2⟩
     simp only at h1 hq h2
     by_cases g:i<L.length
     ·have t1:IntKind.i64.wrap ((i:Int)+1)=(i+1:Nat):=by rw [wrap_i64]<;>omega
      have t2:IntKind.i64.wrap ((d:Int) - 1)=(d - 1:Nat):=by rw [wrap_i64]<;>omega
      have t3:IntKind.i64.wrap ((q:Int) - 1)=(q:Int) - 1:=by rw [wrap_i64]<;>omega
      have gR:i<RR.length:=by omega
      have rai:=rat i g gR
      rw [List.drop_eq_getElem_cons g,wgL] at h2
      have fin: ∀q',q'≤m→R=wgL (L.drop (i+1)) d q'→ ∀σ',Weak σ' ⟨[(0,.sl RR),(1,i6 d),(2,i6 q'),(7,i6 (i+1:Nat))],[],[]⟩→K σ':=fun q' h3 h4 σ' hσ=>
       hK (i+1,q') σ' ⟨by simp only;omega,h3,h4⟩ (by simp only;omega) hσ
      clear hK rat
      generalize L[i]=x at *
      obtain ⟨n,ws,b,ks,l,c⟩:=x
      rw [wgI_eq n ws b ks l c d q (by omega)] at h2
      rw [It.row] at rai
      have IH:=ih ks (d - 1) (q - 1) (by omega) (by omega) (by omega)
      have kl:=itRows_len ks
      generalize itRows ks=KR at *
      have wl:(ws.map Tk.row).length=ws.length:=List.length_map _
      have wat: ∀k (h:k<ws.length),∀h2,(ws.map Tk.row)[k]'h2=[i6 ws[k].k,.str ws[k].t,u ws[k].n,i6 ws[k].ln,i6 ws[k].co]:=fun k h h2=>by simp [Tk.row]
      generalize ws.map Tk.row=WR at *
      have g2:(i:Int)<L.length:=by omega
      by_cases q0:q=0
      ·rw [if_pos (.inl q0)] at h2
       have h2:R=none:=h2
       subst h2
       subst q0
       have z1:IntKind.i64.wrap (-1)= -1:=by rw [wrap_i64]<;>omega
       have z2:IntKind.i64.wrap (0 - 1)= -1:=by rw [wrap_i64]<;>omega
       simp -implicitDefEqProofs [g,g2,gR,rai,rl,z1,z2,wgV]
      ·have q1: ¬(q:Int) - 1<0:=by omega
       have q2: ¬(q:Int)<1:=by omega
       have t4:(q:Int) - 1=((q - 1:Nat):Int):=by omega
       replace t3:=t3.trans t4
       clear t4
       by_cases n1:n.length≤2000
       ·have n1': ¬(2000:Int)<n.length:=by omega
        by_cases w1:ws.length≤20
        ·have w1': ¬(20:Int)<ws.length:=by omega
         have hq': ∀k:Nat,¬((k:Nat):Int)<0:=fun k=>by omega
         simp -implicitDefEqProofs [g,g2,gR,rai,rl,t3,hq',n1,n1',wl,w1,w1']
         refine wp_lpk (α:=Nat) (fun k=>⟨[(0,.sl RR),(1,i6 d),(2,i6 (q - 1:Nat)),(7,i6 i),(8,i6 k)],[],[]⟩) (fun k=>k≤ws.length∧okWs ws=okWs (ws.drop k)) (fun k=>ws.length - k) ?_ 0 ?_ ?_
         ·rintro K2 k hK2 ⟨hk,hk2⟩
          have t5:IntKind.i64.wrap ((k:Int)+1)=(k+1:Nat):=by rw [wrap_i64]<;>omega
          by_cases gk:k<ws.length
          ·have gk':(k:Int)<ws.length:=by omega
           have gW:k<WR.length:=by omega
           have wak:=wat k gk gW
           rw [List.drop_eq_getElem_cons gk] at hk2
           have hk3:okWs ws=(decide (ws[k].t.length≤2000)&&okWs (ws.drop (k+1))):=hk2
           by_cases tl:ws[k].t.length≤2000
           ·have tl': ¬(2000:Int)<ws[k].t.length:=by omega
            have fin2:=fun σ' hσ=>hK2 (k+1) σ' ⟨by omega,by rw [hk3,decide_eq_true tl,Bool.true_and]⟩ (by omega) hσ
            clear hK2 hk2 hk3 wat fin h2
            generalize ws[k]=w at *
            obtain ⟨wk,wt,wn,wl1,wc⟩:=w
            simp only at tl tl' wak
            simp -implicitDefEqProofs [g,g2,gR,rai,rl,gk,gk',gW,wak,wl,tl,tl']
            refine fin2 _ ?_
            refine weak_mk ?_ ?_ ?_ ?_ ?_ ?_<;>simp -implicitDefEqProofs [t5]
           ·have tl':(2000:Int)<ws[k].t.length:=by omega
            rw [decide_eq_false tl,Bool.false_and] at hk3
            rw [if_pos (.inr (by unfold okTx;unfold okWs at hk3;simp only;rw [hk3];simp))] at h2
            have h2:R=none:=h2
            subst h2
            clear hK2 hk2 hk3 wat fin
            generalize ws[k]=w at *
            obtain ⟨wk,wt,wn,wl1,wc⟩:=w
            simp only at tl tl' wak
            simp -implicitDefEqProofs [g,g2,gR,rai,rl,gk,gk',gW,wak,wl,tl,tl',wgV]
          ·obtain rfl:k=ws.length:=by omega
           rw [List.drop_length] at hk2
           have hk3:okWs ws=true:=hk2
           rw [if_neg (by unfold okTx;unfold okWs at hk3;simp only;rw [hk3];simp [q0,n1,w1])] at h2
           clear hK2 hk2 hk3 wat
           generalize hwg:wg ks (d - 1) (q - 1)=o at *
           cases o with
           |none=>
            have h2:R=none:=h2
            subst h2
            simp only [wgV] at IH
            simp -implicitDefEqProofs [g,g2,gR,rai,rl,wl,t2]
            refine onC_mk _ (IH) ?_
            simp -implicitDefEqProofs [wgV]
           |some m'=>
            have h2:R=wgL (L.drop (i+1)) d m':=h2
            have hm':m'≤m:=by
             unfold wg at hwg
             split at hwg
             ·cases hwg
             ·by_cases e:d=1
              ·subst e
               rename_i hh
               simp only [not_or,not_and,ne_eq,Decidable.not_not] at hh
               have:=hh.1 (by simp)
               subst this
               rw [wgL] at hwg
               cases hwg
               omega
              ·have:=(wgL_ok ks (d - 1) (q - 1) m' (by omega) hwg).1
               omega
            have fin:=fin m' hm' h2
            simp only [wgV] at IH
            have z: ¬(m':Int)<0:=by omega
            simp -implicitDefEqProofs [g,g2,gR,rai,rl,wl,t2]
            refine onC_mk _ (IH) ?_
            simp -implicitDefEqProofs [z]
            refine fin _ ?_
            refine weak_mk ?_ ?_ ?_ ?_ ?_ ?_<;>simp -implicitDefEqProofs [t1]
         ·exact ⟨Nat.zero_le _,by rw [List.drop_zero]⟩
         ·refine weak_mk ?_ ?_ ?_ ?_ ?_ ?_<;>simp -implicitDefEqProofs
        ·have w1':(20:Int)<ws.length:=by omega
         rw [if_pos (.inr (by unfold okTx;simp [w1]))] at h2
         have h2:R=none:=h2
         subst h2
         have hq': ∀k:Nat,¬((k:Nat):Int)<0:=fun k=>by omega
         simp -implicitDefEqProofs [g,g2,gR,rai,rl,t3,hq',n1,n1',wl,w1,w1',wgV]
       ·have n1':(2000:Int)<n.length:=by omega
        rw [if_pos (.inr (by unfold okTx;simp [n1]))] at h2
        have h2:R=none:=h2
        subst h2
        have hq': ∀k:Nat,¬((k:Nat):Int)<0:=fun k=>by omega
        simp -implicitDefEqProofs [g,g2,gR,rai,rl,t3,hq',n1,n1',wgV]
     ·obtain rfl:i=L.length:=by omega
      rw [List.drop_length,wgL] at h2
      subst h2
      clear hK
      simp -implicitDefEqProofs [rl,wgV]
    ·exact ⟨Nat.zero_le _,Nat.le_refl _,by rw [List.drop_zero];exact hR2⟩
    ·refine weak_mk ?_ ?_ ?_ ?_ ?_ ?_<;>simp -implicitDefEqProofs
end Go.Ai
