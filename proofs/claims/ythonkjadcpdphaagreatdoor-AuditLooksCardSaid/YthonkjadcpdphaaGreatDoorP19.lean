/- P19: a part of the proof: the rules, or what functions compute. Conditions: as each theorem says. -/
import Derived.Test.YthonkjadcpdphaaGreatDoorP15
import Derived.Test.YthonkjadcpdphaaGreatDoorP17
import Derived.Test.YthonkjadcpdphaaGreatDoorP16
import Derived.Test.YthonkjadcpdphaaGreatDoorP18
set_option linter.unusedSimpArgs false
set_option linter.unusedVariables false
set_option maxRecDepth 20000
namespace Go.Ai
open Go.Proofs
def ixK (k:Ky):List Ky→Nat→Int
 |[],_=> -1
 |m::r,i=>if m=k then (i:Int) else ixK k r (i+1)
def enP (e:En):Bool:=rightK e.k&&(tkB e.b&&(decide (e.b≤e.nx)&&(decide (e.nx≤253404892799)&&(decide (0≤e.tr)&&decide (e.tr≤1000000)))))
def boxGo (ks:List Ky):List En→Nat→Bool
 |[],_=>true
 |e::r,i=>enP e&&(decide (ixK e.k ks 0=(i:Int))&&boxGo ks r (i+1))
def boxP (es:List En) (dr:Nat):Bool:=decide (es.length≤64)&&(decide (dr≤9223372036854775807)&&boxGo (es.map En.k) es 0)
theorem obC_spec (x:En) (k:Ky) (d:Nat) (c:Id) (hc:c.isIt=false) (hd:c.isNw d=false):SpH Tryz.prog gl 206 d ⟨[.agg x.row,.ptr c 0],[(c,k.row)],[]⟩ ⟨.bool (decide (x.k=k)),[(c,k.row)],[]⟩:=by
 refine h206 rfl ?_
 have hi:=inn_notNw hd
 have kb:=ky_beq x.k k
 unfold En.row Ky.row
 simp only [inSt,mpB,mpL,AV.mp,mpP]
 simp -implicitDefEqProofs [c206]
 rw [kb]
 refine postH_r ⟨?_,?_,?_,?_,?_,?_⟩<;>simp -implicitDefEqProofs [hi,hc]
theorem en_atr (l:List En) (i:Nat) (h:i<l.length) (h2:i<(l.map En.row).length):(l.map En.row)[i]=l[i].row:=by simp
theorem obIx_spec (l:List En) (k:Ky) (hl:l.length≤1000000) (d:Nat) (c:Id) (hc:c.isIt=false) (hcd:c.isNw d=false):
  SpH Tryz.prog gl 205 d ⟨[.sl (l.map En.row),.fn 206 [.ptr c 0]],[(c,k.row)],[]⟩ ⟨i6 (ixK k (l.map En.k) 0),[(c,k.row)],[]⟩:=by
 refine h205 rfl ?_
 have hic:=inn_notNw hcd
 have C:=fun x:En=>obC_spec x k 16 (.up c) hc rfl
 have rl:(l.map En.row).length=l.length:=by simp
 have rat:=en_atr l
 obtain ⟨R,hR⟩: ∃R,R=ixK k (l.map En.k) 0:=⟨_,rfl⟩
 rw [←hR]
 generalize l.map En.row=RR at *
 have hk0:idsL k.row=[]:=rfl
 have hkm: ∀f,mpL f k.row=k.row:=fun f=>mpL_noids hk0
 generalize k.row=KR at *
 simp only [inSt,mpB,mpL,AV.mp,mpP,hkm]
 simp -implicitDefEqProofs [c205,rl,hkm]
 refine wp_lpk (α:=Nat) (fun i=>⟨[(0,.sl RR),(1,.fn 206 [.ptr (.up c) 0]),(7,i6 l.length),(8,i6 i)],[(.up c,KR)],[]⟩) (fun i=>i≤l.length∧ixK k ((l.drop i).map En.k) i=R) (fun i=>l.length - i) ?_ 0 ?_ ?_
 ·rintro K i hK ⟨h1,h2⟩
  by_cases g:i<l.length
  ·have t1:IntKind.i64.wrap ((i:Int)+1)=(i+1:Nat):=by rw [wrap_i64]<;>omega
   have ra:=rat i g
   have gR:i<RR.length:=by omega
   rw [List.drop_eq_getElem_cons g,List.map_cons] at h2
   simp only [ixK] at h2
   have hrl:(l[i].row).length=9:=rfl
   have C:=C l[i]
   have fin:decide (l[i].k=k)=false→ ∀σ',Weak σ' ⟨[(0,.sl RR),(1,.fn 206 [.ptr (.up c) 0]),(7,i6 l.length),(8,i6 (i+1:Nat))],[(.up c,KR)],[]⟩→K σ':=
    fun hg σ' hσ=>hK (i+1) σ' ⟨by omega,by rw [if_neg (of_decide_eq_false hg)] at h2;exact h2⟩ (by omega) hσ
   have hids:idsL l[i].row=[]:=rfl
   have hmp: ∀f,mpL f l[i].row=l[i].row:=fun f=>mpL_noids hids
   have hpos:decide (l[i].k=k)=true→R=i:=fun hg=>by rw [if_pos (of_decide_eq_true hg)] at h2;exact h2.symm
   clear hK hR rat h2
   generalize l[i].row=x at *
   generalize decide (l[i].k=k)=b at *
   have e8:List.take 9 x=x:=List.take_of_length_le (by omega)
   simp -implicitDefEqProofs [g,gR,ra,hrl,e8,rl]
   refine onH_mk _ _ (C) ⟨?_,?_,?_,?_,?_,?_,?_⟩ ?_
   iterate 7 (· simp [hids,hmp,hk0,hkm])
   cases b
   ·have fin:=fin rfl
    simp -implicitDefEqProofs [t1]
    refine fin _ ?_
    refine weak_mk ?_ ?_ ?_ ?_ ?_ ?_<;>simp -implicitDefEqProofs [t1,hk0]
   ·have h2:=hpos rfl
    subst h2
    simp -implicitDefEqProofs
    refine postH_r ⟨?_,?_,?_,?_,?_,?_⟩<;>simp -implicitDefEqProofs [hic,hc,hkm,hk0]
  ·obtain rfl:i=l.length:=by omega
   rw [List.drop_length] at h2
   simp only [List.map_nil,ixK] at h2
   subst h2
   clear hK
   simp -implicitDefEqProofs
   refine postH_r ⟨?_,?_,?_,?_,?_,?_⟩<;>simp -implicitDefEqProofs [hic,hc,hkm,hk0]
 ·exact ⟨Nat.zero_le _,hR.symm⟩
 ·refine weak_mk ?_ ?_ ?_ ?_ ?_ ?_<;>simp -implicitDefEqProofs [hk0]
theorem obfind_spec (l:List En) (dr:Nat) (k:Ky) (hl:l.length≤1000000):Sp Tryz.prog gl 153 [.agg [.sl (l.map En.row),u dr],.agg k.row] (i6 (ixK k (l.map En.k) 0)):=by
 refine s153 rfl rfl ?_
 have Q:=fun e (he:(Id.n 3).isNw e=false)=>obIx_spec l k hl e (.n 3) rfl he
 have hk0:idsL k.row=[]:=rfl
 have hkl:k.row.length=5:=rfl
 have hkm: ∀f,mpL f k.row=k.row:=fun f=>mpL_noids hk0
 have hks:shutL k.row=some k.row:=rfl
 generalize k.row=KR at *
 generalize l.map En.row=RR at *
 generalize ixK k (l.map En.k) 0=R at *
 simp -implicitDefEqProofs [c153,hk0,hkl,hkm,hks]
 refine onH_mk _ _ (Q _ rfl) ⟨?_,?_,?_,?_,?_,?_,?_⟩ ?_
 iterate 7 (· simp [hk0,hkl,hkm])
 simp -implicitDefEqProofs
open Go.Proofs
theorem obtick_spec (n:Int):Sp Tryz.prog gl 204 [i6 n] (.bool (tkB n)):=by
 refine s204 rfl rfl ?_
 unfold tkB
 by_cases h:0≤n<;>simp -implicitDefEqProofs [c204,h]
theorem obright_spec (e:En) (hg:e.k.g.length≤900000) (hr:e.k.r.length≤900000):Sp Tryz.prog gl 152 [.agg e.row] (.bool (enP e)):=by
 refine s152 rfl rfl ?_
 have N:=kright_spec e.k hg hr
 have T:=obtick_spec e.b
 unfold enP En.row
 unfold Ky.row at N
 generalize rightK e.k=r at *
 generalize tkB e.b=t at *
 cases r
 ·simp [c152]
  refine onC_mk _ (N) ?_
  simp -implicitDefEqProofs
 ·cases t
  ·simp [c152]
   refine onC_mk _ (N) ?_
   simp -implicitDefEqProofs
   refine onC_mk _ (T) ?_
   simp -implicitDefEqProofs
  ·by_cases h1:e.b≤e.nx
   ·by_cases h2:e.nx≤253404892799
    ·by_cases h3:0≤e.tr
     ·simp [c152]
      refine onC_mk _ (N) ?_
      simp -implicitDefEqProofs
      refine onC_mk _ (T) ?_
      simp -implicitDefEqProofs [h1,h2,h3]
     ·simp [c152]
      refine onC_mk _ (N) ?_
      simp -implicitDefEqProofs
      refine onC_mk _ (T) ?_
      simp -implicitDefEqProofs [h1,h2,h3]
    ·simp [c152]
     refine onC_mk _ (N) ?_
     simp -implicitDefEqProofs
     refine onC_mk _ (T) ?_
     simp -implicitDefEqProofs [h1,h2]
   ·simp [c152]
    refine onC_mk _ (N) ?_
    simp -implicitDefEqProofs
    refine onC_mk _ (T) ?_
    simp -implicitDefEqProofs [h1]
theorem obRight_spec (es:List En) (dr:Nat) (hk: ∀e∈es,e.k.g.length≤900000∧e.k.r.length≤900000):Sp Tryz.prog gl 91 [.agg [.sl (es.map En.row),u dr]] (.bool (boxP es dr)):=by
 refine s91 rfl rfl ?_
 obtain ⟨R,hR⟩: ∃R,R=boxP es dr:=⟨_,rfl⟩
 rw [←hR]
 unfold boxP at hR
 have rl:(es.map En.row).length=es.length:=by simp
 have rat:=en_atr es
 by_cases h64:es.length≤64
 ·have h64': ¬(64:Int)<es.length:=by omega
  rw [decide_eq_true h64] at hR
  by_cases hdr:dr≤9223372036854775807
  ·have hdr': ¬(9223372036854775807:Int)<dr:=by omega
   rw [decide_eq_true hdr] at hR
   simp only [Bool.true_and] at hR
   have FD:=fun k=>obfind_spec es dr k (by omega)
   have RI:=fun (e:En) (h:e∈es)=>obright_spec e (hk e h).1 (hk e h).2
   generalize es.map En.k=ks at *
   generalize es.map En.row=RR at *
   simp -implicitDefEqProofs [c91,rl,h64',hdr']
   refine wp_lpk (α:=Nat) (fun i=>⟨[(1,.ptr (.n 1) 0),(15,.sl RR),(16,i6 es.length),(17,i6 i)],[(.n 1,[.sl RR,u dr])],[]⟩)
    (fun i=>i≤es.length∧boxGo ks (es.drop i) i=R) (fun i=>es.length - i) ?_ 0 ?_ ?_
   ·rintro K i hK ⟨h1,h2⟩
    by_cases g:i<es.length
    ·have t1:IntKind.i64.wrap ((i:Int)+1)=(i+1:Nat):=by rw [wrap_i64]<;>omega
     have ra:=rat i g
     have gR:i<RR.length:=by omega
     rw [List.drop_eq_getElem_cons g] at h2
     simp only [boxGo] at h2
     have RI:=RI es[i] (List.getElem_mem _)
     have FD:=FD es[i].k
     have fin:boxGo ks (es.drop (i+1)) (i+1)=R→ ∀σ',Weak σ' ⟨[(1,.ptr (.n 1) 0),(15,.sl RR),(16,i6 es.length),(17,i6 (i+1:Nat))],[(.n 1,[.sl RR,u dr])],[]⟩→K σ':=
      fun hh σ' hσ=>hK (i+1) σ' ⟨by omega,hh⟩ (by omega) hσ
     have hrl:(es[i].row).length=9:=rfl
     have hids:idsL es[i].row=[]:=rfl
     have hk5:List.take 5 es[i].row=es[i].k.row:=rfl
     have hk0:idsL es[i].k.row=[]:=rfl
     have hkl:es[i].k.row.length=5:=rfl
     have hs:shutL es[i].row=some es[i].row:=rfl
     have hks:shutL es[i].k.row=some es[i].k.row:=rfl
     clear hK hR rat hk
     generalize es[i].k.row=KR at *
     generalize es[i].row=x at *
     have e8:List.take 9 x=x:=List.take_of_length_le (by omega)
     generalize enP es[i]=p at *
     generalize ixK es[i].k ks 0=q at *
     generalize boxGo ks (es.drop (i+1)) (i+1)=r at *
     cases p
     ·simp at h2
      subst h2
      simp -implicitDefEqProofs [g,gR,ra,hrl,e8,rl,hids,hs]
      refine onC_mk _ (RI) ?_
      simp -implicitDefEqProofs
     ·simp only [Bool.true_and] at h2
      by_cases hq:q=(i:Int)
      ·have hq':(q !=(i:Int))=false:=by rw [hq];simp
       simp only [decide_eq_true hq,Bool.true_and] at h2
       have fin:=fin h2
       clear hq h2
       simp -implicitDefEqProofs [g,gR,ra,hrl,e8,rl,hids,hs]
       refine onC_mk _ (RI) ?_
       simp -implicitDefEqProofs [hk5,hrl,hk0,hkl,hks]
       refine onC_mk _ (FD) ?_
       simp -implicitDefEqProofs [hq',t1]
       refine fin _ ?_
       refine weak_mk ?_ ?_ ?_ ?_ ?_ ?_<;>simp -implicitDefEqProofs [t1]
      ·have hq':(q !=(i:Int))=true:=by rw [bne_iff_ne];exact hq
       simp only [decide_eq_false hq,Bool.false_and] at h2
       subst h2
       clear hq
       simp -implicitDefEqProofs [g,gR,ra,hrl,e8,rl,hids,hs]
       refine onC_mk _ (RI) ?_
       simp -implicitDefEqProofs [hk5,hrl,hk0,hkl,hks]
       refine onC_mk _ (FD) ?_
       simp -implicitDefEqProofs [hq']
    ·obtain rfl:i=es.length:=by omega
     rw [List.drop_length] at h2
     simp only [boxGo] at h2
     subst h2
     clear hK
     simp -implicitDefEqProofs
   ·exact ⟨Nat.zero_le _,hR.symm⟩
   ·refine weak_mk ?_ ?_ ?_ ?_ ?_ ?_<;>simp -implicitDefEqProofs
  ·have hdr':(9223372036854775807:Int)<dr:=by omega
   rw [decide_eq_false hdr] at hR
   simp at hR
   subst hR
   generalize es.map En.row=RR at *
   simp -implicitDefEqProofs [c91,rl,h64',hdr']
 ·have h64':(64:Int)<es.length:=by omega
  rw [decide_eq_false h64] at hR
  simp at hR
  subst hR
  generalize es.map En.row=RR at *
  simp -implicitDefEqProofs [c91,rl,h64']
open Go.Proofs
def nbAt (gs:List GV) (i:Nat):List Nat:=((gs.take i).map fun g=>epsF g.al).flatten
def nmAt (gs:List GV) (i:Nat):List (List UInt8):=(gs.take i).map fun g=>g.g.n
theorem nmAt_zero (gs:List GV):nmAt gs 0=[]:=rfl
theorem nbAt_zero (gs:List GV):nbAt gs 0=[]:=rfl
theorem nmAt_succ (gs:List GV) (i:Nat) (h:i<gs.length):nmAt gs (i+1)=nmAt gs i++[gs[i].g.n]:=by
 unfold nmAt
 rw [List.take_succ_eq_append_getElem h,List.map_append]
 rfl
theorem nbAt_succ (gs:List GV) (i:Nat) (h:i<gs.length):nbAt gs (i+1)=nbAt gs i++epsF gs[i].al:=by
 unfold nbAt
 rw [List.take_succ_eq_append_getElem h,List.map_append,List.flatten_append]
 simp
theorem mem_nbAt (gs:List GV) (i e:Nat):e∈nbAt gs i↔ ∃j,∃h:j<gs.length,j<i∧e∈epsF gs[j].al:=by
 unfold nbAt
 rw [List.mem_flatten]
 constructor
 ·rintro ⟨l,hl,he⟩
  obtain ⟨g,hg,rfl⟩:=List.mem_map.1 hl
  obtain ⟨j,hj,rfl⟩:=List.mem_iff_getElem.1 hg
  have hh:j<i∧j<gs.length:=by rw [List.length_take] at hj;omega
  exact ⟨j,hh.2,hh.1,by simpa using he⟩
 ·rintro ⟨j,h,hji,he⟩
  exact ⟨_,List.mem_map.2 ⟨gs[j],List.mem_take_iff_getElem.2 ⟨j,by omega,rfl⟩,rfl⟩,he⟩
theorem usedGo_mem (gs:List GV) (i k e:Nat) (h:i<gs.length):usedGo gs i k e 0 (i+1)=true↔e∈nbAt gs i++epsF (gs[i].al.take k):=by
 rw [usedGo_iff,List.mem_append,mem_nbAt]
 have ea: ∀j (hj:j<gs.length),audL gs i k j=if j<i then gs[j].al else gs[j].al.take k:=by
  intro j hj
  unfold audL
  rw [List.getElem?_eq_getElem hj]
 constructor
 ·rintro ⟨j,_,h2,h3⟩
  have hj:j<gs.length:=by omega
  rw [any_eps,ea j hj] at h3
  by_cases c:j<i
  ·rw [if_pos c] at h3
   exact .inl ⟨j,hj,c,h3⟩
  ·obtain rfl:j=i:=by omega
   rw [if_neg c] at h3
   exact .inr h3
 ·rintro (⟨j,hj,c,h3⟩|h3)
  ·exact ⟨j,by omega,by omega,by rw [any_eps,ea j hj,if_pos c];exact h3⟩
  ·exact ⟨i,by omega,by omega,by rw [any_eps,ea i h,if_neg (by omega)];exact h3⟩
def frU (gs:List GV) (i:Nat) (l:List Al):Nat→Bool
 |0=>true
 |k+1=>frU gs i l k&&(match l[k]? with |some a=>!(alFires a&&usedGo gs i k a.e 0 (i+1))|none=>true)
theorem frU_succ (gs:List GV) (i:Nat) (l:List Al) (k:Nat) (h:k<l.length):frU gs i l (k+1)=(frU gs i l k&&!(alFires l[k]&&usedGo gs i k l[k].e 0 (i+1))):=by
 rw [frU,List.getElem?_eq_getElem h]
theorem frU_iff (gs:List GV) (i:Nat) (l:List Al): ∀n,n≤l.length→(frU gs i l n=true↔ ∀k (h:k<l.length),k<n→alFires l[k]=true→ ¬usedGo gs i k l[k].e 0 (i+1)=true)
 |0,_=>by simp [frU]
 |n+1,hn=>by
  have hk:n<l.length:=by omega
  rw [frU_succ gs i l n hk,Bool.and_eq_true,frU_iff gs i l n (by omega)]
  constructor
  ·rintro ⟨h1,h2⟩ k h hkn hf hu
   by_cases c:k<n
   ·exact h1 k h c hf hu
   ·obtain rfl:k=n:=by omega
    rw [hf,hu] at h2
    exact absurd h2 (by decide)
  ·intro h1
   refine ⟨fun k h c hf=>h1 k h (by omega) hf,?_⟩
   cases hf:alFires l[n]
   ·rfl
   ·have:=h1 n hk (by omega) hf
    rw [Bool.not_eq_true] at this
    rw [this]
    rfl
theorem frU_fresh (gs:List GV) (i:Nat) (h:i<gs.length):frU gs i gs[i].al gs[i].al.length=freshF (nbAt gs i) (epsF gs[i].al):=by
 rw [Bool.eq_iff_iff,frU_iff gs i _ _ (Nat.le_refl _),freshF_iff]
 constructor
 ·intro q k hk hf
  rw [←usedGo_mem gs i k _ h]
  exact q k hk hk hf
 ·intro q k hk _ hf
  rw [usedGo_mem gs i k _ h]
  exact q k hk hf
def entF (now:Int) (ep:Nat) (gs:List GV) (e:En) (fs:List Fd):List Fd:=
 fadd (fadd fs (decide (e.b≤now)&&decide (e.k.e≤ep)) 9 (printK e.k)) (!e.ak||firesF gs e.k) 10 (printK e.k)
def entsF (now:Int) (ep:Nat) (gs:List GV):List En→List Fd→List Fd
 |[],fs=>fs
 |e::r,fs=>entsF now ep gs r (entF now ep gs e fs)
def silOk (now:Int) (nm:List (List UInt8)) (i:Nat) (s:Si):Bool:=siP s&&(decide (now<s.tl)&&(decide (s.n∉nm)&&decide (i<12)))
def silsF (now:Int):List (List UInt8)→Nat→List Si→List Fd→List Fd
 |_,_,[],fs=>fs
 |nm,i,s::r,fs=>silsF now (nm++[s.n]) (i+1) r (fadd fs (silOk now nm i s) 11 s.n)
def headF (v:Vw):List Fd:=fadd (fadd [] (tkB v.now) 1 []) (rightP ⟨[],v.r,v.v,v.i,v.x,v.y⟩) 2 []
def boxesF (v:Vw) (fs:List Fd):List Fd:=entsF v.now v.ep v.gs v.es (fadd fs (boxP v.es v.dr) 8 [])
def lookF (v:Vw):List Fd:=silsF v.now [] 0 v.ss (boxesF v (goalsF v.now v.ep [] [] v.gs (headF v)))
theorem entF_len (now:Int) (ep:Nat) (gs:List GV) (e:En) (fs:List Fd):(entF now ep gs e fs).length≤fs.length+2:=by
 unfold entF
 exact Nat.le_trans (fadd_len _ _ _ _) (Nat.succ_le_succ (fadd_len _ _ _ _))
theorem headF_len (v:Vw):(headF v).length≤2:=by
 unfold headF
 exact Nat.le_trans (fadd_len _ _ _ _) (Nat.succ_le_succ (fadd_len _ _ _ _))
theorem goalsF_len (now:Int) (ep:Nat): ∀(l:List GV) nm nb fs,(goalsF now ep nm nb l fs).length≤fs.length+5*l.length
 |[],nm,nb,fs=>by simp [goalsF]
 |g::r,nm,nb,fs=>by
  rw [goalsF]
  refine Nat.le_trans (goalsF_len now ep r _ _ _) ?_
  have:=goalF_len now ep nm nb g fs
  rw [List.length_cons]
  omega
theorem entsF_len (now:Int) (ep:Nat) (gs:List GV): ∀(l:List En) fs,(entsF now ep gs l fs).length≤fs.length+2*l.length
 |[],fs=>by simp [entsF]
 |e::r,fs=>by
  rw [entsF]
  refine Nat.le_trans (entsF_len now ep gs r _) ?_
  have:=entF_len now ep gs e fs
  rw [List.length_cons]
  omega
theorem silsF_len (now:Int): ∀(l:List Si) nm i fs,(silsF now nm i l fs).length≤fs.length+l.length
 |[],nm,i,fs=>by simp [silsF]
 |s::r,nm,i,fs=>by
  rw [silsF]
  refine Nat.le_trans (silsF_len now r _ _ _) ?_
  have:=fadd_len fs (silOk now nm i s) 11 s.n
  rw [List.length_cons]
  omega
theorem ixN_first (l:List Si) (i:Nat) (h:i<l.length):decide (ixN l[i].n (l.map Si.n) 0=i)=decide (l[i].n∉(l.take i).map Si.n):=by
 have key: ∀(m:List (List UInt8)) (n:List UInt8) (j i:Nat) (h:i<m.length),m[i]=n→(ixN n m j=((j+i:Nat):Int)↔n∉m.take i):=by
  intro m
  induction m with
  |nil=>intro n j i h;exact absurd h (by simp)
  |cons x r ih=>
   intro n j i h hn
   cases i with
   |zero=>
    rw [List.getElem_cons_zero] at hn
    subst hn
    simp [ixN]
   |succ i=>
    rw [List.getElem_cons_succ] at hn
    rw [List.take_succ_cons,List.mem_cons]
    by_cases c:n=x
    ·subst c
     simp [ixN]
     omega
    ·have c':ixN n (x::r) j=ixN n r (j+1):=if_neg (by rw [beq_iff_eq];exact fun e=>c e.symm)
     have:=ih n (j+1) i (by simpa using h) hn
     rw [show j+1+i=j+(i+1) by omega] at this
     rw [c']
     simp only [c,false_or]
     exact this
 have:=key (l.map Si.n) l[i].n 0 i (by simpa using h) (by simp)
 rw [Nat.zero_add,←List.map_take] at this
 rw [Bool.eq_iff_iff,decide_eq_true_iff,decide_eq_true_iff]
 exact this
open Go.Proofs
def fireQ (k:Ky) (n:List UInt8) (p:Al×Ru):Bool:=alFires p.1&&(decide (k.f=false)&&(decide (k.g=n)&&(decide (k.r=p.2.n)&&(decide (k.p=p.2.p)&&decide (k.e=p.1.e)))))
theorem firesP_eq (g:GV) (k:Ky):firesP g k=(g.al.zip g.g.ru).any (fireQ k g.g.n):=rfl
theorem int_beq_dec (a b:Nat):((a:Int)==(b:Int))=decide (a=b):=by
 by_cases w:a=b
 ·simp [w]
 ·rw [decide_eq_false w,beq_eq_false_iff_ne];omega
theorem ru_atl (l:List Ru) (i:Nat) (h:i<l.length): ∀h2,(l.map Ru.row)[i]'h2=[.str l[i].n,.bool l[i].p,i6 l[i].l,i6 l[i].s,u l[i].f,i6 l[i].w,i6 l[i].k]:=fun _=>by simp [Ru.row]
theorem six (a b c d e f:Bool):a=false∨(a=true∧b=true)∨(a=true∧b=false∧c=false)∨(a=true∧b=false∧c=true∧d=false)∨(a=true∧b=false∧c=true∧d=true∧e=false)∨(a=true∧b=false∧c=true∧d=true∧e=true∧f=false)∨(a=true∧b=false∧c=true∧d=true∧e=true∧f=true):=by
 cases a<;>cases b<;>cases c<;>cases d<;>cases e<;>cases f<;>simp
theorem fireQ_six (k:Ky) (n:List UInt8) (a:Al) (r:Ru):fireQ k n (a,r)=(alFires a&&(!k.f&&((k.g==n)&&((k.r==r.n)&&((k.p==r.p)&&((k.e:Int)==(a.e:Int))))))):=by
 have e1: ∀a b:List UInt8,(a==b)=decide (a=b):=fun a b=>by by_cases h:a=b<;>simp [h]
 have e2:(k.p==r.p)=decide (k.p=r.p):=by cases k.p<;>cases r.p<;>rfl
 unfold fireQ
 rw [int_beq_dec,e1,e1,e2]
 cases k.f<;>rfl
theorem rFires35_spec (v:Vw) (k:Ky) (hl:v.gs.length≤1000) (ha: ∀g∈v.gs,g.al.length≤1000000):
  Sp Tryz.prog gl 48 [.agg v.row,.agg k.row] (.bool (firesF v.gs k)):=by
 refine s48 rfl rfl ?_
 obtain ⟨R,hR⟩: ∃R,R=firesF v.gs k:=⟨_,rfl⟩
 rw [←hR]
 unfold firesF at hR
 have rl:(v.gs.map GV.row).length=v.gs.length:=by simp
 have rat: ∀i (h:i<v.gs.length),∀h2,(v.gs.map GV.row)[i]'h2=v.gs[i].row:=fun i h h2=>by simp
 have v2: ∀h:2<v.row.length,v.row[2]= .sl (v.gs.map GV.row):=fun _=>rfl
 have vl:v.row.length=11:=rfl
 have vi:idsL v.row=[]:=rfl
 have vs:shutL v.row=some v.row:=rfl
 generalize v.row=N at *
 generalize v.gs.map GV.row=RR at *
 generalize v.gs=gs at *
 unfold Ky.row
 simp -implicitDefEqProofs [c48,v2,vl,vi,vs,rl]
 refine wp_lpk (α:=Nat) (fun i=>⟨[(2,.ptr (.n 2) 0),(3,.ptr (.n 3) 0),(5,i6 i)],[(.n 2,N),(.n 3,[.str k.g,.str k.r,.bool k.p,u k.e,.bool k.f])],[]⟩)
  (fun i=>i≤gs.length∧(gs.drop i).any (firesP · k)=R) (fun i=>gs.length - i) ?_ 0 ?_ ?_
 ·rintro K i hK ⟨h1,h2⟩
  by_cases g:i<gs.length
  ·have t1:IntKind.i64.wrap ((i:Int)+1)=(i+1:Nat):=by rw [wrap_i64]<;>omega
   have gR:i<RR.length:=by omega
   have ra:=rat i g gR
   rw [List.drop_eq_getElem_cons g,List.any_cons,firesP_eq] at h2
   have fin:(gs.drop (i+1)).any (firesP · k)=R→ ∀σ',Weak σ' ⟨[(2,.ptr (.n 2) 0),(3,.ptr (.n 3) 0),(5,i6 (i+1:Nat))],[(.n 2,N),(.n 3,[.str k.g,.str k.r,.bool k.p,u k.e,.bool k.f])],[]⟩→K σ':=
    fun hh σ' hσ=>hK (i+1) σ' ⟨by omega,hh⟩ (by omega) hσ
   have hal:=ha gs[i] (List.getElem_mem _)
   clear hK hR rat ha
   generalize (gs.drop (i+1)).any (firesP · k)=rest at *
   have AR:=al_at gs[i].al
   have UR:=ru_atl gs[i].g.ru
   have al':(gs[i].al.map Al.row).length=gs[i].al.length:=by simp
   have ul':(gs[i].g.ru.map Ru.row).length=gs[i].g.ru.length:=by simp
   have x0: ∀h:0<gs[i].row.length,gs[i].row[0]= .str gs[i].g.n:=fun _=>rfl
   have x7: ∀h:7<gs[i].row.length,gs[i].row[7]= .sl (gs[i].g.ru.map Ru.row):=fun _=>rfl
   have x14: ∀h:14<gs[i].row.length,gs[i].row[14]= .sl (gs[i].al.map Al.row):=fun _=>rfl
   have xl:gs[i].row.length=15:=rfl
   have xi:idsL gs[i].row=[]:=rfl
   have zl:(gs[i].al.zip gs[i].g.ru).length=min gs[i].al.length gs[i].g.ru.length:=by simp
   have zat: ∀j (h1:j<gs[i].al.length) (h2:j<gs[i].g.ru.length) (h:j<(gs[i].al.zip gs[i].g.ru).length),(gs[i].al.zip gs[i].g.ru)[j]=(gs[i].al[j],gs[i].g.ru[j]):=fun j _ _ _=>by simp
   generalize gs[i].al.zip gs[i].g.ru=Z at *
   have xt:List.take 15 gs[i].row=gs[i].row:=rfl
   generalize gs[i].row=X at *
   generalize gs[i].al=l at *
   generalize gs[i].g.ru=rs at *
   generalize gs[i].g.n=nm at *
   generalize l.map Al.row=LR at *
   generalize rs.map Ru.row=QR at *
   simp -implicitDefEqProofs [g,gR,ra,v2,vl,xl,rl]
   refine wp_lpk (α:=Nat) (fun j=>⟨[(2,.ptr (.n 2) 0),(3,.ptr (.n 3) 0),(5,i6 i),(6,.ptr (.n 6) 0),(7,i6 j)],[(.n 2,N),(.n 3,[.str k.g,.str k.r,.bool k.p,u k.e,.bool k.f]),(.n 6,X)],[]⟩)
    (fun j=>j≤Z.length∧((Z.drop j).any (fireQ k nm)||rest)=R) (fun j=>Z.length - j) ?_ 0 ?_ ?_
   ·rintro K2 j hK2 ⟨q1,q2⟩
    have u1:IntKind.i64.wrap ((j:Int)+1)=(j+1:Nat):=by rw [wrap_i64]<;>omega
    by_cases h:j<Z.length
    ·have hj:j<l.length:=by omega
     have hr:j<rs.length:=by omega
     have hj':(j:Int)<l.length:=by omega
     have hr':(j:Int)<rs.length:=by omega
     rw [List.drop_eq_getElem_cons h,List.any_cons,Bool.or_assoc,zat j hj hr h,fireQ_six] at q2
     have jR:j<LR.length:=by omega
     have jQ:j<QR.length:=by omega
     have aj:=AR j hj jR
     have uj:=UR j hr jQ
     have FR:=rfires35_spec l[j]
     have fin2:((Z.drop (j+1)).any (fireQ k nm)||rest)=R→ ∀σ',Weak σ' ⟨[(2,.ptr (.n 2) 0),(3,.ptr (.n 3) 0),(5,i6 i),(6,.ptr (.n 6) 0),(7,i6 (j+1:Nat))],[(.n 2,N),(.n 3,[.str k.g,.str k.r,.bool k.p,u k.e,.bool k.f]),(.n 6,X)],[]⟩→K2 σ':=
      fun hh σ' hσ=>hK2 (j+1) σ' ⟨by omega,hh⟩ (by omega) hσ
     clear hK2 h2 fin AR UR zat
     generalize ((Z.drop (j+1)).any (fireQ k nm)||rest)=r2 at *
     unfold Al.row at FR
     generalize alFires l[j]=ff at *
     obtain ⟨kg,kr,kp,ke,kf⟩:=k
     simp only at q2 fin2 ⊢
     generalize hb1:(kg==nm)=b1 at *
     generalize hb2:(kr==rs[j].n)=b2 at *
     generalize hb3:(kp==rs[j].p)=b3 at *
     generalize hb4:((ke:Int)==(l[j].e:Int))=b4 at *
     rcases six ff kf b1 b2 b3 b4 with rfl|⟨rfl,rfl⟩|⟨rfl,rfl,rfl⟩|⟨rfl,rfl,rfl,rfl⟩|⟨rfl,rfl,rfl,rfl,rfl⟩|⟨rfl,rfl,rfl,rfl,rfl,rfl⟩|⟨rfl,rfl,rfl,rfl,rfl,rfl⟩
     iterate 6
      ·simp at q2
       simp -implicitDefEqProofs [hj,hr,hj',hr',jR,jQ,x0,x7,x14,xl,al',ul',aj,uj]
       refine onC_mk _ (FR) ?_
       simp -implicitDefEqProofs [hj,hr,hj',hr',jR,jQ,x0,x7,x14,xl,al',ul',aj,uj,hb1,hb2,hb3,hb4]
       refine fin2 (by simpa using q2) _ ?_
       refine weak_mk ?_ ?_ ?_ ?_ ?_ ?_<;>simp -implicitDefEqProofs [u1,vi,xi]
     ·simp at q2
      subst q2
      simp -implicitDefEqProofs [hj,hr,hj',hr',jR,jQ,x0,x7,x14,xl,al',ul',aj,uj]
      refine onC_mk _ (FR) ?_
      simp -implicitDefEqProofs [hj,hr,hj',hr',jR,jQ,x0,x7,x14,xl,al',ul',aj,uj,hb1,hb2,hb3,hb4]
    ·rw [List.drop_eq_nil_of_le (by omega)] at q2
     simp only [List.any_nil,Bool.false_or] at q2
     have fin:=fin q2
     clear hK2
     by_cases hj:j<l.length
     ·have hj':(j:Int)<l.length:=by omega
      have hr': ¬(j:Int)<rs.length:=by omega
      simp -implicitDefEqProofs [x0,x7,x14,xl,al',ul',hj',hr',hj]
      refine fin _ ?_
      refine weak_mk ?_ ?_ ?_ ?_ ?_ ?_<;>simp -implicitDefEqProofs [t1,vi]
     ·have hj': ¬(j:Int)<l.length:=by omega
      simp -implicitDefEqProofs [x0,x7,x14,xl,al',ul',hj',hj]
      refine fin _ ?_
      refine weak_mk ?_ ?_ ?_ ?_ ?_ ?_<;>simp -implicitDefEqProofs [t1,vi]
   ·exact ⟨Nat.zero_le _,h2⟩
   ·refine weak_mk ?_ ?_ ?_ ?_ ?_ ?_<;>simp -implicitDefEqProofs [vi,xi,xt]
  ·obtain rfl:i=gs.length:=by omega
   rw [List.drop_length] at h2
   simp only [List.any_nil] at h2
   subst h2
   clear hK
   simp -implicitDefEqProofs [v2,vl,rl]
 ·exact ⟨Nat.zero_le _,hR.symm⟩
 ·refine weak_mk ?_ ?_ ?_ ?_ ?_ ?_<;>simp -implicitDefEqProofs [vi]
open Go.Proofs
theorem lfires_spec (gs:List GV) (N:List AV) (hN:N.length=12) (hNi:idsL N=[]) (hN2: ∀h:2<N.length,N[2]= .sl (gs.map GV.row)) (k:Ky) (hl:gs.length≤1000) (ha: ∀g∈gs,g.al.length≤1000000∧g.g.ru.length≤1000000) (d:Nat) (b:Id) (hb:b.isIt=false) (hbd:b.isNw d=false):
  SpH Tryz.prog gl 93 d ⟨[.ptr b 0,.agg k.row],[(b,N)],[(.b b 11,2)]⟩ ⟨.bool (firesF gs k),[(b,N)],[(.b b 11,2)]⟩:=by
 refine h93 rfl ?_
 have hib:=inn_notNw hbd
 have hNm: ∀f,mpL f N=N:=fun f=>mpL_noids hNi
 obtain ⟨R,hR⟩: ∃R,R=firesF gs k:=⟨_,rfl⟩
 rw [←hR]
 unfold firesF at hR
 have rl:(gs.map GV.row).length=gs.length:=by simp
 have rat: ∀i (h:i<gs.length),∀h2,(gs.map GV.row)[i]'h2=gs[i].row:=fun i h h2=>by simp
 generalize gs.map GV.row=RR at *
 unfold Ky.row
 simp only [inSt,mpB,mpL,AV.mp,mpP,hNm,Pl.mp]
 simp -implicitDefEqProofs [c93,hN,hN2,hNi,rl]
 refine wp_lpk (α:=Nat) (fun i=>⟨[(0,.ptr (.up b) 0),(3,.ptr (.n 3) 0),(13,.sl RR),(14,i6 gs.length),(15,i6 i)],[(.up b,N),(.n 3,[.str k.g,.str k.r,.bool k.p,u k.e,.bool k.f])],[(.b (.up b) 11,2)]⟩)
  (fun i=>i≤gs.length∧(gs.drop i).any (firesP · k)=R) (fun i=>gs.length - i) ?_ 0 ?_ ?_
 ·rintro K i hK ⟨h1,h2⟩
  by_cases g:i<gs.length
  ·have t1:IntKind.i64.wrap ((i:Int)+1)=(i+1:Nat):=by rw [wrap_i64]<;>omega
   have gR:i<RR.length:=by omega
   have ra:=rat i g gR
   rw [List.drop_eq_getElem_cons g,List.any_cons,firesP_eq] at h2
   have fin:(gs.drop (i+1)).any (firesP · k)=R→ ∀σ',Weak σ' ⟨[(0,.ptr (.up b) 0),(3,.ptr (.n 3) 0),(13,.sl RR),(14,i6 gs.length),(15,i6 (i+1:Nat))],[(.up b,N),(.n 3,[.str k.g,.str k.r,.bool k.p,u k.e,.bool k.f])],[(.b (.up b) 11,2)]⟩→K σ':=
    fun hh σ' hσ=>hK (i+1) σ' ⟨by omega,hh⟩ (by omega) hσ
   have hal:=(ha gs[i] (List.getElem_mem _)).1
   have hrl:=(ha gs[i] (List.getElem_mem _)).2
   clear hK hR rat ha
   generalize (gs.drop (i+1)).any (firesP · k)=rest at *
   have AR:=al_at gs[i].al
   have UR:=ru_atl gs[i].g.ru
   have al':(gs[i].al.map Al.row).length=gs[i].al.length:=by simp
   have ul':(gs[i].g.ru.map Ru.row).length=gs[i].g.ru.length:=by simp
   have x0: ∀h:0<gs[i].row.length,gs[i].row[0]= .str gs[i].g.n:=fun _=>rfl
   have x7: ∀h:7<gs[i].row.length,gs[i].row[7]= .sl (gs[i].g.ru.map Ru.row):=fun _=>rfl
   have x14: ∀h:14<gs[i].row.length,gs[i].row[14]= .sl (gs[i].al.map Al.row):=fun _=>rfl
   have xl:gs[i].row.length=15:=rfl
   have xi:idsL gs[i].row=[]:=rfl
   have zl:(gs[i].al.zip gs[i].g.ru).length=min gs[i].al.length gs[i].g.ru.length:=by simp
   have zat: ∀j (h1:j<gs[i].al.length) (h2:j<gs[i].g.ru.length) (h:j<(gs[i].al.zip gs[i].g.ru).length),(gs[i].al.zip gs[i].g.ru)[j]=(gs[i].al[j],gs[i].g.ru[j]):=fun j _ _ _=>by simp
   generalize gs[i].al.zip gs[i].g.ru=Z at *
   have xt:List.take 15 gs[i].row=gs[i].row:=rfl
   generalize gs[i].row=X at *
   generalize gs[i].al=l at *
   generalize gs[i].g.ru=rs at *
   generalize gs[i].g.n=nm at *
   generalize l.map Al.row=LR at *
   generalize rs.map Ru.row=QR at *
   simp -implicitDefEqProofs [g,gR,ra,hN,hN2,xl,rl,x7,ul']
   refine wp_lpk (α:=Nat) (fun j=>⟨[(0,.ptr (.up b) 0),(3,.ptr (.n 3) 0),(6,.ptr (.n 6) 0),(13,.sl RR),(14,i6 gs.length),(15,i6 i),(21,.sl QR),(22,i6 rs.length),(23,i6 j)],[(.up b,N),(.n 3,[.str k.g,.str k.r,.bool k.p,u k.e,.bool k.f]),(.n 6,X)],[(.b (.up b) 11,2)]⟩)
    (fun j=>j≤rs.length∧((Z.drop j).any (fireQ k nm)||rest)=R) (fun j=>rs.length - j) ?_ 0 ?_ ?_
   ·rintro K2 j hK2 ⟨q1,q2⟩
    have u1:IntKind.i64.wrap ((j:Int)+1)=(j+1:Nat):=by rw [wrap_i64]<;>omega
    by_cases hr:j<rs.length
    ·have hr':(j:Int)<rs.length:=by omega
     have jQ:j<QR.length:=by omega
     have uj:=UR j hr jQ
     have fin2:((Z.drop (j+1)).any (fireQ k nm)||rest)=R→ ∀σ',Weak σ' ⟨[(0,.ptr (.up b) 0),(3,.ptr (.n 3) 0),(6,.ptr (.n 6) 0),(13,.sl RR),(14,i6 gs.length),(15,i6 i),(21,.sl QR),(22,i6 rs.length),(23,i6 (j+1:Nat))],[(.up b,N),(.n 3,[.str k.g,.str k.r,.bool k.p,u k.e,.bool k.f]),(.n 6,X)],[(.b (.up b) 11,2)]⟩→K2 σ':=
      fun hh σ' hσ=>hK2 (j+1) σ' ⟨by omega,hh⟩ (by omega) hσ
     clear hK2 h2 fin UR
     by_cases hj:j<l.length
     ·have h:j<Z.length:=by omega
      have hj':(j:Int)<l.length:=by omega
      rw [List.drop_eq_getElem_cons h,List.any_cons,Bool.or_assoc,zat j hj hr h,fireQ_six] at q2
      have jR:j<LR.length:=by omega
      have aj:=AR j hj jR
      have FR:=alfires_spec l[j]
      clear AR zat
      generalize ((Z.drop (j+1)).any (fireQ k nm)||rest)=r2 at *
      unfold Al.row at FR
      generalize alFires l[j]=ff at *
      obtain ⟨kg,kr,kp,ke,kf⟩:=k
      simp only at q2 fin2 ⊢
      generalize hb1:(kg==nm)=b1 at *
      generalize hb2:(kr==rs[j].n)=b2 at *
      generalize hb3:(kp==rs[j].p)=b3 at *
      generalize hb4:((ke:Int)==(l[j].e:Int))=b4 at *
      cases ff
      ·simp only [Bool.false_and,Bool.false_or] at q2
       simp -implicitDefEqProofs [hj,hr,hj',hr',jR,jQ,x0,x7,x14,xl,al',ul',aj,uj]
       refine onC_mk _ (FR) ?_
       simp -implicitDefEqProofs [hj,hr,hj',hr',jR,jQ,x0,x7,x14,xl,al',ul',aj,uj]
       refine fin2 (by simpa using q2) _ ?_
       refine weak_mk ?_ ?_ ?_ ?_ ?_ ?_<;>simp -implicitDefEqProofs [u1,hNi,xi,hNm]
      ·have hf:(kf==false)=!kf:=by cases kf<;>rfl
       generalize hB:((kg==nm)&&((kr==rs[j].n)&&((kp==rs[j].p)&&(((ke:Int)==(l[j].e:Int))&&(kf==false)))))=B
       have hB':(!kf&&(b1&&(b2&&(b3&&b4))))=B:=by
        rw [←hB,hb1,hb2,hb3,hb4,hf]
        cases kf<;>cases b1<;>cases b2<;>cases b3<;>cases b4<;>rfl
       rw [hB',Bool.true_and] at q2
       rw [hb1,hb2,hb3,hb4,hf] at hB
       cases hBB:B
       ·rw [hBB] at q2 hB
        simp -implicitDefEqProofs [hj,hr,hj',hr',jR,jQ,x0,x7,x14,xl,al',ul',aj,uj]
        refine onC_mk _ (FR) ?_
        simp -implicitDefEqProofs [hj,hr,hj',hr',jR,jQ,x0,x7,x14,xl,al',ul',aj,uj,hb1,hb2,hb3,hb4,hf,hB]
        refine fin2 (by simpa using q2) _ ?_
        refine weak_mk ?_ ?_ ?_ ?_ ?_ ?_<;>simp -implicitDefEqProofs [u1,hNi,xi,hNm]
       ·rw [hBB] at q2 hB
        simp only [Bool.true_or] at q2
        subst q2
        simp -implicitDefEqProofs [hj,hr,hj',hr',jR,jQ,x0,x7,x14,xl,al',ul',aj,uj]
        refine onC_mk _ (FR) ?_
        simp -implicitDefEqProofs [hj,hr,hj',hr',jR,jQ,x0,x7,x14,xl,al',ul',aj,uj,hb1,hb2,hb3,hb4,hf,hB]
        refine postH_r ⟨?_,?_,?_,?_,?_,?_⟩<;>simp -implicitDefEqProofs [hib,hb,hNi,hNm]
     ·have hj': ¬(j:Int)<l.length:=by omega
      rw [List.drop_eq_nil_of_le (by omega)] at q2 fin2
      simp -implicitDefEqProofs [hj,hr,hj',hr',jQ,x0,x7,x14,xl,al',ul',uj]
      refine fin2 q2 _ ?_
      refine weak_mk ?_ ?_ ?_ ?_ ?_ ?_<;>simp -implicitDefEqProofs [u1,hNi,xi,hNm]
    ·obtain rfl:j=rs.length:=by omega
     rw [List.drop_eq_nil_of_le (by omega)] at q2
     simp only [List.any_nil,Bool.false_or] at q2
     have fin:=fin q2
     clear hK2
     simp -implicitDefEqProofs
     refine fin _ ?_
     refine weak_mk ?_ ?_ ?_ ?_ ?_ ?_<;>simp -implicitDefEqProofs [t1,hNi,hNm]
   ·exact ⟨Nat.zero_le _,h2⟩
   ·refine weak_mk ?_ ?_ ?_ ?_ ?_ ?_<;>simp -implicitDefEqProofs [hNi,xi,hNm,xt]
  ·obtain rfl:i=gs.length:=by omega
   rw [List.drop_length] at h2
   simp only [List.any_nil] at h2
   subst h2
   clear hK
   simp -implicitDefEqProofs
   refine postH_r ⟨?_,?_,?_,?_,?_,?_⟩<;>simp -implicitDefEqProofs [hib,hb,hNi,hNm]
 ·exact ⟨Nat.zero_le _,hR.symm⟩
 ·refine weak_mk ?_ ?_ ?_ ?_ ?_ ?_<;>simp -implicitDefEqProofs [hNi,hNm]
open Go.Proofs
def lkN (v:Vw) (fs:List Fd):List AV:=v.row++[.sl (fs.map Fd.row)]
theorem lkN_len (v:Vw) (fs:List Fd):(lkN v fs).length=12:=rfl
theorem lkN_ids (v:Vw) (fs:List Fd):idsL (lkN v fs)=[]:=rfl
theorem lkN_mp (v:Vw) (fs:List Fd) (f:Id→Id):mpL f (lkN v fs)=lkN v fs:=mpL_noids (lkN_ids v fs)
theorem lkN_0 (v:Vw) (fs:List Fd) (h:0<(lkN v fs).length):(lkN v fs)[0]=i6 v.now:=rfl
theorem lkN_1 (v:Vw) (fs:List Fd) (h:1<(lkN v fs).length):(lkN v fs)[1]=u v.ep:=rfl
theorem lkN_2 (v:Vw) (fs:List Fd) (h:2<(lkN v fs).length):(lkN v fs)[2]= .sl (v.gs.map GV.row):=rfl
theorem lkN_8 (v:Vw) (fs:List Fd) (h:8<(lkN v fs).length):(lkN v fs)[8]= .sl (v.es.map En.row):=rfl
theorem lkN_Lk (v:Vw) (fs:List Fd):Lk (lkN v fs) v.now v.ep:=⟨rfl,rfl,fun _=>rfl,fun _=>rfl⟩
theorem lksay_spec (v:Vw) (fs:List Fd) (hl:fs.length≤1000000) (ok:Bool) (k:Int) (n:List UInt8) (d:Nat) (b:Id) (hb:b.isIt=false) (hbd:b.isNw d=false):
  SpH Tryz.prog gl 31 d ⟨[.ptr b 0,.bool ok,i6 k,.str n],[(b,lkN v fs)],[(.b b 11,2)]⟩ ⟨.tup [],[(b,lkN v (fadd fs ok k n))],[(.b b 11,2)]⟩:=
 say_spec v.row rfl rfl fs hl ok k n d b hb hbd
theorem lkperiod_spec (v:Vw) (fs:List Fd) (x:GV) (d:Nat) (b:Id) (hb:b.isIt=false) (hbd:b.isNw d=false):
  SpH Tryz.prog gl 88 d ⟨[.ptr b 0,.agg x.row],[(b,lkN v fs)],[(.b b 11,2)]⟩ ⟨.bool (periodF v.now x),[(b,lkN v fs)],[(.b b 11,2)]⟩:=
 periodOf_spec v.now [u v.ep,.sl (v.gs.map GV.row),i6 v.r,i6 v.v,i6 v.i,i6 v.x,i6 v.y,.sl (v.es.map En.row),u v.dr,.sl (v.ss.map Si.row)] rfl rfl (fs.map Fd.row) x d b hb hbd
theorem lkalerts_spec (v:Vw) (fs:List Fd) (x:GV) (hl:x.al.length≤1000000) (d:Nat) (b:Id) (hb:b.isIt=false) (hbd:b.isNw d=false):
  SpH Tryz.prog gl 89 d ⟨[.ptr b 0,.agg x.row],[(b,lkN v fs)],[(.b b 11,2)]⟩ ⟨.bool (alertsF v.now v.ep x),[(b,lkN v fs)],[(.b b 11,2)]⟩:=
 alertsOf_spec (lkN v fs) v.now v.ep (lkN_Lk v fs) x hl d b hb hbd
theorem lkfires_spec (v:Vw) (fs:List Fd) (k:Ky) (hl:v.gs.length≤1000) (ha: ∀g∈v.gs,g.al.length≤1000000∧g.g.ru.length≤1000000) (d:Nat) (b:Id) (hb:b.isIt=false) (hbd:b.isNw d=false):
  SpH Tryz.prog gl 93 d ⟨[.ptr b 0,.agg k.row],[(b,lkN v fs)],[(.b b 11,2)]⟩ ⟨.bool (firesF v.gs k),[(b,lkN v fs)],[(.b b 11,2)]⟩:=
 lfires_spec v.gs (lkN v fs) rfl rfl (fun _=>rfl) k hl ha d b hb hbd
theorem cnt_step {α:Type} [DecidableEq α] (mk:α→MK) (hs: ∀a b:α,MK.same (mk a) (mk b)=some (decide (a=b))) (l:List (α×Nat)) (s:List α) (S:Seen l s) (hl:s.length≤100000000) (n:α):
  ∃(MB:List (MK×MK)) (jj cc:Nat),MB=cntG mk (bumpG l n)∧mfind (mk n) MB 0=some (some (jj,.i .i64 (cc:Nat)))∧((cc:Int)==1)=decide (n∉s)∧
   ((mfind (mk n) (cntG mk l) 0=some none∧cntG mk l++[(mk n,.i .i64 1)]=MB∧IntKind.i64.wrap 1=1)∨
    ∃j c:Nat,mfind (mk n) (cntG mk l) 0=some (some (j,.i .i64 (c:Nat)))∧mset (cntG mk l) j (.i .i64 ((c:Int)+1))=MB∧IntKind.i64.wrap ((c:Int)+1)=(c:Int)+1):=by
 refine ⟨cntG mk (bumpG l n),?_⟩
 rcases cntG_find mk hs n l 0 with ⟨q0,q1,q2,q3⟩|⟨j,c,q0,q1,q2,q3⟩
 ·refine ⟨0+l.length,1,rfl,by rw [q2];exact q3,?_,.inl ⟨q1,q2.symm,by rw [wrap_i64]<;>omega⟩⟩
  rw [S.mem] at q0
  simp [q0]
 ·have hle:=S.le _ q0
  simp only at hle
  have e:((c+1:Nat):Int)=(c:Int)+1:=by omega
  rw [e] at q2
  refine ⟨0+j,c+1,rfl,q3,?_,.inr ⟨j,c,by rw [Nat.zero_add] at q1;exact q1,q2,by rw [wrap_i64]<;>omega⟩⟩
  have hm:n∈s:=by rw [←S.mem];exact List.mem_map.2 ⟨_,q0,rfl⟩
  rw [decide_eq_false (by simpa using hm),beq_eq_false_iff_ne]
  omega
end Go.Ai
