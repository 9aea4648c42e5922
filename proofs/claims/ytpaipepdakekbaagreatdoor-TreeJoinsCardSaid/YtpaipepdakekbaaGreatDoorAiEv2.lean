/- AiEv2: a part of the proof: the rules, or what functions compute. Conditions: as each theorem says. -/
import Derived.Test.YtpaipepdakekbaaGreatDoorAiEv
set_option linter.unusedSimpArgs false
set_option linter.unusedVariables false
namespace Go.Ai
open Go.RowKit
variable {P:Program} {F:Fr} {S:Mem} {gb:Gb} {σ:St} {a:Act} {w:World}

theorem loadCells_at {b o:Nat} {us:List Value} (h: ∀j u,us[j]?=some u→w.cell? ⟨b,o+j,none⟩=some u):(loadCells ⟨b,o,none⟩ us.length).run P w= .ok us.toArray w:=
 run_loadCells_list (P:=P) w ⟨b,o,none⟩ us (fun j u hu=>by rw [Addr.add_lit];exact h j u hu)

theorem Rel.boxcell (h:Rel F S gb σ a w) {d:Id} {g:Nat} {z:BZ} {cs:List AV} (hd:lkB σ.bx d=some cs) (hi:d.isIt=false) (hg:gb d=some (g,z)):
  ∃us:List Value,(∀j u,us[j]?=some u→w.cell? ⟨g,j,none⟩=some u)∧PRlist S gb cs us∧(∀u∈us,u.oneCell'=true):=by
 obtain ⟨g',us,T,e1,e3,e0,e4,e5,_⟩:=h.hr.box d cs hd hi
 rw [hg] at e1;cases e1
 refine ⟨us.toList.take cs.length,fun j u hu=>?_,e4,fun u hu=>e5 u (List.mem_of_mem_take hu)⟩
 rw [cell_of_row w g j us T _ e3]
 rw [List.getElem?_take] at hu
 split at hu
 ·simpa using hu
 ·cases hu

theorem gb0to {S:Mem} {gb:Gb} {c:AV} {u:Value} (h:PR S gb0 c u):PR S gb c u:=PR.mono (Mem.le.refl _) (gb0_le _) _ _ h
theorem gb0toL {S:Mem} {gb:Gb} {c:List AV} {u:List Value} (h:PRlist S gb0 c u):PRlist S gb c u:=PRlist.mono (Mem.le.refl _) (gb0_le _) _ _ h

theorem loadS_sound (h:Rel F S gb σ a w) {x v:AV} {p:Value} {t:Nat} (ht:scal P t=true) (hl:loadS σ.bx x=some v) (hx:PR S gb x p):
  ∃u,(Instr.loadAt t p).run P w= .ok u w∧PR S gb v u:=by
 unfold loadS at hl
 split at hl
 ·rename_i d off
  split at hl
  ·rename_i cs hcs
   simp only [PR] at hx
   obtain ⟨g,z,hg,hi,rfl⟩:=hx
   obtain ⟨us,h1,h2,_⟩:=h.boxcell hcs hi hg
   obtain ⟨u,hu,hp⟩:=h2.get hl
   exact ⟨u,by simp [Instr.loadAt,Instr.sureAddr,loadVar,run_isAgg_s ht,h1 off u hu],hp⟩
  ·cases hl
 ·rename_i cs
  simp only [PR] at hx
  obtain ⟨g,o,rfl,hc⟩:=hx
  obtain ⟨u,h1,h0,h2⟩:=hc.get hl
  have h1':=h.hr.agree _ _ _ h1
  simp only [Nat.add_zero] at h1'
  exact ⟨u,by simp [Instr.loadAt,Instr.sureAddr,loadVar,run_isAgg_s ht,h1'],gb0to h2⟩
 ·cases hl

theorem loadN_sound (h:Rel F S gb σ a w) {x v:AV} {p:Value} {t n:Nat} (ht:aggT P t=true) (hn:sz? P t=some n) (hl:loadN σ.bx n x=some v) (hx:PR S gb x p):
  ∃u,(Instr.loadAt t p).run P w= .ok u w∧PR S gb v u:=by
 unfold loadN at hl
 split at hl
 ·rename_i d off
  split at hl
  ·rename_i cs hcs
   split at hl
   ·rename_i hle
    simp only [Option.some.injEq] at hl;subst hl
    simp only [PR] at hx
    obtain ⟨g,z,hg,hi,rfl⟩:=hx
    obtain ⟨us,h1,h2,h3⟩:=h.boxcell hcs hi hg
    have h4:=(h2.drop off).take n
    have hlen:((us.drop off).take n).length=n:=by have:=h2.length;simp;omega
    have hld:=loadCells_at (P:=P) (w:=w) (b:=g) (o:=off) (us:=(us.drop off).take n) (fun j u hu=>by
     rw [List.getElem?_take] at hu
     split at hu
     ·rw [List.getElem?_drop] at hu;exact h1 _ _ hu
     ·cases hu)
    rw [hlen] at hld
    refine ⟨.agg ((us.drop off).take n).toArray,by simp [Instr.loadAt,Instr.sureAddr,loadVar,run_isAgg_a ht,run_sizeOf hn,hld],?_⟩
    simp only [PR]
    exact ⟨_,rfl,fun u hu=>h3 u (List.mem_of_mem_drop (List.mem_of_mem_take (by simpa using hu))),by simpa using h4⟩
   ·cases hl
  ·cases hl
 ·rename_i cs
  split at hl
  ·rename_i hle
   simp only [Option.some.injEq] at hl;subst hl
   simp only [PR] at hx
   obtain ⟨g,o,rfl,hc⟩:=hx
   obtain ⟨us,l1,l2,l3,l4⟩:=hc.list
   have hlen:(us.take n).length=n:=by simp;omega
   have hld:=loadCells_at (P:=P) (w:=w) (b:=g) (o:=o) (us:=us.take n) (fun j u hu=>by
     rw [List.getElem?_take] at hu
     split at hu
     ·exact h.hr.agree _ _ _ (l2 _ _ hu)
     ·cases hu)
   rw [hlen] at hld
   refine ⟨.agg (us.take n).toArray,by simp [Instr.loadAt,Instr.sureAddr,loadVar,run_isAgg_a ht,run_sizeOf hn,hld],?_⟩
   simp only [PR]
   exact ⟨_,rfl,fun u hu=>l3 u (List.mem_of_mem_take (by simpa using hu)),by simpa using gb0toL (l4.take n)⟩
  ·cases hl
 ·cases hl

theorem cs_PR {v:AV} {cs:List AV} {u:Value} (h:v.cs=some cs) (hp:PR S gb v u):PRlist S gb cs u.cells.toList∧(∀c∈u.cells.toList,c.oneCell'=true):=by
 cases v<;>simp only [AV.cs,Option.some.injEq,reduceCtorEq] at h
 case agg cs'=>
  subst h
  simp only [PR] at hp
  obtain ⟨us,rfl,h1,h2⟩:=hp
  exact ⟨h2,h1⟩
 all_goals subst h
 all_goals (have hp':=hp;simp only [PR] at hp)
 case int=>subst hp;exact ⟨⟨_,[],rfl,hp',rfl⟩,by simp [Value.cells,Value.oneCell']⟩
 case nilT=>obtain ⟨rfl,_⟩:=hp;exact ⟨⟨_,[],rfl,hp',rfl⟩,by simp [Value.cells,Value.oneCell']⟩
 case bool=>subst hp;exact ⟨⟨_,[],rfl,hp',rfl⟩,by simp [Value.cells,Value.oneCell']⟩
 case str=>subst hp;exact ⟨⟨_,[],rfl,hp',rfl⟩,by simp [Value.cells,Value.oneCell']⟩
 case nils=>subst hp;exact ⟨⟨_,[],rfl,hp',rfl⟩,by simp [Value.cells,Value.oneCell']⟩
 case nilp=>subst hp;exact ⟨⟨_,[],rfl,hp',rfl⟩,by simp [Value.cells,Value.oneCell']⟩
 case sl=>
  rcases hp with ⟨rfl,_⟩|⟨_,_,_,rfl,_⟩<;>exact ⟨⟨_,[],rfl,hp',rfl⟩,by simp [Value.cells,Value.oneCell']⟩
 case pin=>obtain ⟨_,_,rfl,_⟩:=hp;exact ⟨⟨_,[],rfl,hp',rfl⟩,by simp [Value.cells,Value.oneCell']⟩
 case ptr=>obtain ⟨_,_,_,_,rfl⟩:=hp;exact ⟨⟨_,[],rfl,hp',rfl⟩,by simp [Value.cells,Value.oneCell']⟩
 case mref=>obtain ⟨_,_,_,_,rfl⟩:=hp;exact ⟨⟨_,[],rfl,hp',rfl⟩,by simp [Value.cells,Value.oneCell']⟩
 case ms=>obtain ⟨_,_,_,_,_,rfl,_⟩:=hp;exact ⟨⟨_,[],rfl,hp',rfl⟩,by simp [Value.cells,Value.oneCell']⟩
 case fn=>obtain ⟨_,rfl,_⟩:=hp;exact ⟨⟨_,[],rfl,hp',rfl⟩,by simp [Value.cells,Value.oneCell']⟩
 case ifc=>obtain ⟨_,rfl,_⟩:=hp;exact ⟨⟨_,[],rfl,hp',rfl⟩,by simp [Value.cells,Value.oneCell']⟩
 case nili=>subst hp;exact ⟨⟨_,[],rfl,hp',rfl⟩,by simp [Value.cells,Value.oneCell']⟩

theorem fold_set (vs:List Value) (off:Nat): ∀(k:Nat) (cs:Array Value),off+k+vs.length≤cs.size→
  ((vs.zipIdx k).foldl (fun cs (x:Value×Nat)=>cs.setIfInBounds (off+x.2) x.1) cs).toList=cs.toList.take (off+k)++vs++cs.toList.drop (off+k+vs.length):=by
 induction vs with
 |nil=>intro k cs h;simp
 |cons v r ih=>
  intro k cs h
  have h2:=ih (k+1) (cs.setIfInBounds (off+k) v) (by simp at h ⊢;omega)
  simp only [List.zipIdx_cons,List.foldl_cons]
  rw [h2]
  simp only [Array.toList_setIfInBounds,List.length_cons]
  have hk:off+k<cs.toList.length:=by simp at h ⊢;omega
  have e4:(cs.toList.set (off+k) v).take (off+(k+1))=cs.toList.take (off+k)++[v]:=by
   rw [show off+(k+1)=off+k+1 by omega,List.take_succ_eq_append_getElem (by simpa using hk)]
   simp [List.take_set]
   exact List.set_eq_of_length_le (by simp;omega)
  have e5:(cs.toList.set (off+k) v).drop (off+(k+1)+r.length)=cs.toList.drop (off+k+(r.length+1)):=by
   rw [List.drop_set_of_lt (by omega)]
   congr 1
   omega
  rw [e4,e5]
  simp

theorem PRlist.fill {S:Mem} {gb:Gb} {z cs:List AV} {zs us:List Value} {off:Nat} (hz:PRlist S gb z zs) (hc:PRlist S gb cs us):PRlist S gb (fillA z off cs) (zs.take off++us++zs.drop (off+us.length)):=by
 unfold fillA
 rw [hc.length]
 exact ((hz.take off).append hc).append (hz.drop _)

theorem buildA_sound (h:Rel F S gb σ a w) (fs:List (Nat×Nat)): ∀ {ps:List (Nat×Nat×X)} {qs:List (Nat×Operand)},mBuild F.GL fs ps qs=true→ ∀ {z r:List AV} {zs:Array Value},buildA σ ps z=some r→
  PRlist S gb z zs.toList→(∀u∈zs.toList,u.oneCell'=true)→
  ∃us,Instr.fill (fs[·]?) zs (qs.map fun x=>(x.1,a.eval x.2))=some us∧PRlist S gb r us.toList∧(∀u∈us.toList,u.oneCell'=true)
 |[],qs,hm,z,r,zs,hb,hz,h1=>by
  cases qs<;>simp [mBuild] at hm
  simp [buildA] at hb;subst hb
  exact ⟨zs,by simp [Instr.fill],hz,h1⟩
 |(off,n,x)::ps,qs,hm,z,r,zs,hb,hz,h1=>by
  cases qs with
  |nil=>simp [mBuild] at hm
  |cons q qs=>
   obtain ⟨i,y⟩:=q
   simp only [mBuild,Bool.and_eq_true,beq_iff_eq] at hm
   obtain ⟨⟨hi,hx⟩,hm⟩:=hm
   simp only [buildA] at hb
   split at hb
   ·rename_i cs hcs
    split at hb
    ·rename_i hl
     have hp:=mX_sound h hx
     obtain ⟨h2,h3⟩:=cs_PR hcs hp
     have hlen:(a.eval y).cells.size=n:=by rw [←Array.length_toList,←h2.length];exact hl.1
     have hzl:z.length=zs.size:=by rw [hz.length];simp
     have hfold:=fold_set (a.eval y).cells.toList off 0 zs (by simp;omega)
     simp only [Nat.add_zero] at hfold
     have hnew:PRlist S gb (fillA z off cs) ((a.eval y).cells.toList.zipIdx.foldl (fun cs (x:Value×Nat)=>cs.setIfInBounds (off+x.2) x.1) zs).toList:=by
      rw [hfold];exact hz.fill h2
     have hone: ∀u∈((a.eval y).cells.toList.zipIdx.foldl (fun cs (x:Value×Nat)=>cs.setIfInBounds (off+x.2) x.1) zs).toList,u.oneCell'=true:=by
      rw [hfold]
      intro u hu
      simp only [List.mem_append] at hu
      rcases hu with (hu|hu)|hu
      ·exact h1 u (List.mem_of_mem_take hu)
      ·exact h3 u hu
      ·exact h1 u (List.mem_of_mem_drop hu)
     obtain ⟨us,g1,g2,g3⟩:=buildA_sound h fs hm hb hnew hone
     refine ⟨us,?_,g2,g3⟩
     simp only [List.map_cons,Instr.fill,hi]
     rw [if_neg (by simp [hlen];omega),←Array.foldl_toList,Array.toList_zipIdx]
     exact g1
    ·cases hb
   ·cases hb
end Go.Ai
